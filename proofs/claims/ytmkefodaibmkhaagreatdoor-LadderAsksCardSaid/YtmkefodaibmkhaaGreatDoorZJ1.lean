/- Sketches at work as plain data: a number added, one level lower. No program in sight. Sketches at work as plain data: two merged. No program in sight. -/
import Derived.Test.YtmkefodaibmkhaaGreatDoorZG0
import Derived.Test.YtmkefodaibmkhaaGreatDoorZXB
namespace Go.Proofs.YtmkefodaibmkhaaGreatDoor
open Go Go.RowKit

inductive Bd where
  | num (l : List Int)
  | reg (b : Nat) (r : List Nat)
  | cnt (c : Nat) (l : List Int)
  | bkt (f : Nat) (l : List (Int × Int))
def Bd.add : Bd → Nat → Int → Option Bd
  | .num l, h, _ => (exGather l [(h : Int)]).map .num
  | .reg b r, h, _ => some (.reg b (hlAdd b r h))
  | .cnt c l, h, n => some (.cnt c (cmAdd c l h n))
  | .bkt f l, h, n => some (.bkt f (hiAdd f l h n))
def Bd.low : Bd → Bd
  | .num l => .reg 7 (hlSum 7 (hlNone 7) (l.map Int.toNat))
  | .reg b r => .reg (b - 1) (hlLow b r)
  | .cnt c l => .cnt (c / 2) (cmLow c l)
  | .bkt f l => .bkt (f - 1) (hiLow l)
def Bd.Ok (kind level : Nat) : Bd → Prop
  | .num l => kind = 1 ∧ level = 0 ∧ Up l ∧ l.length ≤ 64 ∧ U64s l
  | .reg b r => kind = 1 ∧ 1 ≤ level ∧ level ≤ 4 ∧ b + level = 8 ∧ r.length = 2 ^ b ∧ ∀ i, r.getD i 0 ≤ 65 - b
  | .cnt c l => kind = 2 ∧ level ≤ 3 ∧ c * 2 ^ level = 32 ∧ l.length = c + c ∧ U64s l
  | .bkt f l => kind = 3 ∧ level ≤ 3 ∧ f + level = 3 ∧ BinUp l ∧ (∀ b ∈ l, b.2 ≠ 0) ∧ BinsU l ∧ ∀ b ∈ l, boundsB f b.1 = true
def botN (kind : Nat) : Nat := if kind = 1 then 4 else 3
def wkAdd (s : Nat × Bd) (i : Nat × Int) : Nat × Bd := match s.2.add i.1 i.2 with
  | some b => (s.1, b)
  | none => (s.1 + 1, (s.2.low.add i.1 i.2).getD s.2.low)
def wkLow (s : Nat × Bd) : Nat × Bd := (s.1 + 1, s.2.low)
def wkDown : Nat → Nat × Bd → Nat × Bd
  | 0, s => s
  | n + 1, s => wkDown n (wkLow s)
def wkTo (s : Nat × Bd) (t : Nat) : Nat × Bd := wkDown (t - s.1) s
def Item.ok (i : Nat × Int) : Prop := i.1 < 2 ^ 64 ∧ U64 i.2

theorem bk_at (f : Nat) (hf : f ≤ 3) (v : Nat) (h0 : v ≠ 0) : ∃ p, p < 2 ^ f ∧ hiBk f v = 1 + ((Lib.bitLen v - 1) * 2 ^ f + p : Nat) := by
  refine ⟨v * 2 ^ (64 - (Lib.bitLen v - 1)) % 2 ^ 64 / 2 ^ (64 - f), ?_, ?_⟩
  · rw [Nat.div_lt_iff_lt_mul (Nat.two_pow_pos _), ← Nat.pow_add, show f + (64 - f) = 64 by omega]
    exact Nat.mod_lt _ (by decide)
  · unfold hiBk
    rw [if_neg h0, Int.toNat_natCast]
theorem isFine_nat (f : Nat) (hf : f ≤ 3) : isFineB (f : Int) = true := by simp [isFineB]; omega
theorem bounds_small : ∀ f ∈ [0, 1, 2, 3], ∀ v ∈ [1, 2, 3, 4, 5, 6, 7], boundsB ((f : Nat) : Int) (hiBk ((f : Nat) : Int) v) = true := by decide +kernel
theorem bounds_bk (f : Nat) (hf : f ≤ 3) (v : Nat) (hv : v < 2 ^ 64) : boundsB f (hiBk f v) = true := by
  by_cases h0 : v = 0
  · subst h0
    simp [boundsB, hiBk, isFine_nat f hf]
  by_cases h7 : v ≤ 7
  · exact bounds_small f (by simp; omega) v (by simp; omega)
  obtain ⟨p, hp, he⟩ := bk_at f hf v h0
  obtain ⟨b1, b2, b3⟩ := bitLen_bd v hv h0
  have b4 := bitLen_64 v hv h0
  have b5 : 4 ≤ Lib.bitLen v := by
    apply Classical.byContradiction
    intro hc
    have : 2 ^ Lib.bitLen v ≤ 2 ^ 3 := Nat.pow_le_pow_right (by omega) (by omega)
    omega
  have hq : ((Lib.bitLen v - 1) * 2 ^ f + p) / 2 ^ f = Lib.bitLen v - 1 := by
    rw [Nat.mul_comm, Nat.mul_add_div (Nat.two_pow_pos _), Nat.div_eq_of_lt hp, Nat.add_zero]
  rw [he, boundsB_at _ _ (by omega) (isFine_nat f hf)]
  have e1 : (1 + (((Lib.bitLen v - 1) * 2 ^ f + p : Nat) : Int) - 1) / 2 ^ ((f : Int)).toNat = ((Lib.bitLen v - 1 : Nat) : Int) := by
    rw [Int.toNat_natCast, show (1 + (((Lib.bitLen v - 1) * 2 ^ f + p : Nat) : Int) - 1) = (((Lib.bitLen v - 1) * 2 ^ f + p : Nat) : Int) by omega, show ((2 : Int) ^ f) = ((2 ^ f : Nat) : Int) by simp, ← Int.natCast_ediv, hq]
  rw [e1, if_neg (by omega), if_pos (by omega)]
theorem half_small : ∀ f ∈ [1, 2, 3], ∀ p ∈ List.range 26, boundsB ((f : Nat) : Int) ((p : Nat) : Int) = true → boundsB ((f : Nat) - 1 : Int) (hiHalf ((p : Nat) : Int)) = true := by decide +kernel
theorem bounds_half (f : Nat) (h1 : 1 ≤ f) (h3 : f ≤ 3) (p : Int) (h : boundsB f p = true) : boundsB ((f - 1 : Nat) : Int) (hiHalf p) = true := by
  have hp0 : 0 ≤ p := by
    unfold boundsB at h
    split at h
    · rename_i hc
      simp only [Bool.and_eq_true, decide_eq_true_eq] at hc
      exact hc.2
    · cases h
  have hf1 : ((f - 1 : Nat) : Int) = (f : Int) - 1 := by omega
  by_cases hs : p < 26
  · have := half_small f (by simp; omega) p.toNat (by simp; omega)
    rw [Int.toNat_of_nonneg hp0] at this
    rw [hf1]
    exact this h
  rw [boundsB_at _ _ (by omega) (isFine_nat f h3)] at h
  have hh : hiHalf p = 1 + (p - 1) / 2 := by unfold hiHalf; rw [if_neg (by omega)]
  rw [hh, boundsB_at _ _ (by omega) (isFine_nat _ (by omega))]
  rcases (by omega : f = 1 ∨ f = 2 ∨ f = 3) with rfl | rfl | rfl
  · simp only [show (((1 : Nat) : Int)).toNat = 1 from rfl, show (((1 - 1 : Nat) : Int)).toNat = 0 from rfl] at h ⊢
    by_cases hc : 64 ≤ (p - 1) / 2 ^ 1
    · rw [if_pos hc] at h; cases h
    · rw [if_neg (by omega), if_pos (by omega)]
  · simp only [show (((2 : Nat) : Int)).toNat = 2 from rfl, show (((2 - 1 : Nat) : Int)).toNat = 1 from rfl] at h ⊢
    by_cases hc : 64 ≤ (p - 1) / 2 ^ 2
    · rw [if_pos hc] at h; cases h
    · rw [if_neg (by omega), if_pos (by omega)]
  · simp only [show (((3 : Nat) : Int)).toNat = 3 from rfl, show (((3 - 1 : Nat) : Int)).toNat = 2 from rfl] at h ⊢
    by_cases hc : 64 ≤ (p - 1) / 2 ^ 3
    · rw [if_pos hc] at h; cases h
    · rw [if_neg (by omega), if_pos (by omega)]
theorem exIns_u64 (l : List Int) (n : Int) (hu : Up l) (hl : U64s l) (hn : U64 n) : U64s (exIns l n) := by
  rw [exIns_eq l n hu]
  intro x hx
  rcases (insR_mem l n x).1 hx with rfl | h
  · exact hn
  · exact hl x h
theorem cnt_cases {c level : Nat} (h3 : level ≤ 3) (h : c * 2 ^ level = 32) : (level = 0 ∧ c = 32) ∨ (level = 1 ∧ c = 16) ∨ (level = 2 ∧ c = 8) ∨ (level = 3 ∧ c = 4) := by
  rcases (by omega : level = 0 ∨ level = 1 ∨ level = 2 ∨ level = 3) with rfl | rfl | rfl | rfl <;> simp only [Nat.reducePow] at h <;> omega
theorem bd_add_ok {k L : Nat} {b b' : Bd} {h : Nat} {n : Int} (hb : b.Ok k L) (hh : h < 2 ^ 64) (hn : U64 n) (he : b.add h n = some b') : b'.Ok k L := by
  cases b with
  | num l =>
    obtain ⟨h1, h2, h3, h4, h5⟩ := hb
    simp only [Bd.add, exGather] at he
    split at he
    · cases he
    · rename_i hc
      simp only [Option.map_some, Option.some.injEq] at he
      subst he
      exact ⟨h1, h2, by rw [exIns_eq l _ h3]; exact insR_up l _ h3, by omega, exIns_u64 l _ h3 h5 (by unfold U64; omega)⟩
  | reg b r =>
    obtain ⟨h1, h2, h3, h4, h5, h6⟩ := hb
    simp only [Bd.add, Option.some.injEq] at he
    subst he
    exact ⟨h1, h2, h3, h4, by rw [hlAdd_len, h5], hlTell_le r _ _ _ h6 (hlRank_le b h (by omega))⟩
  | cnt c l =>
    obtain ⟨h1, h2, h3, h4, h5⟩ := hb
    simp only [Bd.add, Option.some.injEq] at he
    subst he
    exact ⟨h1, h2, h3, by rw [cmAdd_len, h4], cmAdd_u64 c l h n h5 hn⟩
  | bkt f l =>
    obtain ⟨h1, h2, h3, h4, h5, h6, h7⟩ := hb
    simp only [Bd.add, Option.some.injEq] at he
    subst he
    refine ⟨h1, h2, h3, ?_, ?_, ?_, ?_⟩
    · exact hiDone_up (binPut_up _ _ _ h4)
    · exact hiDone_pos
    · exact hiDone_u64 (binPut_u64 _ _ _ h6 hn)
    · intro x hx
      rcases binPut_mem _ _ _ x (List.mem_filter.1 hx).1 with e | hx
      · rw [e]; exact bounds_bk f (by omega) h hh
      · exact h7 x hx
theorem hlSum_le (b : Nat) (hb : b ≤ 8) : ∀ (l r : List Nat), (∀ i, r.getD i 0 ≤ 65 - b) → ∀ i, (hlSum b r l).getD i 0 ≤ 65 - b
  | [], _, h => h
  | x :: l, r, h => hlSum_le b hb l _ (hlTell_le r _ _ _ h (hlRank_le b x hb))
theorem hlNone_le (b m : Nat) : ∀ i, (hlNone b).getD i 0 ≤ m := fun i => by
  unfold hlNone
  rw [List.getD_eq_getElem?_getD, List.getElem?_replicate]
  split <;> simp
theorem hlLow_le (b : Nat) (h1 : 4 ≤ b) (h2 : b ≤ 8) (r : List Nat) (h : ∀ i, r.getD i 0 ≤ 65 - b) : ∀ i, (hlLow b r).getD i 0 ≤ 65 - (b - 1) := fun i => by
  by_cases hi : i < 2 ^ (b - 1)
  · rw [low_at _ _ _ hi]
    have g1 := h (2 * i)
    have g2 := oneR_le (r.getD (2 * i + 1) 0)
    have g3 : upR (r.getD (2 * i) 0) ≤ r.getD (2 * i) 0 + 1 := by unfold upR; split <;> omega
    omega
  · rw [List.getD_eq_getElem?_getD, List.getElem?_eq_none (by rw [hlLow_len]; omega)]
    simp
theorem hiPuts_mem : ∀ (l a : List (Int × Int)) (x : Int × Int), x ∈ hiPuts a l → x ∈ a ∨ (∃ y ∈ a, x.1 = y.1) ∨ ∃ y ∈ l, x.1 = y.1
  | [], _, _, h => .inl h
  | b :: l, a, x, h => by
    rcases hiPuts_mem l (binPut a b.1 b.2) x h with h | ⟨y, hy, e⟩ | ⟨y, hy, e⟩
    · rcases binPut_mem _ _ _ x h with e | h
      · exact .inr (.inr ⟨b, List.mem_cons_self, e⟩)
      · exact .inl h
    · rcases binPut_mem _ _ _ y hy with e2 | h
      · exact .inr (.inr ⟨b, List.mem_cons_self, e.trans e2⟩)
      · exact .inr (.inl ⟨y, h, e⟩)
    · exact .inr (.inr ⟨y, List.mem_cons_of_mem _ hy, e⟩)
theorem bd_low_ok {k L : Nat} {b : Bd} (hb : b.Ok k L) (hL : L < botN k) : b.low.Ok k (L + 1) := by
  cases b with
  | num l =>
    obtain ⟨h1, h2, h3, h4, h5⟩ := hb
    subst h1
    subst h2
    exact ⟨rfl, by omega, by omega, by omega, by rw [hlSum_len]; simp [hlNone], hlSum_le 7 (by omega) _ _ (hlNone_le 7 _)⟩
  | reg b r =>
    obtain ⟨h1, h2, h3, h4, h5, h6⟩ := hb
    subst h1
    have hL4 : L < 4 := hL
    exact ⟨rfl, by omega, by omega, by omega, by rw [hlLow_len], hlLow_le b (by omega) (by omega) r h6⟩
  | cnt c l =>
    obtain ⟨h1, h2, h3, h4, h5⟩ := hb
    subst h1
    have hL3 : L < 3 := hL
    refine ⟨rfl, by omega, ?_, by rw [cmLow_len], cmLow_u64 c l h5⟩
    rcases cnt_cases h2 h3 with ⟨rfl, rfl⟩ | ⟨rfl, rfl⟩ | ⟨rfl, rfl⟩ | ⟨rfl, rfl⟩ <;> first | rfl | omega
  | bkt f l =>
    obtain ⟨h1, h2, h3, h4, h5, h6, h7⟩ := hb
    subst h1
    have hL3 : L < 3 := hL
    obtain ⟨g1, g2⟩ := half_bins h5 h6
    refine ⟨rfl, by omega, by omega, ?_, hiDone_pos, hiDone_u64 (hiPuts_u64 _ [] (fun b hb => by cases hb) g2), ?_⟩
    · exact hiDone_up (hiPuts_up _ [] List.Pairwise.nil)
    · intro x hx
      rcases hiPuts_mem _ _ x (List.mem_filter.1 hx).1 with h | ⟨y, hy, e⟩ | ⟨y, hy, e⟩
      · cases h
      · cases hy
      · obtain ⟨z, hz, rfl⟩ := List.mem_map.1 hy
        rw [e]
        exact bounds_half f (by omega) (by omega) z.1 (h7 z hz)
/-- Adding, and going one level down: either way about. -/
theorem bd_low_add {k L : Nat} {b b' : Bd} {h : Nat} {n : Int} (hb : b.Ok k L) (hL : L < botN k) (hh : h < 2 ^ 64) (hn : U64 n) (he : b.add h n = some b') : b.low.add h n = some b'.low := by
  cases b with
  | num l =>
    obtain ⟨h1, h2, h3, h4, h5⟩ := hb
    simp only [Bd.add, exGather] at he
    split at he
    · cases he
    · simp only [Option.map_some, Option.some.injEq] at he
      subst he
      simp only [Bd.low, Bd.add]
      rw [exIns_eq l _ h3, hlSum_ins, Int.toNat_natCast]
  | reg b r =>
    obtain ⟨h1, h2, h3, h4, h5, h6⟩ := hb
    subst h1
    have hL4 : L < 4 := hL
    simp only [Bd.add, Option.some.injEq] at he
    subst he
    simp only [Bd.low, Bd.add]
    rw [hlLow_add b r h (by omega) (by omega) hh h5]
  | cnt c l =>
    obtain ⟨h1, h2, h3, h4, h5⟩ := hb
    subst h1
    have hL3 : L < 3 := hL
    simp only [Bd.add, Option.some.injEq] at he
    subst he
    simp only [Bd.low, Bd.add]
    rw [cmLow_add c (by rcases cnt_cases h2 h3 with ⟨rfl, rfl⟩ | ⟨rfl, rfl⟩ | ⟨rfl, rfl⟩ | ⟨rfl, rfl⟩ <;> omega) l h n h4 h5 hn]
  | bkt f l =>
    obtain ⟨h1, h2, h3, h4, h5, h6, h7⟩ := hb
    subst h1
    have hL3 : L < 3 := hL
    simp only [Bd.add, Option.some.injEq] at he
    subst he
    simp only [Bd.low, Bd.add]
    rw [hiLow_add f (by omega) l h n h5 h6 hn, show ((f - 1 : Nat) : Int) = (f : Int) - 1 by omega]
theorem bd_add_low {k L : Nat} {b : Bd} {h : Nat} {n : Int} (hb : b.Ok k L) (he : b.add h n = none) : ∃ b', b.low.add h n = some b' ∧ k = 1 ∧ L = 0 := by
  cases b with
  | num l => exact ⟨_, rfl, hb.1, hb.2.1⟩
  | reg b r => simp [Bd.add] at he
  | cnt c l => simp [Bd.add] at he
  | bkt f l => simp [Bd.add] at he
def WkOk (k : Nat) (s : Nat × Bd) : Prop := s.2.Ok k s.1 ∧ s.1 ≤ botN k
theorem ok_bot {k L : Nat} {b : Bd} (hb : b.Ok k L) : L ≤ botN k := by
  cases b with
  | num l => obtain ⟨h1, h2, -⟩ := hb; subst h1; subst h2; decide
  | reg b r => obtain ⟨h1, h2, h3, -⟩ := hb; subst h1; exact h3
  | cnt c l => obtain ⟨h1, h2, -⟩ := hb; subst h1; exact h2
  | bkt f l => obtain ⟨h1, h2, -⟩ := hb; subst h1; exact h2
theorem wkAdd_ok {k : Nat} {s : Nat × Bd} {i : Nat × Int} (hs : s.2.Ok k s.1) (hi : Item.ok i) : (wkAdd s i).2.Ok k (wkAdd s i).1 ∧ s.1 ≤ (wkAdd s i).1 := by
  unfold wkAdd
  cases he : s.2.add i.1 i.2 with
  | some b => exact ⟨bd_add_ok hs hi.1 hi.2 he, Nat.le_refl _⟩
  | none =>
    obtain ⟨b', hb', hk, hL⟩ := bd_add_low hs he
    have hlow := bd_low_ok hs (by rw [hk, hL]; decide)
    simp only [hb', Option.getD_some]
    exact ⟨bd_add_ok hlow hi.1 hi.2 hb', Nat.le_succ _⟩
theorem wkLow_add {k : Nat} {s : Nat × Bd} {i : Nat × Int} (t : Nat) (hs : s.2.Ok k s.1) (hi : Item.ok i) (hL : s.1 < botN k) (ht : s.1 < t) : wkTo (wkAdd s i) t = wkTo (wkAdd (wkLow s) i) t := by
  cases he : s.2.add i.1 i.2 with
  | some b =>
    have h2 := bd_low_add hs hL hi.1 hi.2 he
    have e1 : wkAdd s i = (s.1, b) := by unfold wkAdd; rw [he]
    have e2 : wkAdd (wkLow s) i = (s.1 + 1, b.low) := by unfold wkAdd wkLow; dsimp only; rw [h2]
    rw [e1, e2]
    unfold wkTo
    dsimp only
    rw [show t - s.1 = (t - (s.1 + 1)) + 1 by omega]
    rfl
  | none =>
    obtain ⟨b', hb', -, -⟩ := bd_add_low hs he
    have e1 : wkAdd s i = (s.1 + 1, b') := by unfold wkAdd; rw [he, hb']; rfl
    have e2 : wkAdd (wkLow s) i = (s.1 + 1, b') := by unfold wkAdd wkLow; dsimp only; rw [hb']
    rw [e1, e2]
theorem wkTo_self {s : Nat × Bd} {t : Nat} (h : t ≤ s.1) : wkTo s t = s := by
  unfold wkTo
  rw [show t - s.1 = 0 by omega]
  rfl
theorem wkTo_low {s : Nat × Bd} {t : Nat} (h : s.1 < t) : wkTo s t = wkTo (wkLow s) t := by
  unfold wkTo
  rw [show t - s.1 = (t - (s.1 + 1)) + 1 by omega]
  rfl
theorem wkTo_add {k : Nat} {i : Nat × Int} (t : Nat) (hi : Item.ok i) (ht : t ≤ botN k) : ∀ (m : Nat) (s : Nat × Bd), t - s.1 = m → s.2.Ok k s.1 → wkTo (wkAdd s i) t = wkAdd (wkTo s t) i := by
  intro m
  induction m with
  | zero =>
    intro s hm hs
    rw [wkTo_self (s := s) (by omega)]
    exact wkTo_self (by have := (wkAdd_ok hs hi).2; omega)
  | succ m ih =>
    intro s hm hs
    rw [wkLow_add t hs hi (by omega) (by omega), wkTo_low (s := s) (by omega)]
    exact ih (wkLow s) (by show t - (s.1 + 1) = m; omega) (bd_low_ok hs (by omega))
theorem wkTo_ok {k : Nat} (t : Nat) (ht : t ≤ botN k) : ∀ (m : Nat) (s : Nat × Bd), t - s.1 = m → s.2.Ok k s.1 → (wkTo s t).2.Ok k (wkTo s t).1 ∧ (wkTo s t).1 = max s.1 t := by
  intro m
  induction m with
  | zero => intro s hm hs; rw [wkTo_self (by omega)]; exact ⟨hs, by omega⟩
  | succ m ih =>
    intro s hm hs
    rw [wkTo_low (by omega)]
    have h := ih (wkLow s) (by show t - (s.1 + 1) = m; omega) (bd_low_ok hs (by omega))
    exact ⟨h.1, by rw [h.2]; show max (s.1 + 1) t = _; omega⟩
theorem wkTo_sum {k : Nat} (t : Nat) (ht : t ≤ botN k) : ∀ (l : List (Nat × Int)) (s : Nat × Bd), (∀ i ∈ l, Item.ok i) → s.2.Ok k s.1 → wkTo (l.foldl wkAdd s) t = l.foldl wkAdd (wkTo s t)
  | [], _, _, _ => rfl
  | i :: l, s, hl, hs => by
    have hi := hl i List.mem_cons_self
    show wkTo (l.foldl wkAdd (wkAdd s i)) t = l.foldl wkAdd (wkAdd (wkTo s t) i)
    rw [wkTo_sum t ht l _ (fun j hj => hl j (List.mem_cons_of_mem _ hj)) (wkAdd_ok hs hi).1, wkTo_add t hi ht _ s rfl hs]
theorem wkTo_to (t u : Nat) (ht : t ≤ u) : ∀ (m : Nat) (s : Nat × Bd), t - s.1 = m → wkTo (wkTo s t) u = wkTo s u := by
  intro m
  induction m with
  | zero => intro s hm; rw [wkTo_self (s := s) (t := t) (by omega)]
  | succ m ih =>
    intro s hm
    rw [wkTo_low (s := s) (t := t) (by omega), wkTo_low (s := s) (t := u) (by omega)]
    exact ih (wkLow s) (by show t - (s.1 + 1) = m; omega)
/-- The law's core: items taken at a level, lowered later, are items taken at the later level. -/
theorem wk_lowers {k : Nat} (lo hi : Nat) (hlo : lo ≤ hi) (hhi : hi ≤ botN k) (l : List (Nat × Int)) (s : Nat × Bd) (hl : ∀ i ∈ l, Item.ok i) (hs : s.2.Ok k s.1) : wkTo (l.foldl wkAdd (wkTo s lo)) hi = l.foldl wkAdd (wkTo s hi) := by
  rw [wkTo_sum hi hhi l _ hl (wkTo_ok lo (by omega) _ s rfl hs).1, wkTo_to lo hi hlo _ s rfl]
theorem wkSum_ok {k : Nat} : ∀ (l : List (Nat × Int)) (s : Nat × Bd), (∀ i ∈ l, Item.ok i) → s.2.Ok k s.1 → (l.foldl wkAdd s).2.Ok k (l.foldl wkAdd s).1
  | [], _, _, hs => hs
  | i :: l, _, hl, hs => wkSum_ok l _ (fun j hj => hl j (List.mem_cons_of_mem _ hj)) (wkAdd_ok hs (hl i List.mem_cons_self)).1
def bdNew (k : Nat) : Bd := if k = 1 then .num [] else if k = 2 then .cnt 32 (cmNone 32) else .bkt 3 []
theorem bdNew_ok (k : Nat) (h : k = 1 ∨ k = 2 ∨ k = 3) : (bdNew k).Ok k 0 := by
  rcases h with rfl | rfl | rfl
  · exact ⟨rfl, rfl, List.Pairwise.nil, by simp, fun n hn => by cases hn⟩
  · refine ⟨rfl, by omega, rfl, by simp [cmNone], fun n hn => ?_⟩
    rw [List.eq_of_mem_replicate hn]; exact u64_0
  · exact ⟨rfl, by omega, rfl, List.Pairwise.nil, (fun b hb => by cases hb), (fun b hb => by cases hb), fun b hb => by cases hb⟩
end Go.Proofs.YtmkefodaibmkhaaGreatDoor
namespace Go.Proofs.YtmkefodaibmkhaaGreatDoor
open Go Go.RowKit

def hlMax (r s : List Nat) : List Nat := (List.range r.length).map fun i => max (r.getD i 0) (s.getD i 0)
def cmMrg (l m : List Int) : List Int := (List.range l.length).map fun i => satI (l.getD i 0) (m.getD i 0)
def Bd.merge : Bd → Bd → Option Bd
  | .num l, .num m => (exGather l m).map .num
  | .reg b r, .reg _ s => some (.reg b (hlMax r s))
  | .cnt c l, .cnt _ m => some (.cnt c (cmMrg l m))
  | .bkt f l, .bkt _ m => some (.bkt f (hiDone (hiPuts l m)))
  | _, _ => none
def wkMerge (s t : Nat × Bd) : Nat × Bd :=
  match (wkTo s (max s.1 t.1)).2.merge (wkTo t (max s.1 t.1)).2 with
  | some B => (max s.1 t.1, B)
  | none => (max s.1 t.1 + 1, ((wkTo s (max s.1 t.1)).2.low.merge (wkTo t (max s.1 t.1)).2.low).getD (wkTo s (max s.1 t.1)).2.low)
/-- The sketch of items at a level. -/
def wkSum (k t : Nat) (A : List (Nat × Int)) : Nat × Bd := A.foldl wkAdd (wkTo (0, bdNew k) t)
def AllOk (A : List (Nat × Int)) : Prop := ∀ i ∈ A, Item.ok i

/-! ### numbers -/
theorem up_sub : ∀ (m l : List Int), Up l → Up m → (∀ y ∈ l, y ∈ m) → l.length ≤ m.length
  | [], l, _, _, h => by
    cases l with
    | nil => exact Nat.le_refl _
    | cons x l => exact absurd (h x List.mem_cons_self) (by simp)
  | x :: m, l, hl, hm, h => by
    obtain ⟨m1, m2⟩ := up_tail hm
    cases l with
    | nil => exact Nat.zero_le _
    | cons y l =>
      obtain ⟨l1, l2⟩ := up_tail hl
      have := up_sub m l l1 m1 (fun z hz => by
        rcases List.mem_cons.1 (h z (List.mem_cons_of_mem _ hz)) with e | e
        · have a1 := l2 z hz
          rcases List.mem_cons.1 (h y List.mem_cons_self) with e2 | e2
          · omega
          · have := m2 y e2; omega
        · exact e)
      simp only [List.length_cons]
      omega
theorem gather_some : ∀ (r l m : List Int), Up l → l.length ≤ 64 → exGather l r = some m → Up m ∧ m.length ≤ 64 ∧ ∀ y, y ∈ m ↔ y ∈ l ∨ y ∈ r
  | [], l, m, hu, hl, h => by
    obtain rfl : l = m := by simpa [exGather] using h
    exact ⟨hu, hl, fun y => by simp⟩
  | n :: r, l, m, hu, hl, h => by
    rw [exGather] at h
    split at h
    · cases h
    · rename_i hc
      rw [exIns_eq l n hu] at h hc
      obtain ⟨h1, h2, h3⟩ := gather_some r _ m (insR_up l n hu) (by omega) h
      refine ⟨h1, h2, fun y => ?_⟩
      rw [h3, insR_mem, List.mem_cons]
      constructor
      · rintro ((e | e) | e)
        · exact .inr (.inl e)
        · exact .inl e
        · exact .inr (.inr e)
      · rintro (e | e | e)
        · exact .inl (.inr e)
        · exact .inl (.inl e)
        · exact .inr e
theorem gather_none : ∀ (r l : List Int), Up l → exGather l r = none → ∀ m, Up m → (∀ y, y ∈ l ∨ y ∈ r → y ∈ m) → 64 < m.length
  | [], l, _, h, _, _, _ => by simp [exGather] at h
  | n :: r, l, hu, h, m, hm, hs => by
    rw [exGather] at h
    split at h
    · rename_i hc
      rw [exIns_eq l n hu] at hc
      have := up_sub m (insR l n) (insR_up l n hu) hm (fun y hy => by
        rcases (insR_mem l n y).1 hy with e | e
        · exact hs y (.inr (by rw [e]; exact List.mem_cons_self))
        · exact hs y (.inl e))
      omega
    · rw [exIns_eq l n hu] at h
      exact gather_none r _ (insR_up l n hu) h m hm (fun y hy => by
        rcases hy with e | e
        · rcases (insR_mem l n y).1 e with e | e
          · exact hs y (.inr (by rw [e]; exact List.mem_cons_self))
          · exact hs y (.inl e)
        · exact hs y (.inr (List.mem_cons_of_mem _ e)))
/-- Only which numbers there are counts. -/
theorem gather_same (l l' r r' : List Int) (hu : Up l) (hl : l.length ≤ 64) (hu' : Up l') (hl' : l'.length ≤ 64) (h : ∀ y, (y ∈ l ∨ y ∈ r) ↔ (y ∈ l' ∨ y ∈ r')) : exGather l r = exGather l' r' := by
  cases e : exGather l r with
  | some m =>
    obtain ⟨a1, a2, a3⟩ := gather_some r l m hu hl e
    cases e' : exGather l' r' with
    | some m' =>
      obtain ⟨b1, b2, b3⟩ := gather_some r' l' m' hu' hl' e'
      rw [up_ext m m' a1 b1 (fun y => by rw [a3, b3]; exact h y)]
    | none => have := gather_none r' l' hu' e' m a1 (fun y hy => (a3 y).2 ((h y).2 hy)); omega
  | none =>
    cases e' : exGather l' r' with
    | some m' =>
      obtain ⟨b1, b2, b3⟩ := gather_some r' l' m' hu' hl' e'
      have := gather_none r l hu e m' b1 (fun y hy => (b3 y).2 ((h y).1 hy))
      omega
    | none => rfl
theorem add_ge : ∀ (A : List (Nat × Int)) (s : Nat × Bd), s.1 ≤ (A.foldl wkAdd s).1
  | [], _ => Nat.le_refl _
  | i :: A, s => by
    have h1 : s.1 ≤ (wkAdd s i).1 := by unfold wkAdd; split <;> simp
    exact Nat.le_trans h1 (add_ge A (wkAdd s i))
def hashes (A : List (Nat × Int)) : List Int := A.map fun i => (i.1 : Int)
theorem num_sum : ∀ (A : List (Nat × Int)) (l : List Int), match exGather l (hashes A) with
    | some m => A.foldl wkAdd (0, Bd.num l) = (0, Bd.num m)
    | none => 1 ≤ (A.foldl wkAdd (0, Bd.num l)).1
  | [], l => rfl
  | i :: A, l => by
    show match exGather l ((i.1 : Int) :: hashes A) with
      | some m => A.foldl wkAdd (wkAdd (0, Bd.num l) i) = (0, Bd.num m)
      | none => 1 ≤ (A.foldl wkAdd (wkAdd (0, Bd.num l) i)).1
    by_cases hc : 64 < (exIns l (i.1 : Int)).length
    · have e1 : exGather l ((i.1 : Int) :: hashes A) = none := by rw [exGather, if_pos hc]
      have e2 : exGather l [(i.1 : Int)] = none := by rw [exGather, if_pos hc]
      rw [e1]
      have h1 : 1 ≤ (wkAdd (0, Bd.num l) i).1 := by unfold wkAdd; simp [Bd.add, e2]
      exact Nat.le_trans h1 (add_ge A _)
    · have e1 : exGather l ((i.1 : Int) :: hashes A) = exGather (exIns l (i.1 : Int)) (hashes A) := by rw [exGather, if_neg hc]
      have e2 : exGather l [(i.1 : Int)] = some (exIns l (i.1 : Int)) := by rw [exGather, if_neg hc]; rfl
      have e3 : wkAdd (0, Bd.num l) i = (0, Bd.num (exIns l (i.1 : Int))) := by unfold wkAdd; simp [Bd.add, e2]
      rw [e1, e3]
      exact num_sum A (exIns l (i.1 : Int))

/-! ### the others: adding to what is merged -/
theorem hlMax_len (r s : List Nat) : (hlMax r s).length = r.length := by simp [hlMax]
theorem hlMax_at (r s : List Nat) (i : Nat) (hi : i < r.length) : (hlMax r s).getD i 0 = max (r.getD i 0) (s.getD i 0) := by
  unfold hlMax
  rw [List.getD_eq_getElem?_getD, List.getElem?_map, List.getElem?_range hi]
  rfl
theorem hlMax_tell (r s : List Nat) (p k : Nat) (h : r.length = s.length) : hlMax r (hlTell s p k) = hlTell (hlMax r s) p k := by
  refine getD_ext _ _ (by rw [hlMax_len, hlTell_len, hlMax_len]) fun i hi => ?_
  rw [hlMax_len] at hi
  rw [hlMax_at _ _ _ hi, tell_at, tell_at, hlMax_at _ _ _ hi, hlMax_len, ← h]
  split <;> omega
theorem getD_mem0 (l : List Nat) (i : Nat) (h : l.length ≤ i) : l.getD i 0 = 0 := by rw [List.getD_eq_getElem?_getD, List.getElem?_eq_none h]; rfl
theorem hlMax_none (b : Nat) (r : List Nat) : hlMax r (hlNone b) = r := by
  refine getD_ext _ _ (hlMax_len _ _) fun i hi => ?_
  rw [hlMax_len] at hi
  rw [hlMax_at _ _ _ hi]
  have := hlNone_le b 0 i
  omega
theorem hlMax_comm (r s : List Nat) (h : r.length = s.length) : hlMax r s = hlMax s r := by
  refine getD_ext _ _ (by rw [hlMax_len, hlMax_len, h]) fun i hi => ?_
  rw [hlMax_len] at hi
  rw [hlMax_at _ _ _ hi, hlMax_at _ _ _ (by omega), Nat.max_comm]
theorem cmMrg_len (l m : List Int) : (cmMrg l m).length = l.length := by simp [cmMrg]
theorem cmMrg_at (l m : List Int) (i : Nat) (hi : i < l.length) : (cmMrg l m).getD i 0 = satI (l.getD i 0) (m.getD i 0) := by
  unfold cmMrg
  rw [List.getD_eq_getElem?_getD, List.getElem?_map, List.getElem?_range hi]
  rfl
theorem cmMrg_u64 (l m : List Int) (hl : U64s l) (hm : U64s m) : U64s (cmMrg l m) := by
  intro x hx
  obtain ⟨i, -, rfl⟩ := List.mem_map.1 hx
  exact satI_u64 _ _ (getD_u64 l hl i) (getD_u64 m hm i)
theorem cmMrg_put (l m : List Int) (p : Nat) (n : Int) (h : l.length = m.length) (hl : U64s l) (hm : U64s m) (hn : U64 n) : cmMrg l (cmPut m p n) = cmPut (cmMrg l m) p n := by
  refine getD_extI _ _ (by rw [cmMrg_len, cmPut_len, cmMrg_len]) fun i hi => ?_
  rw [cmMrg_len] at hi
  rw [cmMrg_at _ _ _ hi, cmPut_at, cmPut_at, cmMrg_at _ _ _ hi, cmMrg_len, ← h]
  split
  · exact satI_a _ _ _ (getD_u64 l hl i) (getD_u64 m hm i) hn
  · rfl
theorem cmMrg_none (c : Nat) (l : List Int) (hl : U64s l) : cmMrg l (cmNone c) = l := by
  refine getD_extI _ _ (cmMrg_len _ _) fun i hi => ?_
  rw [cmMrg_len] at hi
  rw [cmMrg_at _ _ _ hi]
  have : (cmNone c).getD i 0 = 0 := by
    unfold cmNone
    rw [List.getD_eq_getElem?_getD, List.getElem?_replicate]
    split <;> rfl
  rw [this, satI_comm, satI_0 _ (getD_u64 l hl i)]
theorem cmMrg_comm (l m : List Int) (h : l.length = m.length) : cmMrg l m = cmMrg m l := by
  refine getD_extI _ _ (by rw [cmMrg_len, cmMrg_len, h]) fun i hi => ?_
  rw [cmMrg_len] at hi
  rw [cmMrg_at _ _ _ hi, cmMrg_at _ _ _ (by omega), satI_comm]
theorem map_id_bins (l : List (Int × Int)) : (l.map fun b => (id b.1, b.2)) = l := by
  induction l with
  | nil => rfl
  | cons b l ih => rw [List.map_cons, ih]; rfl
theorem hiPuts_put2 (l m : List (Int × Int)) (p n : Int) (hu : BinUp l) (hl : BinsU l) (hm : BinsU m) (hn : U64 n) : hiPuts l (binPut m p n) = binPut (hiPuts l m) p n := by
  have h := hiPuts_ins m l id p n hu hl hm hn
  rw [map_id_bins, map_id_bins] at h
  exact h
theorem hiPuts_comm : ∀ (m l : List (Int × Int)), BinUp l → BinUp m → BinsU l → BinsU m → hiPuts l m = hiPuts m l
  | [], l, hl, _, _, _ => by rw [hiPuts_self l [] (by simpa using hl)]; rfl
  | (p, n) :: m, l, hl, hm, ul, um => by
    obtain ⟨m1, m2⟩ := binUp_tail hm
    have hn : U64 n := um (p, n) List.mem_cons_self
    have hum : BinsU m := fun c hc => um c (List.mem_cons_of_mem _ hc)
    have e : (p, n) :: m = binPut m p n := by
      cases m with
      | nil => rfl
      | cons c m =>
        have := m2 c List.mem_cons_self
        obtain ⟨q, k⟩ := c
        rw [binPut_cons, if_neg (by simp only at this; omega), if_neg (by simp only at this; omega)]
    rw [e, hiPuts_put2 l m p n hl ul hum hn, hiPuts_put l m p n m1 hum ul hn, hiPuts_comm m l hl m1 ul hum]
theorem hiMrg_pos {l m : List (Int × Int)} (h1 : ∀ b ∈ l, b.2 ≠ 0) (h2 : BinsU l) (h3 : ∀ b ∈ m, b.2 ≠ 0) (h4 : BinsU m) : hiDone (hiPuts l m) = hiPuts l m := hiDone_self (hiPuts_pos m l h1 h2 h3 h4)

/-! ### merged -/
/-- No set of numbers. -/
def Bd.wide : Bd → Prop
  | .num _ => False
  | _ => True
theorem wide_add {k L : Nat} {B : Bd} (hB : B.Ok k L) (hw : B.wide) (h : Nat) (n : Int) : ∃ B', B.add h n = some B' ∧ B'.wide := by
  cases B with
  | num l => exact hw.elim
  | reg b r => exact ⟨_, rfl, trivial⟩
  | cnt c l => exact ⟨_, rfl, trivial⟩
  | bkt f l => exact ⟨_, rfl, trivial⟩
theorem same_cols {c d L : Nat} (h : c * 2 ^ L = 32) (h' : d * 2 ^ L = 32) : c = d := Nat.eq_of_mul_eq_mul_right (Nat.two_pow_pos L) (h.trans h'.symm)
theorem merge_ok {k L : Nat} {x y z : Bd} (hx : x.Ok k L) (hy : y.Ok k L) (hz : x.merge y = some z) : z.Ok k L := by
  cases x with
  | num l =>
    cases y with
    | num m =>
      obtain ⟨a1, a2, a3, a4, a5⟩ := hx
      obtain ⟨b1, b2, b3, b4, b5⟩ := hy
      obtain ⟨q, hq, rfl⟩ := Option.map_eq_some_iff.1 hz
      obtain ⟨c1, c2, c3⟩ := gather_some m l q a3 a4 hq
      exact ⟨a1, a2, c1, c2, fun n hn => ((c3 n).1 hn).elim (a5 n) (b5 n)⟩
    | reg b r => cases hz
    | cnt c l => cases hz
    | bkt f l => cases hz
  | reg b r =>
    cases y with
    | num m => cases hz
    | reg b' s =>
      obtain ⟨a1, a2, a3, a4, a5, a6⟩ := hx
      obtain ⟨b1, b2, b3, b4, b5, b6⟩ := hy
      obtain rfl : _ = z := Option.some.inj hz
      refine ⟨a1, a2, a3, a4, by rw [hlMax_len, a5], fun i => ?_⟩
      by_cases hi : i < r.length
      · rw [hlMax_at _ _ _ hi]
        have := a6 i
        have := b6 i
        obtain rfl : b = b' := by omega
        omega
      · rw [getD_mem0 _ _ (by rw [hlMax_len]; omega)]; omega
    | cnt c l => cases hz
    | bkt f l => cases hz
  | cnt c l =>
    cases y with
    | num m => cases hz
    | reg b r => cases hz
    | cnt c' m =>
      obtain ⟨a1, a2, a3, a4, a5⟩ := hx
      obtain ⟨b1, b2, b3, b4, b5⟩ := hy
      obtain rfl : _ = z := Option.some.inj hz
      exact ⟨a1, a2, a3, by rw [cmMrg_len, a4], cmMrg_u64 l m a5 b5⟩
    | bkt f l => cases hz
  | bkt f l =>
    cases y with
    | num m => cases hz
    | reg b r => cases hz
    | cnt c m => cases hz
    | bkt f' m =>
      obtain ⟨a1, a2, a3, a4, a5, a6, a7⟩ := hx
      obtain ⟨b1, b2, b3, b4, b5, b6, b7⟩ := hy
      obtain rfl : f = f' := by omega
      obtain rfl : _ = z := Option.some.inj hz
      refine ⟨a1, a2, a3, hiDone_up (hiPuts_up m l a4), hiDone_pos, hiDone_u64 (hiPuts_u64 m l a6 b6), fun x hx => ?_⟩
      rcases hiPuts_mem m l x (List.mem_filter.1 hx).1 with h | ⟨y, hy, e⟩ | ⟨y, hy, e⟩
      · exact a7 x h
      · rw [e]; exact a7 y hy
      · rw [e]; exact b7 y hy
theorem merge_add {k L : Nat} {x y z y' : Bd} {h : Nat} {n : Int} (hx : x.Ok k L) (hy : y.Ok k L) (hw : y.wide) (hz : x.merge y = some z) (hn : U64 n) (he : y.add h n = some y') : ∃ z', z.add h n = some z' ∧ x.merge y' = some z' := by
  cases y with
  | num m => exact hw.elim
  | reg b' s =>
    cases x with
    | reg b r =>
      obtain ⟨a1, a2, a3, a4, a5, a6⟩ := hx
      obtain ⟨b1, b2, b3, b4, b5, b6⟩ := hy
      obtain rfl : b = b' := by omega
      obtain rfl : _ = z := Option.some.inj hz
      obtain rfl : _ = y' := Option.some.inj he
      exact ⟨_, rfl, by show some (Bd.reg b (hlMax r (hlTell s _ _))) = _; rw [hlMax_tell r s _ _ (by omega)]; rfl⟩
    | num l => cases hz
    | cnt c l => cases hz
    | bkt f l => cases hz
  | cnt c' m =>
    cases x with
    | cnt c l =>
      obtain ⟨a1, a2, a3, a4, a5⟩ := hx
      obtain ⟨b1, b2, b3, b4, b5⟩ := hy
      obtain rfl : c = c' := same_cols a3 b3
      obtain rfl : _ = z := Option.some.inj hz
      obtain rfl : _ = y' := Option.some.inj he
      refine ⟨_, rfl, ?_⟩
      show some (Bd.cnt c (cmMrg l (cmPut (cmPut m _ n) _ n))) = some (Bd.cnt c (cmPut (cmPut (cmMrg l m) _ n) _ n))
      rw [cmMrg_put l _ _ n (by rw [cmPut_len]; omega) a5 (cmPut_u64 _ _ _ b5 hn) hn, cmMrg_put l m _ n (by omega) a5 b5 hn]
    | num l => cases hz
    | reg b r => cases hz
    | bkt f l => cases hz
  | bkt f' m =>
    cases x with
    | bkt f l =>
      obtain ⟨a1, a2, a3, a4, a5, a6, a7⟩ := hx
      obtain ⟨b1, b2, b3, b4, b5, b6, b7⟩ := hy
      obtain rfl : f = f' := by omega
      obtain rfl : _ = z := Option.some.inj hz
      obtain rfl : _ = y' := Option.some.inj he
      refine ⟨_, rfl, ?_⟩
      show some (Bd.bkt f (hiDone (hiPuts l (hiAdd f m h n)))) = some (Bd.bkt f (hiAdd f (hiDone (hiPuts l m)) h n))
      rw [hiMrg_pos a5 a6 b5 b6, hiAdd_eq f m h n b5 b6 hn, hiAdd_eq f _ h n (hiPuts_pos m l a5 a6 b5 b6) (hiPuts_u64 m l a6 b6) hn]
      by_cases h0 : n = 0
      · rw [if_pos h0, if_pos h0, hiMrg_pos a5 a6 b5 b6]
      · rw [if_neg h0, if_neg h0, hiMrg_pos a5 a6 (binPut_pos m _ n b5 b6 hn h0) (binPut_u64 m _ n b6 hn), hiPuts_put2 l m _ n a4 a6 b6 hn]
    | num l => cases hz
    | reg b r => cases hz
    | cnt c l => cases hz
theorem merge_fold {k L : Nat} {x : Bd} (hx : x.Ok k L) : ∀ (A : List (Nat × Int)) (y z : Bd), AllOk A → y.Ok k L → y.wide → z.wide → x.merge y = some z →
    ∃ y' z', A.foldl wkAdd (L, y) = (L, y') ∧ A.foldl wkAdd (L, z) = (L, z') ∧ x.merge y' = some z' ∧ y'.Ok k L
  | [], y, z, _, hy, _, _, hz => ⟨y, z, rfl, rfl, hz, hy⟩
  | i :: A, y, z, hA, hy, hw, hwz, hz => by
    have hi := hA i List.mem_cons_self
    obtain ⟨y1, e1, w1⟩ := wide_add hy hw i.1 i.2
    obtain ⟨z1, e2, m1⟩ := merge_add hx hy hw hz hi.2 e1
    obtain ⟨z1', e3, w3⟩ := wide_add (merge_ok hx hy hz) hwz i.1 i.2
    obtain rfl : z1 = z1' := Option.some.inj (e2.symm.trans e3)
    have s1 : wkAdd (L, y) i = (L, y1) := by unfold wkAdd; simp [e1]
    have s2 : wkAdd (L, z) i = (L, z1) := by unfold wkAdd; simp [e2]
    show ∃ y' z', A.foldl wkAdd (wkAdd (L, y) i) = (L, y') ∧ A.foldl wkAdd (wkAdd (L, z) i) = (L, z') ∧ _
    rw [s1, s2]
    exact merge_fold hx A y1 z1 (fun j hj => hA j (List.mem_cons_of_mem _ hj)) (bd_add_ok hy hi.1 hi.2 e1) w1 w3 m1
/-- A new sketch's body, so far down. -/
def bdBase (k t : Nat) : Bd := if k = 1 then (if t = 0 then .num [] else .reg (8 - t) (hlNone (8 - t))) else if k = 2 then .cnt (32 / 2 ^ t) (cmNone (32 / 2 ^ t)) else .bkt (3 - t) []
theorem base_low (k t : Nat) (hk : k = 1 ∨ k = 2 ∨ k = 3) (ht : t < botN k) : (bdBase k t).low = bdBase k (t + 1) := by
  rcases hk with rfl | rfl | rfl
  · have ht4 : t < 4 := ht
    show (if t = 0 then Bd.num [] else .reg (8 - t) (hlNone (8 - t))).low = if t + 1 = 0 then Bd.num [] else .reg (8 - (t + 1)) (hlNone (8 - (t + 1)))
    rw [if_neg (by omega : ¬ t + 1 = 0)]
    by_cases h0 : t = 0
    · subst h0
      rw [if_pos rfl]
      simp only [Bd.low, hlSum, List.map_nil, List.foldl_nil]
    · rw [if_neg h0]
      show Bd.reg (8 - t - 1) (hlLow (8 - t) (hlNone (8 - t))) = _
      rw [hlLow_none, show 8 - t - 1 = 8 - (t + 1) by omega]
  · have ht3 : t < 3 := ht
    show Bd.cnt (32 / 2 ^ t / 2) (cmLow (32 / 2 ^ t) (cmNone (32 / 2 ^ t))) = Bd.cnt (32 / 2 ^ (t + 1)) (cmNone (32 / 2 ^ (t + 1)))
    rw [cmLow_none, Nat.div_div_eq_div_mul, ← Nat.pow_succ]
  · show Bd.bkt (3 - t - 1) (hiLow []) = Bd.bkt (3 - (t + 1)) []
    rw [show 3 - t - 1 = 3 - (t + 1) by omega]
    rfl
theorem down_base (k : Nat) (hk : k = 1 ∨ k = 2 ∨ k = 3) : ∀ (n t : Nat), t + n ≤ botN k → wkDown n (t, bdBase k t) = (t + n, bdBase k (t + n))
  | 0, _, _ => rfl
  | n + 1, t, h => by
    show wkDown n (t + 1, (bdBase k t).low) = _
    rw [base_low k t hk (by omega), down_base k hk n (t + 1) (by omega), show t + 1 + n = t + (n + 1) by omega]
theorem new_base (k : Nat) (hk : k = 1 ∨ k = 2 ∨ k = 3) : bdNew k = bdBase k 0 := by rcases hk with rfl | rfl | rfl <;> rfl
theorem to_base (k t : Nat) (hk : k = 1 ∨ k = 2 ∨ k = 3) (ht : t ≤ botN k) : wkTo (0, bdNew k) t = (t, bdBase k t) := by
  have := down_base k hk t 0 (by omega)
  rw [Nat.zero_add] at this
  unfold wkTo
  rw [new_base k hk]
  exact this
theorem base_ok (k t : Nat) (hk : k = 1 ∨ k = 2 ∨ k = 3) (ht : t ≤ botN k) : (bdBase k t).Ok k t := by
  have h := (wkTo_ok t ht _ (0, bdNew k) rfl (bdNew_ok k hk)).1
  rw [to_base k t hk ht] at h
  exact h
theorem base_wide (k t : Nat) (h : k ≠ 1 ∨ 1 ≤ t) : (bdBase k t).wide := by
  unfold bdBase
  split
  · rw [if_neg (by omega)]; trivial
  · split <;> trivial
theorem ok_wide {k t : Nat} {B : Bd} (hB : B.Ok k t) (h : k ≠ 1 ∨ 1 ≤ t) : B.wide := by
  cases B with
  | num l => obtain ⟨h1, h2, -⟩ := hB; omega
  | reg b r => trivial
  | cnt c l => trivial
  | bkt f l => trivial
theorem merge_base {k t : Nat} {x : Bd} (hx : x.Ok k t) (h : k ≠ 1 ∨ 1 ≤ t) : x.merge (bdBase k t) = some x := by
  cases x with
  | num l => obtain ⟨h1, h2, -⟩ := hx; omega
  | reg b r =>
    obtain ⟨rfl, h1, -⟩ := hx
    unfold bdBase
    rw [if_pos rfl, if_neg (by omega)]
    show some (Bd.reg b (hlMax r (hlNone (8 - t)))) = _
    rw [hlMax_none]
  | cnt c l =>
    obtain ⟨rfl, -, -, -, h5⟩ := hx
    show some (Bd.cnt c (cmMrg l (cmNone (32 / 2 ^ t)))) = _
    rw [cmMrg_none _ _ h5]
  | bkt f l =>
    obtain ⟨rfl, -, -, -, h5, -⟩ := hx
    show some (Bd.bkt f (hiDone l)) = _
    rw [hiDone_self h5]
theorem sum_wide {k t : Nat} (hk : k = 1 ∨ k = 2 ∨ k = 3) (ht : t ≤ botN k) (h : k ≠ 1 ∨ 1 ≤ t) (A : List (Nat × Int)) (hA : AllOk A) : ∃ y, wkSum k t A = (t, y) ∧ y.Ok k t := by
  have hb := base_ok k t hk ht
  obtain ⟨y, z, h1, -, -, h4⟩ := merge_fold hb A _ _ hA hb (base_wide k t h) (base_wide k t h) (merge_base hb h)
  exact ⟨y, by unfold wkSum; rw [to_base k t hk ht]; exact h1, h4⟩
/-- Two of one level, neither of them numbers. -/
theorem sum_merge {k t : Nat} (hk : k = 1 ∨ k = 2 ∨ k = 3) (ht : t ≤ botN k) (h : k ≠ 1 ∨ 1 ≤ t) (A B : List (Nat × Int)) (hA : AllOk A) (hB : AllOk B) :
    (wkSum k t A).2.merge (wkSum k t B).2 = some (wkSum k t (A ++ B)).2 := by
  obtain ⟨x, h1, h2⟩ := sum_wide hk ht h A hA
  obtain ⟨y, z, e1, e2, e3, -⟩ := merge_fold h2 B _ _ hB (base_ok k t hk ht) (base_wide k t h) (ok_wide h2 h) (merge_base h2 h)
  have e4 : wkSum k t B = (t, y) := by unfold wkSum; rw [to_base k t hk ht]; exact e1
  have e5 : wkSum k t (A ++ B) = (t, z) := by
    unfold wkSum
    rw [List.foldl_append]
    show B.foldl wkAdd (wkSum k t A) = _
    rw [h1]
    exact e2
  rw [h1, e4, e5]
  exact e3
theorem sum_ok (k t : Nat) (hk : k = 1 ∨ k = 2 ∨ k = 3) (ht : t ≤ botN k) (A : List (Nat × Int)) (hA : AllOk A) : (wkSum k t A).2.Ok k (wkSum k t A).1 := wkSum_ok A _ hA (wkTo_ok t ht _ _ rfl (bdNew_ok k hk)).1
theorem sum_to (k a u : Nat) (hk : k = 1 ∨ k = 2 ∨ k = 3) (hau : a ≤ u) (hu : u ≤ botN k) (A : List (Nat × Int)) (hA : AllOk A) : wkTo (wkSum k a A) u = wkSum k u A := wk_lowers a u hau hu A _ hA (bdNew_ok k hk)
theorem sum_ge (k t : Nat) (hk : k = 1 ∨ k = 2 ∨ k = 3) (ht : t ≤ botN k) (A : List (Nat × Int)) : t ≤ (wkSum k t A).1 := by
  have := add_ge A (wkTo (0, bdNew k) t)
  rw [to_base k t hk ht] at this
  unfold wkSum
  rw [to_base k t hk ht]
  exact this
theorem sum_0 (A : List (Nat × Int)) : match exGather [] (hashes A) with
    | some m => wkSum 1 0 A = (0, Bd.num m)
    | none => wkSum 1 0 A = wkSum 1 1 A ∨ ¬ AllOk A := by
  have h := num_sum A []
  cases e : exGather [] (hashes A) with
  | some m => rw [e] at h; exact h
  | none =>
    rw [e] at h
    by_cases hA : AllOk A
    · left
      have h1 := sum_to 1 0 1 (.inl rfl) (by omega) (by decide) A hA
      rw [← h1]
      exact (wkTo_self h).symm
    · exact .inr hA
theorem sum_1 {A : List (Nat × Int)} (hA : AllOk A) : (wkSum 1 1 A).1 = 1 := by
  obtain ⟨y, h, -⟩ := sum_wide (k := 1) (t := 1) (.inl rfl) (by decide) (.inr (Nat.le_refl _)) A hA
  rw [h]
theorem hashes_app (A B : List (Nat × Int)) : hashes (A ++ B) = hashes A ++ hashes B := List.map_append
theorem nil_up : Up ([] : List Int) := List.Pairwise.nil
theorem allOk_app {A B : List (Nat × Int)} (hA : AllOk A) (hB : AllOk B) : AllOk (A ++ B) := fun i hi => (List.mem_append.1 hi).elim (hA i) (hB i)
theorem merge_at {s t : Nat × Bd} {u : Nat} {x y z : Bd} (hu : max s.1 t.1 = u) (hs : wkTo s u = (u, x)) (ht : wkTo t u = (u, y)) (hm : x.merge y = some z) : wkMerge s t = (u, z) := by
  unfold wkMerge
  rw [hu, hs, ht]
  simp only [hm]
/-- Merged: the sketch of all items at the greater level. -/
theorem merge_sum {k : Nat} (hk : k = 1 ∨ k = 2 ∨ k = 3) (a b : Nat) (ha : a ≤ botN k) (hb : b ≤ botN k) (A B : List (Nat × Int)) (hA : AllOk A) (hB : AllOk B) :
    wkMerge (wkSum k a A) (wkSum k b B) = wkSum k (max a b) (A ++ B) := by
  have hAB := allOk_app hA hB
  have oA := sum_ok k a hk ha A hA
  have oB := sum_ok k b hk hb B hB
  have gA := sum_ge k a hk ha A
  have gB := sum_ge k b hk hb B
  obtain ⟨u, hu⟩ : ∃ u, max (wkSum k a A).1 (wkSum k b B).1 = u := ⟨_, rfl⟩
  have hub : u ≤ botN k := by have := ok_bot oA; have := ok_bot oB; omega
  have tA := sum_to k a u hk (by omega) hub A hA
  have tB := sum_to k b u hk (by omega) hub B hB
  by_cases hw : k ≠ 1 ∨ 1 ≤ u
  · obtain ⟨x, ex, -⟩ := sum_wide hk hub hw A hA
    obtain ⟨y, ey, -⟩ := sum_wide hk hub hw B hB
    obtain ⟨z, ez, -⟩ := sum_wide hk hub hw (A ++ B) hAB
    have hm := sum_merge hk hub hw A B hA hB
    rw [ex, ey, ez] at hm
    rw [merge_at hu (tA.trans ex) (tB.trans ey) hm, ← ez]
    by_cases hmx : u = max a b
    · rw [hmx]
    · have key : u ≤ (wkSum k (max a b) (A ++ B)).1 := by
        by_cases hk1 : k ≠ 1 ∨ 1 ≤ a
        · obtain ⟨x', ex', -⟩ := sum_wide hk ha hk1 A hA
          by_cases hk2 : k ≠ 1 ∨ 1 ≤ b
          · obtain ⟨y', ey', -⟩ := sum_wide hk hb hk2 B hB
            rw [ex', ey'] at hu
            exact absurd hu.symm hmx
          · obtain ⟨rfl, rfl⟩ : k = 1 ∧ b = 0 := by omega
            have h0 := sum_0 B
            rw [ex'] at hu
            cases e : exGather [] (hashes B) with
            | some m => rw [e] at h0; rw [h0] at hu; exact absurd hu.symm hmx
            | none =>
              rw [e] at h0
              rcases h0 with h0 | h0
              · rw [h0, sum_1 hB] at hu
                have : u = max a 0 := by simp only at hu; omega
                exact absurd this hmx
              · exact absurd hB h0
        · obtain ⟨rfl, rfl⟩ : k = 1 ∧ a = 0 := by omega
          have h0 := sum_0 A
          by_cases hb1 : 1 ≤ b
          · obtain ⟨y', ey', -⟩ := sum_wide hk hb (.inr hb1) B hB
            rw [ey'] at hu
            cases e : exGather [] (hashes A) with
            | some m => rw [e] at h0; rw [h0] at hu; exact absurd hu.symm hmx
            | none =>
              rw [e] at h0
              rcases h0 with h0 | h0
              · rw [h0, sum_1 hA] at hu
                have : u = max 0 b := by simp only at hu; omega
                exact absurd this hmx
              · exact absurd hA h0
          · obtain rfl : b = 0 := by omega
            have h0B := sum_0 B
            have h0AB := sum_0 (A ++ B)
            have hu1 : u ≤ 1 := by
              have l1 : (wkSum 1 0 A).1 ≤ 1 := by
                cases e : exGather [] (hashes A) with
                | some m => rw [e] at h0; rw [h0]; exact Nat.zero_le _
                | none =>
                  rw [e] at h0
                  rcases h0 with h0 | h0
                  · rw [h0, sum_1 hA]; exact Nat.le_refl _
                  · exact absurd hA h0
              have l2 : (wkSum 1 0 B).1 ≤ 1 := by
                cases e : exGather [] (hashes B) with
                | some m => rw [e] at h0B; rw [h0B]; exact Nat.zero_le _
                | none =>
                  rw [e] at h0B
                  rcases h0B with h0 | h0
                  · rw [h0, sum_1 hB]; exact Nat.le_refl _
                  · exact absurd hB h0
              omega
            show u ≤ (wkSum 1 0 (A ++ B)).1
            cases eAB : exGather [] (hashes (A ++ B)) with
            | none =>
              rw [eAB] at h0AB
              rcases h0AB with h | h
              · rw [h, sum_1 hAB]; exact hu1
              · exact absurd hAB h
            | some m =>
              exfalso
              obtain ⟨m1, m2, m3⟩ := gather_some _ [] m nil_up (by decide) eAB
              rw [hashes_app] at m3
              have f1 : ∃ x, exGather [] (hashes A) = some x := by
                cases e : exGather [] (hashes A) with
                | some x => exact ⟨x, rfl⟩
                | none =>
                  have := gather_none _ [] nil_up e m m1 (fun y hy => (m3 y).2 (hy.elim .inl (fun h => .inr (List.mem_append_left _ h))))
                  omega
              have f2 : ∃ x, exGather [] (hashes B) = some x := by
                cases e : exGather [] (hashes B) with
                | some x => exact ⟨x, rfl⟩
                | none =>
                  have := gather_none _ [] nil_up e m m1 (fun y hy => (m3 y).2 (hy.elim .inl (fun h => .inr (List.mem_append_right _ h))))
                  omega
              obtain ⟨p, hp⟩ := f1
              obtain ⟨q, hq⟩ := f2
              rw [hp] at h0
              rw [hq] at h0B
              rw [h0, h0B] at hu
              exact hmx hu.symm
      have h3 := sum_to k (max a b) u hk (by omega) hub (A ++ B) hAB
      rw [← h3]
      exact wkTo_self key
  · obtain ⟨rfl, rfl⟩ : k = 1 ∧ u = 0 := by omega
    obtain ⟨rfl, rfl⟩ : a = 0 ∧ b = 0 := by omega
    have h0 := sum_0 A
    have h0B := sum_0 B
    have h0AB := sum_0 (A ++ B)
    have f1 : ∃ x, exGather [] (hashes A) = some x := by
      cases e : exGather [] (hashes A) with
      | some x => exact ⟨x, rfl⟩
      | none =>
        rw [e] at h0
        rcases h0 with h | h
        · rw [h, sum_1 hA] at hu; omega
        · exact absurd hA h
    have f2 : ∃ x, exGather [] (hashes B) = some x := by
      cases e : exGather [] (hashes B) with
      | some x => exact ⟨x, rfl⟩
      | none =>
        rw [e] at h0B
        rcases h0B with h | h
        · rw [h, sum_1 hB] at hu; omega
        · exact absurd hB h
    obtain ⟨p, hp⟩ := f1
    obtain ⟨q, hq⟩ := f2
    rw [hp] at h0
    rw [hq] at h0B
    obtain ⟨p1, p2, p3⟩ := gather_some _ [] p nil_up (by decide) hp
    obtain ⟨q1, q2, q3⟩ := gather_some _ [] q nil_up (by decide) hq
    have hsame : exGather p q = exGather [] (hashes (A ++ B)) := gather_same p [] q _ p1 p2 nil_up (by decide) (fun y => by
      rw [hashes_app, List.mem_append, p3, q3]
      simp)
    have h0' : wkSum 1 0 A = (0, Bd.num p) := h0
    have h0B' : wkSum 1 0 B = (0, Bd.num q) := h0B
    have e1 : wkTo (wkSum 1 0 A) 0 = (0, Bd.num p) := by rw [h0']; rfl
    have e2 : wkTo (wkSum 1 0 B) 0 = (0, Bd.num q) := by rw [h0B']; rfl
    show _ = wkSum 1 0 (A ++ B)
    cases e : exGather p q with
    | some z =>
      rw [← hsame, e] at h0AB
      have h0AB' : wkSum 1 0 (A ++ B) = (0, Bd.num z) := h0AB
      rw [h0AB']
      exact merge_at hu e1 e2 (by show (exGather p q).map Bd.num = _; rw [e]; rfl)
    | none =>
      rw [← hsame, e] at h0AB
      have h0AB' : wkSum 1 0 (A ++ B) = wkSum 1 1 (A ++ B) := h0AB.elim id (fun h => absurd hAB h)
      rw [h0AB']
      have l1 : (Bd.num p).low = (wkSum 1 1 A).2 := by
        rw [← sum_to 1 0 1 (.inl rfl) (by omega) (by decide) A hA, h0']
        rfl
      have l2 : (Bd.num q).low = (wkSum 1 1 B).2 := by
        rw [← sum_to 1 0 1 (.inl rfl) (by omega) (by decide) B hB, h0B']
        rfl
      have hm := sum_merge (k := 1) (t := 1) (.inl rfl) (by decide) (.inr (Nat.le_refl _)) A B hA hB
      have hmn : (Bd.num p).merge (Bd.num q) = none := by show (exGather p q).map Bd.num = _; rw [e]; rfl
      unfold wkMerge
      rw [hu, e1, e2]
      simp only [hmn, l1, l2, hm, Option.getD_some]
      exact Prod.ext (sum_1 hAB).symm rfl
theorem merge_comm {k L : Nat} {x y : Bd} (hx : x.Ok k L) (hy : y.Ok k L) : x.merge y = y.merge x := by
  cases x with
  | num l =>
    cases y with
    | num m =>
      show (exGather l m).map Bd.num = (exGather m l).map Bd.num
      rw [gather_same l m m l hx.2.2.1 hx.2.2.2.1 hy.2.2.1 hy.2.2.2.1 (fun y => Or.comm)]
    | reg b r => rfl
    | cnt c l => rfl
    | bkt f l => rfl
  | reg b r =>
    cases y with
    | num m => rfl
    | reg b' s =>
      obtain ⟨a1, a2, a3, a4, a5, a6⟩ := hx
      obtain ⟨b1, b2, b3, b4, b5, b6⟩ := hy
      obtain rfl : b = b' := by omega
      show some (Bd.reg b (hlMax r s)) = some (Bd.reg b (hlMax s r))
      rw [hlMax_comm r s (by omega)]
    | cnt c l => rfl
    | bkt f l => rfl
  | cnt c l =>
    cases y with
    | num m => rfl
    | reg b r => rfl
    | cnt c' m =>
      obtain ⟨a1, a2, a3, a4, a5⟩ := hx
      obtain ⟨b1, b2, b3, b4, b5⟩ := hy
      obtain rfl : c = c' := same_cols a3 b3
      show some (Bd.cnt c (cmMrg l m)) = some (Bd.cnt c (cmMrg m l))
      rw [cmMrg_comm l m (by omega)]
    | bkt f l => rfl
  | bkt f l =>
    cases y with
    | num m => rfl
    | reg b r => rfl
    | cnt c m => rfl
    | bkt f' m =>
      obtain ⟨a1, a2, a3, a4, a5, a6, a7⟩ := hx
      obtain ⟨b1, b2, b3, b4, b5, b6, b7⟩ := hy
      obtain rfl : f = f' := by omega
      show some (Bd.bkt f (hiDone (hiPuts l m))) = some (Bd.bkt f (hiDone (hiPuts m l)))
      rw [hiPuts_comm m l a4 b4 a6 b6]
theorem wkMerge_comm {k : Nat} {s t : Nat × Bd} (hs : s.2.Ok k s.1) (ht : t.2.Ok k t.1) : wkMerge s t = wkMerge t s := by
  have hb : max s.1 t.1 ≤ botN k := by have := ok_bot hs; have := ok_bot ht; omega
  obtain ⟨o1, l1⟩ := wkTo_ok (max s.1 t.1) hb _ s rfl hs
  obtain ⟨o2, l2⟩ := wkTo_ok (max s.1 t.1) hb _ t rfl ht
  rw [show max s.1 (max s.1 t.1) = max s.1 t.1 by omega] at l1
  rw [show max t.1 (max s.1 t.1) = max s.1 t.1 by omega] at l2
  rw [l1] at o1
  rw [l2] at o2
  unfold wkMerge
  rw [Nat.max_comm t.1 s.1, merge_comm o1 o2]
  cases e : (wkTo t (max s.1 t.1)).2.merge (wkTo s (max s.1 t.1)).2 with
  | some B => rfl
  | none =>
    dsimp only
    by_cases hlt : max s.1 t.1 < botN k
    · have p1 := bd_low_ok o1 hlt
      have p2 := bd_low_ok o2 hlt
      have hw : k ≠ 1 ∨ 1 ≤ max s.1 t.1 + 1 := .inr (by omega)
      have w1 := ok_wide p1 hw
      have w2 := ok_wide p2 hw
      rw [merge_comm p1 p2]
      have : ∃ z, (wkTo t (max s.1 t.1)).2.low.merge (wkTo s (max s.1 t.1)).2.low = some z := by
        revert p1 p2 w1 w2
        generalize (wkTo t (max s.1 t.1)).2.low = y
        generalize (wkTo s (max s.1 t.1)).2.low = x
        intro p1 p2 w1 w2
        cases y <;> cases x <;> first | exact w1.elim | exact w2.elim | exact ⟨_, rfl⟩ | (have := p1.1; have := p2.1; omega)
      obtain ⟨z, hz⟩ := this
      rw [hz]
      rfl
    · exfalso
      have : max s.1 t.1 = botN k := by omega
      revert o1 o2 e
      generalize (wkTo t (max s.1 t.1)).2 = y
      generalize (wkTo s (max s.1 t.1)).2 = x
      intro o1 o2 e
      rw [this] at o1 o2
      cases y <;> cases x <;> first | (have := o1.1; have := o2.1; omega) | (cases e; done) | (obtain ⟨h1, h2, -⟩ := o1; subst h1; simp [botN] at h2; done) | (obtain ⟨h1, h2, -⟩ := o2; subst h1; simp [botN] at h2; done)
/-- The order of the items does not count. -/
theorem sum_rev (k t : Nat) (hk : k = 1 ∨ k = 2 ∨ k = 3) (ht : t ≤ botN k) : ∀ (A : List (Nat × Int)), AllOk A → wkSum k t A.reverse = wkSum k t A
  | [], _ => rfl
  | i :: A, hA => by
    have hA' : AllOk A := fun j hj => hA j (List.mem_cons_of_mem _ hj)
    have hi : AllOk [i] := fun j hj => hA j (by rw [List.mem_singleton.1 hj]; exact List.mem_cons_self)
    have e1 : wkSum k t (A.reverse ++ [i]) = wkAdd (wkSum k t A.reverse) i := by unfold wkSum; rw [List.foldl_append]; rfl
    have e2 : wkSum k t (A ++ [i]) = wkAdd (wkSum k t A) i := by unfold wkSum; rw [List.foldl_append]; rfl
    rw [List.reverse_cons, e1, sum_rev k t hk ht A hA', ← e2]
    have m1 := merge_sum hk t t ht ht A [i] hA' hi
    have m2 := merge_sum hk t t ht ht [i] A hi hA'
    rw [Nat.max_self] at m1 m2
    rw [← m1, wkMerge_comm (sum_ok k t hk ht A hA') (sum_ok k t hk ht [i] hi), m2]
    rfl
theorem wkMerge_sum_comm {k : Nat} (hk : k = 1 ∨ k = 2 ∨ k = 3) (a b : Nat) (ha : a ≤ botN k) (hb : b ≤ botN k) (A B : List (Nat × Int)) (hA : AllOk A) (hB : AllOk B) :
    wkMerge (wkSum k b B) (wkSum k a A) = wkSum k (max a b) (A ++ B) := by
  rw [← merge_sum hk a b ha hb A B hA hB]
  exact wkMerge_comm (sum_ok k b hk hb B hB) (sum_ok k a hk ha A hA)
end Go.Proofs.YtmkefodaibmkhaaGreatDoor
