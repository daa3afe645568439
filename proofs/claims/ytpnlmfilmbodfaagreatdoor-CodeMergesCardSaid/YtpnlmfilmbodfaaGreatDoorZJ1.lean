/- Sketches at work as plain data: a number added, one level lower. No program in sight. Sketches at work as plain data: two merged. No program in sight. -/
import Derived.Test.YtpnlmfilmbodfaaGreatDoorZG0
import Derived.Test.YtpnlmfilmbodfaaGreatDoorZY6
namespace Go.Proofs.YtpnlmfilmbodfaaGreatDoor
open Go Go.RowKit
inductive Bd where
  | num (l : List Int)
  | reg (b : Nat) (r : List Nat)
  | cnt (c : Nat) (l : List Int)
  | bkt (f : Nat) (l : List (Int × Int))
def Bd.add : Bd → Nat → Int → Option Bd
  | .num l, h, _ => (exGather l [(h : Int)]).map .num
  | .reg b r, h, _ => some (.reg b (hlAdd b r h))
  | .cnt c l, h, n => some (.cnt c (cmAdd c l h n))
  | .bkt f l, h, n => some (.bkt f (hiAdd f l h n))
def Bd.low : Bd → Bd
  | .num l => .reg 7 (hlSum 7 (hlNone 7) (l.map Int.toNat))
  | .reg b r => .reg (b - 1) (hlLow b r)
  | .cnt c l => .cnt (c / 2) (cmLow c l)
  | .bkt f l => .bkt (f - 1) (hiLow l)
def Bd.Ok (kind level : Nat) : Bd → Prop
  | .num l => kind = 1 ∧ level = 0 ∧ Up l ∧ l.length ≤ 64 ∧ U64s l
  | .reg b r => kind = 1 ∧ 1 ≤ level ∧ level ≤ 4 ∧ b + level = 8 ∧ r.length = 2 ^ b ∧ ∀ i, r.getD i 0 ≤ 65 - b
  | .cnt c l => kind = 2 ∧ level ≤ 3 ∧ c * 2 ^ level = 32 ∧ l.length = c + c ∧ U64s l
  | .bkt f l => kind = 3 ∧ level ≤ 3 ∧ f + level = 3 ∧ BinUp l ∧ (∀ b ∈ l, b.2 ≠ 0) ∧ BinsU l ∧ ∀ b ∈ l, boundsB f b.1 = true
def botN (kind : Nat) : Nat := if kind = 1 then 4 else 3
def wkLow (s : Nat × Bd) : Nat × Bd := (s.1 + 1, s.2.low)
def wkDown : Nat → Nat × Bd → Nat × Bd
  | 0, s => s
  | n + 1, s => wkDown n (wkLow s)
def wkTo (s : Nat × Bd) (t : Nat) : Nat × Bd := wkDown (t - s.1) s
def Item.ok (i : Nat × Int) : Prop := i.1 < 2 ^ 64 ∧ U64 i.2
theorem isFine_nat (f : Nat) (hf : f ≤ 3) : isFineB (f : Int) = true := by simp [isFineB]; omega
theorem half_small : ∀ f ∈ [1, 2, 3], ∀ p ∈ List.range 26, boundsB ((f : Nat) : Int) ((p : Nat) : Int) = true → boundsB ((f : Nat) - 1 : Int) (hiHalf ((p : Nat) : Int)) = true := by decide +kernel
theorem bounds_half (f : Nat) (h1 : 1 ≤ f) (h3 : f ≤ 3) (p : Int) (h : boundsB f p = true) : boundsB ((f - 1 : Nat) : Int) (hiHalf p) = true := by
  have hp0 : 0 ≤ p := by
    unfold boundsB at h
    split at h
    · rename_i hc
      simp only [Bool.and_eq_true, decide_eq_true_eq] at hc
      exact hc.2
    · cases h
  have hf1 : ((f - 1 : Nat) : Int) = (f : Int) - 1 := by omega
  by_cases hs : p < 26
  · have := half_small f (by simp; omega) p.toNat (by simp; omega)
    rw [Int.toNat_of_nonneg hp0] at this
    rw [hf1]
    exact this h
  rw [boundsB_at _ _ (by omega) (isFine_nat f h3)] at h
  have hh : hiHalf p = 1 + (p - 1) / 2 := by unfold hiHalf; rw [if_neg (by omega)]
  rw [hh, boundsB_at _ _ (by omega) (isFine_nat _ (by omega))]
  rcases (by omega : f = 1 ∨ f = 2 ∨ f = 3) with rfl | rfl | rfl
  · simp only [show (((1 : Nat) : Int)).toNat = 1 from rfl, show (((1 - 1 : Nat) : Int)).toNat = 0 from rfl] at h ⊢
    by_cases hc : 64 ≤ (p - 1) / 2 ^ 1
    · rw [if_pos hc] at h; cases h
    · rw [if_neg (by omega), if_pos (by omega)]
  · simp only [show (((2 : Nat) : Int)).toNat = 2 from rfl, show (((2 - 1 : Nat) : Int)).toNat = 1 from rfl] at h ⊢
    by_cases hc : 64 ≤ (p - 1) / 2 ^ 2
    · rw [if_pos hc] at h; cases h
    · rw [if_neg (by omega), if_pos (by omega)]
  · simp only [show (((3 : Nat) : Int)).toNat = 3 from rfl, show (((3 - 1 : Nat) : Int)).toNat = 2 from rfl] at h ⊢
    by_cases hc : 64 ≤ (p - 1) / 2 ^ 3
    · rw [if_pos hc] at h; cases h
    · rw [if_neg (by omega), if_pos (by omega)]
theorem cnt_cases {c level : Nat} (h3 : level ≤ 3) (h : c * 2 ^ level = 32) : (level = 0 ∧ c = 32) ∨ (level = 1 ∧ c = 16) ∨ (level = 2 ∧ c = 8) ∨ (level = 3 ∧ c = 4) := by
  rcases (by omega : level = 0 ∨ level = 1 ∨ level = 2 ∨ level = 3) with rfl | rfl | rfl | rfl <;> simp only [Nat.reducePow] at h <;> omega
theorem hlSum_le (b : Nat) (hb : b ≤ 8) : ∀ (l r : List Nat), (∀ i, r.getD i 0 ≤ 65 - b) → ∀ i, (hlSum b r l).getD i 0 ≤ 65 - b
  | [], _, h => h
  | x :: l, r, h => hlSum_le b hb l _ (hlTell_le r _ _ _ h (hlRank_le b x hb))
theorem hlNone_le (b m : Nat) : ∀ i, (hlNone b).getD i 0 ≤ m := fun i => by
  unfold hlNone
  rw [List.getD_eq_getElem?_getD, List.getElem?_replicate]
  split <;> simp
theorem hlLow_le (b : Nat) (h1 : 4 ≤ b) (h2 : b ≤ 8) (r : List Nat) (h : ∀ i, r.getD i 0 ≤ 65 - b) : ∀ i, (hlLow b r).getD i 0 ≤ 65 - (b - 1) := fun i => by
  by_cases hi : i < 2 ^ (b - 1)
  · rw [low_at _ _ _ hi]
    have g1 := h (2 * i)
    have g2 := oneR_le (r.getD (2 * i + 1) 0)
    have g3 : upR (r.getD (2 * i) 0) ≤ r.getD (2 * i) 0 + 1 := by unfold upR; split <;> omega
    omega
  · rw [List.getD_eq_getElem?_getD, List.getElem?_eq_none (by rw [hlLow_len]; omega)]
    simp
theorem hiPuts_mem : ∀ (l a : List (Int × Int)) (x : Int × Int), x ∈ hiPuts a l → x ∈ a ∨ (∃ y ∈ a, x.1 = y.1) ∨ ∃ y ∈ l, x.1 = y.1
  | [], _, _, h => .inl h
  | b :: l, a, x, h => by
    rcases hiPuts_mem l (binPut a b.1 b.2) x h with h | ⟨y, hy, e⟩ | ⟨y, hy, e⟩
    · rcases binPut_mem _ _ _ x h with e | h
      · exact .inr (.inr ⟨b, List.mem_cons_self, e⟩)
      · exact .inl h
    · rcases binPut_mem _ _ _ y hy with e2 | h
      · exact .inr (.inr ⟨b, List.mem_cons_self, e.trans e2⟩)
      · exact .inr (.inl ⟨y, h, e⟩)
    · exact .inr (.inr ⟨y, List.mem_cons_of_mem _ hy, e⟩)
theorem bd_low_ok {k L : Nat} {b : Bd} (hb : b.Ok k L) (hL : L < botN k) : b.low.Ok k (L + 1) := by
  cases b with
  | num l =>
    obtain ⟨h1, h2, h3, h4, h5⟩ := hb
    subst h1
    subst h2
    exact ⟨rfl, by omega, by omega, by omega, by rw [hlSum_len]; simp [hlNone], hlSum_le 7 (by omega) _ _ (hlNone_le 7 _)⟩
  | reg b r =>
    obtain ⟨h1, h2, h3, h4, h5, h6⟩ := hb
    subst h1
    have hL4 : L < 4 := hL
    exact ⟨rfl, by omega, by omega, by omega, by rw [hlLow_len], hlLow_le b (by omega) (by omega) r h6⟩
  | cnt c l =>
    obtain ⟨h1, h2, h3, h4, h5⟩ := hb
    subst h1
    have hL3 : L < 3 := hL
    refine ⟨rfl, by omega, ?_, by rw [cmLow_len], cmLow_u64 c l h5⟩
    rcases cnt_cases h2 h3 with ⟨rfl, rfl⟩ | ⟨rfl, rfl⟩ | ⟨rfl, rfl⟩ | ⟨rfl, rfl⟩ <;> first | rfl | omega
  | bkt f l =>
    obtain ⟨h1, h2, h3, h4, h5, h6, h7⟩ := hb
    subst h1
    have hL3 : L < 3 := hL
    obtain ⟨g1, g2⟩ := half_bins h5 h6
    refine ⟨rfl, by omega, by omega, ?_, hiDone_pos, hiDone_u64 (hiPuts_u64 _ [] (fun b hb => by cases hb) g2), ?_⟩
    · exact hiDone_up (hiPuts_up _ [] List.Pairwise.nil)
    · intro x hx
      rcases hiPuts_mem _ _ x (List.mem_filter.1 hx).1 with h | ⟨y, hy, e⟩ | ⟨y, hy, e⟩
      · cases h
      · cases hy
      · obtain ⟨z, hz, rfl⟩ := List.mem_map.1 hy
        rw [e]
        exact bounds_half f (by omega) (by omega) z.1 (h7 z hz)
theorem ok_bot {k L : Nat} {b : Bd} (hb : b.Ok k L) : L ≤ botN k := by
  cases b with
  | num l => obtain ⟨h1, h2, -⟩ := hb; subst h1; subst h2; decide
  | reg b r => obtain ⟨h1, h2, h3, -⟩ := hb; subst h1; exact h3
  | cnt c l => obtain ⟨h1, h2, -⟩ := hb; subst h1; exact h2
  | bkt f l => obtain ⟨h1, h2, -⟩ := hb; subst h1; exact h2
theorem wkTo_self {s : Nat × Bd} {t : Nat} (h : t ≤ s.1) : wkTo s t = s := by
  unfold wkTo
  rw [show t - s.1 = 0 by omega]
  rfl
theorem wkTo_low {s : Nat × Bd} {t : Nat} (h : s.1 < t) : wkTo s t = wkTo (wkLow s) t := by
  unfold wkTo
  rw [show t - s.1 = (t - (s.1 + 1)) + 1 by omega]
  rfl
theorem wkTo_ok {k : Nat} (t : Nat) (ht : t ≤ botN k) : ∀ (m : Nat) (s : Nat × Bd), t - s.1 = m → s.2.Ok k s.1 → (wkTo s t).2.Ok k (wkTo s t).1 ∧ (wkTo s t).1 = max s.1 t := by
  intro m
  induction m with
  | zero => intro s hm hs; rw [wkTo_self (by omega)]; exact ⟨hs, by omega⟩
  | succ m ih =>
    intro s hm hs
    rw [wkTo_low (by omega)]
    have h := ih (wkLow s) (by show t - (s.1 + 1) = m; omega) (bd_low_ok hs (by omega))
    exact ⟨h.1, by rw [h.2]; show max (s.1 + 1) t = _; omega⟩
end Go.Proofs.YtpnlmfilmbodfaaGreatDoor
namespace Go.Proofs.YtpnlmfilmbodfaaGreatDoor
open Go Go.RowKit
def hlMax (r s : List Nat) : List Nat := (List.range r.length).map fun i => max (r.getD i 0) (s.getD i 0)
def cmMrg (l m : List Int) : List Int := (List.range l.length).map fun i => satI (l.getD i 0) (m.getD i 0)
def Bd.merge : Bd → Bd → Option Bd
  | .num l, .num m => (exGather l m).map .num
  | .reg b r, .reg _ s => some (.reg b (hlMax r s))
  | .cnt c l, .cnt _ m => some (.cnt c (cmMrg l m))
  | .bkt f l, .bkt _ m => some (.bkt f (hiDone (hiPuts l m)))
  | _, _ => none
def wkMerge (s t : Nat × Bd) : Nat × Bd :=
  match (wkTo s (max s.1 t.1)).2.merge (wkTo t (max s.1 t.1)).2 with
  | some B => (max s.1 t.1, B)
  | none => (max s.1 t.1 + 1, ((wkTo s (max s.1 t.1)).2.low.merge (wkTo t (max s.1 t.1)).2.low).getD (wkTo s (max s.1 t.1)).2.low)
theorem gather_some : ∀ (r l m : List Int), Up l → l.length ≤ 64 → exGather l r = some m → Up m ∧ m.length ≤ 64 ∧ ∀ y, y ∈ m ↔ y ∈ l ∨ y ∈ r
  | [], l, m, hu, hl, h => by
    obtain rfl : l = m := by simpa [exGather] using h
    exact ⟨hu, hl, fun y => by simp⟩
  | n :: r, l, m, hu, hl, h => by
    rw [exGather] at h
    split at h
    · cases h
    · rename_i hc
      rw [exIns_eq l n hu] at h hc
      obtain ⟨h1, h2, h3⟩ := gather_some r _ m (insR_up l n hu) (by omega) h
      refine ⟨h1, h2, fun y => ?_⟩
      rw [h3, insR_mem, List.mem_cons]
      constructor
      · rintro ((e | e) | e)
        · exact .inr (.inl e)
        · exact .inl e
        · exact .inr (.inr e)
      · rintro (e | e | e)
        · exact .inl (.inr e)
        · exact .inl (.inl e)
        · exact .inr e
theorem hlMax_len (r s : List Nat) : (hlMax r s).length = r.length := by simp [hlMax]
theorem hlMax_at (r s : List Nat) (i : Nat) (hi : i < r.length) : (hlMax r s).getD i 0 = max (r.getD i 0) (s.getD i 0) := by
  unfold hlMax
  rw [List.getD_eq_getElem?_getD, List.getElem?_map, List.getElem?_range hi]
  rfl
theorem getD_mem0 (l : List Nat) (i : Nat) (h : l.length ≤ i) : l.getD i 0 = 0 := by rw [List.getD_eq_getElem?_getD, List.getElem?_eq_none h]; rfl
theorem cmMrg_len (l m : List Int) : (cmMrg l m).length = l.length := by simp [cmMrg]
theorem cmMrg_at (l m : List Int) (i : Nat) (hi : i < l.length) : (cmMrg l m).getD i 0 = satI (l.getD i 0) (m.getD i 0) := by
  unfold cmMrg
  rw [List.getD_eq_getElem?_getD, List.getElem?_map, List.getElem?_range hi]
  rfl
theorem cmMrg_u64 (l m : List Int) (hl : U64s l) (hm : U64s m) : U64s (cmMrg l m) := by
  intro x hx
  obtain ⟨i, -, rfl⟩ := List.mem_map.1 hx
  exact satI_u64 _ _ (getD_u64 l hl i) (getD_u64 m hm i)
def Bd.wide : Bd → Prop
  | .num _ => False
  | _ => True
theorem same_cols {c d L : Nat} (h : c * 2 ^ L = 32) (h' : d * 2 ^ L = 32) : c = d := Nat.eq_of_mul_eq_mul_right (Nat.two_pow_pos L) (h.trans h'.symm)
theorem merge_ok {k L : Nat} {x y z : Bd} (hx : x.Ok k L) (hy : y.Ok k L) (hz : x.merge y = some z) : z.Ok k L := by
  cases x with
  | num l =>
    cases y with
    | num m =>
      obtain ⟨a1, a2, a3, a4, a5⟩ := hx
      obtain ⟨b1, b2, b3, b4, b5⟩ := hy
      obtain ⟨q, hq, rfl⟩ := Option.map_eq_some_iff.1 hz
      obtain ⟨c1, c2, c3⟩ := gather_some m l q a3 a4 hq
      exact ⟨a1, a2, c1, c2, fun n hn => ((c3 n).1 hn).elim (a5 n) (b5 n)⟩
    | reg b r => cases hz
    | cnt c l => cases hz
    | bkt f l => cases hz
  | reg b r =>
    cases y with
    | num m => cases hz
    | reg b' s =>
      obtain ⟨a1, a2, a3, a4, a5, a6⟩ := hx
      obtain ⟨b1, b2, b3, b4, b5, b6⟩ := hy
      obtain rfl : _ = z := Option.some.inj hz
      refine ⟨a1, a2, a3, a4, by rw [hlMax_len, a5], fun i => ?_⟩
      by_cases hi : i < r.length
      · rw [hlMax_at _ _ _ hi]
        have := a6 i
        have := b6 i
        obtain rfl : b = b' := by omega
        omega
      · rw [getD_mem0 _ _ (by rw [hlMax_len]; omega)]; omega
    | cnt c l => cases hz
    | bkt f l => cases hz
  | cnt c l =>
    cases y with
    | num m => cases hz
    | reg b r => cases hz
    | cnt c' m =>
      obtain ⟨a1, a2, a3, a4, a5⟩ := hx
      obtain ⟨b1, b2, b3, b4, b5⟩ := hy
      obtain rfl : _ = z := Option.some.inj hz
      exact ⟨a1, a2, a3, by rw [cmMrg_len, a4], cmMrg_u64 l m a5 b5⟩
    | bkt f l => cases hz
  | bkt f l =>
    cases y with
    | num m => cases hz
    | reg b r => cases hz
    | cnt c m => cases hz
    | bkt f' m =>
      obtain ⟨a1, a2, a3, a4, a5, a6, a7⟩ := hx
      obtain ⟨b1, b2, b3, b4, b5, b6, b7⟩ := hy
      obtain rfl : f = f' := by omega
      obtain rfl : _ = z := Option.some.inj hz
      refine ⟨a1, a2, a3, hiDone_up (hiPuts_up m l a4), hiDone_pos, hiDone_u64 (hiPuts_u64 m l a6 b6), fun x hx => ?_⟩
      rcases hiPuts_mem m l x (List.mem_filter.1 hx).1 with h | ⟨y, hy, e⟩ | ⟨y, hy, e⟩
      · exact a7 x h
      · rw [e]; exact a7 y hy
      · rw [e]; exact b7 y hy
end Go.Proofs.YtpnlmfilmbodfaaGreatDoor
