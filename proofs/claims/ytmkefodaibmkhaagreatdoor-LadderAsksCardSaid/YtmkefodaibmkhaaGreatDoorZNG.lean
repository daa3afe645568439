/- What is told of sketches of items, as plain data: counters tell no less than the sum, histograms neither, exact sets how many numbers there are. No program in sight. How many numbers there are, as plain data. No program in sight. -/
import Derived.Test.YtmkefodaibmkhaaGreatDoorZNE
import Derived.Test.YtmkefodaibmkhaaGreatDoorZJ1
namespace Go.Proofs.YtmkefodaibmkhaaGreatDoor
open Go Go.RowKit

/-- The saturated sum of those that count. -/
def asIs (k h : Nat) (i : Nat × Int) : Bool := (k == 2 && i.1 == h) || (k == 3 && decide (i.1 ≤ h))
def asSum (k h : Nat) (s : Int) (A : List (Nat × Int)) : Int := A.foldl (fun s i => if asIs k h i then satI s i.2 else s) s
theorem asSum_snoc (k h : Nat) (s : Int) (A : List (Nat × Int)) (i : Nat × Int) : asSum k h s (A ++ [i]) = if asIs k h i then satI (asSum k h s A) i.2 else asSum k h s A := by unfold asSum; rw [List.foldl_append]; rfl
theorem asSum_u64 (k h : Nat) : ∀ (A : List (Nat × Int)) (s : Int), AllOk A → U64 s → U64 (asSum k h s A)
  | [], _, _, hs => hs
  | i :: A, s, hA, hs => by
    show U64 (asSum k h (if asIs k h i then satI s i.2 else s) A)
    refine asSum_u64 k h A _ (fun j hj => hA j (List.mem_cons_of_mem _ hj)) ?_
    split
    · exact satI_u64 _ _ hs (hA i List.mem_cons_self).2
    · exact hs
theorem satI_mono (a b n : Int) (h : a ≤ b) (_ : U64 n) (_ : U64 b) : satI a n ≤ satI b n := by
  unfold satI
  unfold U64 at *
  split <;> split <;> omega
theorem satI_le (a n : Int) (ha : U64 a) (hn : U64 n) : a ≤ satI a n := by
  unfold U64 satI at *
  split <;> omega

/-! ### counters -/
theorem put_ge (l : List Int) (p q : Nat) (n : Int) (hl : U64s l) (hn : U64 n) : l.getD q 0 ≤ (cmPut l p n).getD q 0 := by
  rw [cmPut_at]
  split
  · exact satI_le _ _ (getD_u64 l hl q) hn
  · exact Int.le_refl _
theorem put_self (l : List Int) (p : Nat) (n : Int) (hp : p < l.length) : (cmPut l p n).getD p 0 = satI (l.getD p 0) n := by
  rw [cmPut_at, if_pos ⟨rfl, hp⟩]
theorem count_add (c : Nat) (l : List Int) (h : Nat) (i : Nat × Int) (s : Int) (hc : 0 < c) (hl : l.length = c + c) (hu : U64s l) (hi : Item.ok i) (hs : s ≤ cmCount c l h) : (if asIs 2 h i then satI s i.2 else s) ≤ cmCount c (cmAdd c l i.1 i.2) h := by
  have l0 := cmPl_lt c 0 h hc (by omega)
  have l1 := cmPl_lt c 1 h hc (by omega)
  have u1 := cmPut_u64 l (cmPl c 0 i.1) i.2 hu hi.2
  have g0 : ∀ q, l.getD q 0 ≤ (cmAdd c l i.1 i.2).getD q 0 := fun q => Int.le_trans (put_ge l _ q i.2 hu hi.2) (put_ge _ _ q i.2 u1 hi.2)
  unfold cmCount at hs ⊢
  by_cases he : asIs 2 h i = true
  · rw [if_pos he]
    have hh : i.1 = h := by simpa [asIs] using he
    have m0 : satI (l.getD (cmPl c 0 h) 0) i.2 ≤ (cmAdd c l i.1 i.2).getD (cmPl c 0 h) 0 := by
      rw [← put_self l (cmPl c 0 h) i.2 (by omega), ← hh]
      exact put_ge _ _ _ i.2 u1 hi.2
    have m1 : satI (l.getD (cmPl c 1 h) 0) i.2 ≤ (cmAdd c l i.1 i.2).getD (cmPl c 1 h) 0 := by
      unfold cmAdd
      rw [hh, put_self _ (cmPl c 1 h) i.2 (by rw [cmPut_len]; omega)]
      exact satI_mono _ _ _ (put_ge l _ _ i.2 hu hi.2) hi.2 (getD_u64 _ (cmPut_u64 l _ i.2 hu hi.2) _)
    have n0 := satI_mono s (l.getD (cmPl c 0 h) 0) i.2 (by omega) hi.2 (getD_u64 l hu _)
    have n1 := satI_mono s (l.getD (cmPl c 1 h) 0) i.2 (by omega) hi.2 (getD_u64 l hu _)
    omega
  · rw [if_neg he]
    have := g0 (cmPl c 0 h)
    have := g0 (cmPl c 1 h)
    omega
theorem cnt_fold (c t h : Nat) (hc : 0 < c) : ∀ (A : List (Nat × Int)) (l : List Int) (s : Int), AllOk A → l.length = c + c → U64s l → s ≤ cmCount c l h →
    ∃ l', A.foldl wkAdd (t, Bd.cnt c l) = (t, Bd.cnt c l') ∧ asSum 2 h s A ≤ cmCount c l' h
  | [], l, _, _, _, _, hs => ⟨l, rfl, hs⟩
  | i :: A, l, s, hA, hl, hu, hs => by
    have hi := hA i List.mem_cons_self
    exact cnt_fold c t h hc A (cmAdd c l i.1 i.2) _ (fun j hj => hA j (List.mem_cons_of_mem _ hj)) (by rw [cmAdd_len]; exact hl) (cmAdd_u64 c l i.1 i.2 hu hi.2) (count_add c l h i s hc hl hu hi hs)
theorem asks_cnt (t h : Nat) (ht : t ≤ 3) (A : List (Nat × Int)) (hA : AllOk A) : asSum 2 h 0 A ≤ (wkSum 2 t A).2.ask h := by
  unfold wkSum
  rw [to_base 2 t (.inr (.inl rfl)) ht]
  have hok := base_ok 2 t (.inr (.inl rfl)) ht
  show _ ≤ (A.foldl wkAdd (t, Bd.cnt (32 / 2 ^ t) (cmNone (32 / 2 ^ t)))).2.ask h
  obtain ⟨-, -, o3, o4, o5⟩ : (Bd.cnt (32 / 2 ^ t) (cmNone (32 / 2 ^ t))).Ok 2 t := hok
  have hc : 0 < 32 / 2 ^ t := by
    rcases Nat.eq_zero_or_pos (32 / 2 ^ t) with h0 | h0
    · rw [h0] at o3; omega
    · exact h0
  obtain ⟨l', e, hle⟩ := cnt_fold (32 / 2 ^ t) t h hc A _ 0 hA o4 o5 (by
    unfold cmCount
    have := getD_u64 _ o5 (cmPl (32 / 2 ^ t) 0 h)
    have := getD_u64 _ o5 (cmPl (32 / 2 ^ t) 1 h)
    unfold U64 at *
    omega)
  rw [e]
  exact hle

/-! ### histograms -/
def rkS (last s : Int) (l : List (Int × Int)) : Int := l.foldl (fun s b => if b.1 ≤ last then satI s b.2 else s) s
theorem rkS_sat (last : Int) : ∀ (l : List (Int × Int)) (s n : Int), BinsU l → U64 s → U64 n → rkS last (satI s n) l = satI (rkS last s l) n
  | [], _, _, _, _, _ => rfl
  | b :: l, s, n, hb, hs, hn => by
    have hb1 := hb b List.mem_cons_self
    have hb2 : BinsU l := fun x hx => hb x (List.mem_cons_of_mem _ hx)
    show rkS last (if b.1 ≤ last then satI (satI s n) b.2 else satI s n) l = satI (rkS last (if b.1 ≤ last then satI s b.2 else s) l) n
    split
    · rw [satI_r s b.2 n hs hb1 hn]
      exact rkS_sat last l _ n hb2 (satI_u64 _ _ hs hb1) hn
    · exact rkS_sat last l s n hb2 hs hn
theorem rkS_put (last : Int) : ∀ (l : List (Int × Int)) (s p n : Int), BinsU l → U64 s → U64 n → rkS last s (binPut l p n) = if p ≤ last then satI (rkS last s l) n else rkS last s l
  | [], _, _, _, _, _, _ => rfl
  | (q, m) :: t, s, p, n, hb, hs, hn => by
    have hm : U64 m := hb (q, m) List.mem_cons_self
    have hb2 : BinsU t := fun x hx => hb x (List.mem_cons_of_mem _ hx)
    rw [binPut_cons]
    by_cases h1 : q < p
    · rw [if_pos h1]
      show rkS last (if q ≤ last then satI s m else s) (binPut t p n) = if p ≤ last then satI (rkS last (if q ≤ last then satI s m else s) t) n else rkS last (if q ≤ last then satI s m else s) t
      exact rkS_put last t _ p n hb2 (by split; exact satI_u64 _ _ hs hm; exact hs) hn
    · rw [if_neg h1]
      by_cases h2 : q = p
      · subst h2
        rw [if_pos rfl]
        show rkS last (if q ≤ last then satI s (satI m n) else s) t = if q ≤ last then satI (rkS last (if q ≤ last then satI s m else s) t) n else rkS last (if q ≤ last then satI s m else s) t
        split
        · rw [satI_a s m n hs hm hn]
          exact rkS_sat last t _ n hb2 (satI_u64 _ _ hs hm) hn
        · rfl
      · rw [if_neg h2]
        show rkS last (if q ≤ last then satI (if p ≤ last then satI s n else s) m else (if p ≤ last then satI s n else s)) t = if p ≤ last then satI (rkS last (if q ≤ last then satI s m else s) t) n else rkS last (if q ≤ last then satI s m else s) t
        by_cases hp : p ≤ last
        · rw [if_pos hp, if_pos hp]
          split
          · rw [satI_r s m n hs hm hn]
            exact rkS_sat last t _ n hb2 (satI_u64 _ _ hs hm) hn
          · exact rkS_sat last t _ n hb2 hs hn
        · rw [if_neg hp, if_neg hp]
theorem rkS_past (last s : Int) : ∀ (l : List (Int × Int)), (∀ b ∈ l, last < b.1) → rkS last s l = s
  | [], _ => rfl
  | b :: l, h => by
    show rkS last (if b.1 ≤ last then satI s b.2 else s) l = s
    have := h b List.mem_cons_self
    rw [if_neg (by omega)]
    exact rkS_past last s l (fun x hx => h x (List.mem_cons_of_mem _ hx))
theorem rk_eq (last : Int) : ∀ (l : List (Int × Int)) (s : Int), BinUp l → rkGo last s (hsSums s l) = rkS last s l
  | [], _, _ => rfl
  | b :: l, s, h => by
    obtain ⟨h1, h2⟩ := binUp_tail h
    show (if last < b.1 then s else rkGo last (satI s b.2) (hsSums (satI s b.2) l)) = rkS last (if b.1 ≤ last then satI s b.2 else s) l
    by_cases hb : last < b.1
    · rw [if_pos hb, if_neg (by omega)]
      exact (rkS_past last s l (fun x hx => by have := h2 x hx; omega)).symm
    · rw [if_neg hb, if_pos (by omega)]
      exact rk_eq last l _ h1
/-- A greater number's bucket is no lesser one. -/
theorem hiBk_mono (f : Nat) (hf : f ≤ 3) (v h : Nat) (hvh : v ≤ h) (hh : h < 2 ^ 64) : hiBk f v ≤ hiBk f h := by
  by_cases hv0 : v = 0
  · subst hv0
    have := (hiBk_fin f h hf hh).1
    rw [show hiBk f 0 = 0 from rfl]
    exact this
  have hv : v < 2 ^ 64 := by omega
  have hh0 : h ≠ 0 := by omega
  obtain ⟨v1, v2, v3⟩ := bitLen_bd v hv hv0
  obtain ⟨h1, h2, h3⟩ := bitLen_bd h hh hh0
  rcases Nat.lt_trichotomy (Lib.bitLen v) (Lib.bitLen h) with hlt | heq | hgt
  · obtain ⟨p, hp, ep⟩ := bk_at f hf v hv0
    obtain ⟨q, hq, eq⟩ := bk_at f hf h hh0
    rw [ep, eq]
    have : (Lib.bitLen v - 1 + 1) * 2 ^ f ≤ (Lib.bitLen h - 1) * 2 ^ f := Nat.mul_le_mul_right _ (by omega)
    rw [Nat.add_mul] at this
    omega
  · have h64 := bitLen_64 v hv hv0
    unfold hiBk
    rw [if_neg hv0, if_neg hh0, Int.toNat_natCast, ← heq]
    have key : ∀ x, 2 ^ (Lib.bitLen v - 1) ≤ x → x < 2 ^ Lib.bitLen v → x * 2 ^ (64 - (Lib.bitLen v - 1)) % 2 ^ 64 = (x - 2 ^ (Lib.bitLen v - 1)) * 2 ^ (64 - (Lib.bitLen v - 1)) := by
      intro x hx1 hx2
      obtain ⟨r, rfl⟩ : ∃ r, x = 2 ^ (Lib.bitLen v - 1) + r := ⟨x - 2 ^ (Lib.bitLen v - 1), by omega⟩
      have e1 : 2 ^ (Lib.bitLen v - 1) * 2 ^ (64 - (Lib.bitLen v - 1)) = 2 ^ 64 := by rw [← Nat.pow_add]; congr 1; omega
      have e2 : 2 ^ Lib.bitLen v = 2 ^ (Lib.bitLen v - 1) * 2 := by rw [← Nat.pow_succ]; congr 1; omega
      have hr : r < 2 ^ (Lib.bitLen v - 1) := by omega
      have hlt : r * 2 ^ (64 - (Lib.bitLen v - 1)) < 2 ^ 64 := by
        rw [← e1]
        exact Nat.mul_lt_mul_of_pos_right hr (Nat.two_pow_pos _)
      rw [Nat.add_mul, e1, Nat.add_mod_left, Nat.mod_eq_of_lt hlt, Nat.add_sub_cancel_left]
    rw [key v v2 v3, key h (by rw [heq]; exact h2) (by rw [heq]; exact h3)]
    have hm : (v - 2 ^ (Lib.bitLen v - 1)) * 2 ^ (64 - (Lib.bitLen v - 1)) / 2 ^ (64 - f) ≤ (h - 2 ^ (Lib.bitLen v - 1)) * 2 ^ (64 - (Lib.bitLen v - 1)) / 2 ^ (64 - f) :=
      Nat.div_le_div_right (Nat.mul_le_mul_right _ (by omega))
    omega
  · exfalso
    have : 2 ^ Lib.bitLen h ≤ 2 ^ (Lib.bitLen v - 1) := Nat.pow_le_pow_right (by omega) (by omega)
    omega
theorem bkt_fold (f t h : Nat) (hf : f ≤ 3) (hh : h < 2 ^ 64) : ∀ (A : List (Nat × Int)) (l : List (Int × Int)) (s : Int), AllOk A → BinUp l → BinsU l → (∀ b ∈ l, b.2 ≠ 0) → s ≤ rkS (hiBk f h) 0 l →
    ∃ l', A.foldl wkAdd (t, Bd.bkt f l) = (t, Bd.bkt f l') ∧ BinUp l' ∧ asSum 3 h s A ≤ rkS (hiBk f h) 0 l'
  | [], l, _, _, hu, _, _, hs => ⟨l, rfl, hu, hs⟩
  | i :: A, l, s, hA, hu, hb, hp, hs => by
    have hi := hA i List.mem_cons_self
    have hput := binPut_up l (hiBk f i.1) i.2 hu
    have hputu := binPut_u64 l (hiBk f i.1) i.2 hb hi.2
    refine bkt_fold f t h hf hh A (hiAdd f l i.1 i.2) _ (fun j hj => hA j (List.mem_cons_of_mem _ hj)) (hiDone_up hput) (hiDone_u64 hputu) hiDone_pos ?_
    show (if asIs 3 h i then satI s i.2 else s) ≤ rkS (hiBk f h) 0 (hiAdd f l i.1 i.2)
    have hsum : ∀ (m : List (Int × Int)) (z : Int), BinsU m → U64 z → U64 (rkS (hiBk f h) z m) := by
      intro m
      induction m with
      | nil => exact fun z _ hz => hz
      | cons b m ih =>
        intro z hm hz
        show U64 (rkS (hiBk f h) (if b.1 ≤ hiBk f h then satI z b.2 else z) m)
        refine ih _ (fun x hx => hm x (List.mem_cons_of_mem _ hx)) ?_
        split
        · exact satI_u64 _ _ hz (hm b List.mem_cons_self)
        · exact hz
    have hl64 := hsum l 0 hb u64_0
    rw [hiAdd_eq f l i.1 i.2 hp hb hi.2]
    by_cases h0 : i.2 = 0
    · rw [if_pos h0, h0]
      split
      · have e : satI s 0 ≤ satI (rkS (hiBk f h) 0 l) 0 := satI_mono _ _ _ hs u64_0 hl64
        rw [satI_comm (rkS (hiBk f h) 0 l) 0, satI_0 _ hl64] at e
        exact e
      · exact hs
    · rw [if_neg h0, rkS_put _ l 0 _ i.2 hb u64_0 hi.2]
      by_cases he : asIs 3 h i = true
      · have hle : i.1 ≤ h := by simpa [asIs] using he
        rw [if_pos he, if_pos (hiBk_mono f hf i.1 h hle hh)]
        exact satI_mono _ _ _ hs hi.2 hl64
      · rw [if_neg he]
        split
        · exact Int.le_trans hs (satI_le _ _ hl64 hi.2)
        · exact hs
theorem asks_bkt (t h : Nat) (ht : t ≤ 3) (hh : h < 2 ^ 64) (A : List (Nat × Int)) (hA : AllOk A) : asSum 3 h 0 A ≤ (wkSum 3 t A).2.ask h := by
  unfold wkSum
  rw [to_base 3 t (.inr (.inr rfl)) ht]
  show _ ≤ (A.foldl wkAdd (t, Bd.bkt (3 - t) [])).2.ask h
  obtain ⟨l', e, hu, hle⟩ := bkt_fold (3 - t) t h (by omega) hh A [] 0 hA List.Pairwise.nil (fun b hb => by cases hb) (fun b hb => by cases hb) (Int.le_refl _)
  rw [e]
  show _ ≤ rkGo (hiBk (3 - t : Nat) h) 0 (hsSums 0 l')
  rw [rk_eq _ l' 0 hu]
  exact hle
end Go.Proofs.YtmkefodaibmkhaaGreatDoor
namespace Go.Proofs.YtmkefodaibmkhaaGreatDoor
open Go Go.RowKit

/-- How many numbers are there, each counted where it comes first. -/
def difOf : List Int → Nat
  | [] => 0
  | x :: r => difOf r + if x ∈ r then 0 else 1
def dif (A : List (Nat × Int)) : Nat := difOf (hashes A).reverse
theorem dif_snoc (A : List (Nat × Int)) (i : Nat × Int) : dif (A ++ [i]) = dif A + if (i.1 : Int) ∈ hashes A then 0 else 1 := by
  unfold dif
  rw [hashes_app]
  show difOf ((hashes A ++ [(i.1 : Int)]).reverse) = _
  rw [List.reverse_append]
  show difOf (hashes A).reverse + (if (i.1 : Int) ∈ (hashes A).reverse then 0 else 1) = _
  simp only [List.mem_reverse]
theorem dif_le (A : List (Nat × Int)) : dif A ≤ A.length := by
  have key : ∀ l : List Int, difOf l ≤ l.length := by
    intro l
    induction l with
    | nil => exact Nat.le_refl _
    | cons x l ih => simp only [difOf, List.length_cons]; split <;> omega
  have h := key (hashes A).reverse
  rw [List.length_reverse] at h
  simpa [dif, hashes] using h
theorem dif_pos (A : List (Nat × Int)) : 0 < dif A ↔ A ≠ [] := by
  constructor
  · rintro h rfl
    exact absurd h (by decide)
  · intro h
    have key : ∀ l : List Int, l ≠ [] → 0 < difOf l := by
      intro l
      induction l with
      | nil => intro h; exact absurd rfl h
      | cons x l ih =>
        intro _
        simp only [difOf]
        by_cases hl : l = []
        · subst hl; simp [difOf]
        · have := ih hl; omega
    exact key _ (by simpa [hashes] using h)
theorem insR_length : ∀ (l : List Int) (n : Int), Up l → (insR l n).length = l.length + if n ∈ l then 0 else 1
  | [], n, _ => by simp [insR]
  | x :: xs, n, h => by
    obtain ⟨h1, h2⟩ := up_tail h
    have ih := insR_length xs n h1
    unfold insR
    split
    · rename_i hx
      have hne : ¬ n = x := by omega
      rw [List.length_cons, ih, List.length_cons]
      simp only [List.mem_cons, hne, false_or]
      omega
    · split
      · rename_i h3 h4
        subst h4
        simp
      · rename_i h3 h4
        have hn : n ∉ x :: xs := by
          intro hm
          rcases List.mem_cons.1 hm with e | e
          · omega
          · have := h2 n e; omega
        rw [if_neg hn]
        simp
theorem gather_len : ∀ (r l : List Int), exGather [] r.reverse = some l → l.length = difOf r
  | [], l, h => by
    obtain rfl : [] = l := by simpa [exGather] using h
    rfl
  | x :: r, l, h => by
    rw [List.reverse_cons, exGather_snoc] at h
    cases e : exGather [] r.reverse with
    | none => rw [e] at h; cases h
    | some m =>
      rw [e] at h
      have h' : (if 64 < (exIns m x).length then none else some (exIns m x)) = some l := h
      split at h'
      · cases h'
      · obtain rfl : exIns m x = l := by simpa using h'
        have hm := gather_some r.reverse [] m nil_up (by simp) e
        have ih := gather_len r m e
        rw [exIns_eq m x hm.1, insR_length m x hm.1, ih]
        have hmem : x ∈ m ↔ x ∈ r := by rw [hm.2.2]; simp
        simp only [difOf, hmem]
theorem gather_dif (A : List (Nat × Int)) (l : List Int) (h : exGather [] (hashes A) = some l) : l.length = dif A := by
  have h1 := gather_len (hashes A).reverse l (by rw [List.reverse_reverse]; exact h)
  exact h1

/-! ### registers -/
theorem hcSum_of (l : List (Nat × UInt8)) : hcSum l ≤ l.length * 4294967296 := (hcSum_le l).2
theorem count_pos (b : Nat) (r : List Nat) (h1 : 3 ≤ b) (hl : r.length = 2 ^ b) (hs : hcSome (octs (hlStr r)) = true) : 0 < hlCount b (hlStr r) := by
  unfold hlCount
  rw [hs, if_pos rfl]
  have hsz : (octs (hlStr r)).length = 2 ^ b := by rw [octs_len, hlStr_size, hl]
  obtain ⟨k1, k2⟩ := hcSum_le (octs (hlStr r))
  rw [hsz] at k1 k2
  have h8 : 8 ≤ 2 ^ b := show 2 ^ 3 ≤ 2 ^ b from Nat.pow_le_pow_right (by omega) h1
  generalize hcSum (octs (hlStr r)) = S at k1 k2 ⊢
  generalize 2 ^ b = m at k1 k2 h8 ⊢
  refine Nat.div_pos ?_ (by omega)
  have e : 7 * 8 * m ≤ 7 * m * m := by rw [Nat.mul_assoc, Nat.mul_assoc]; exact Nat.mul_le_mul_left 7 (Nat.mul_le_mul_right m h8)
  omega
theorem count_some (b : Nat) (r : List Nat) (h : 0 < hlCount b (hlStr r)) : hcSome (octs (hlStr r)) = true := by
  unfold hlCount at h
  split at h
  · assumption
  · omega
/-- A register that is not 0. -/
theorem some_iff (r : List Nat) (hr : ∀ x ∈ r, x < 256) : hcSome (octs (hlStr r)) = true ↔ ∃ x ∈ r, x ≠ 0 := by
  have hn := hlStr_nums r hr
  have hs : (octs (hlStr r)).map (fun p => p.2.toNat) = r := by
    have h : (hlStr r).data.toList = (octs (hlStr r)).map (·.2) := by
      apply List.ext_getElem?
      intro i
      by_cases hi : i < (hlStr r).size
      · simp [octs, hi]
      · simp [octs, hi]
    rw [h, List.map_map] at hn
    exact hn
  unfold hcSome
  rw [List.any_eq_true]
  constructor
  · rintro ⟨p, hp, h0⟩
    refine ⟨p.2.toNat, ?_, by simpa using h0⟩
    rw [← hs]
    exact List.mem_map.2 ⟨p, hp, rfl⟩
  · rintro ⟨x, hx, h0⟩
    rw [← hs] at hx
    obtain ⟨p, hp, rfl⟩ := List.mem_map.1 hx
    exact ⟨p, hp, by simpa using h0⟩
theorem add_some (b : Nat) (r : List Nat) (n : Nat) (hb : b ≤ 8) (hn : n < 2 ^ 64) (hl : r.length = 2 ^ b) : ∃ x ∈ hlAdd b r n, x ≠ 0 := by
  have hp := hlAt_lt b n hb hn
  have hk := hlRank_pos b n hb
  have h1 : (hlAdd b r n).getD (hlAt b n) 0 = max (r.getD (hlAt b n) 0) (hlRank b n) := by
    unfold hlAdd
    rw [tell_at, if_pos ⟨rfl, by omega⟩]
  have hlen : hlAt b n < (hlAdd b r n).length := by rw [hlAdd_len]; omega
  rw [List.getD_eq_getElem?_getD, List.getElem?_eq_getElem hlen] at h1
  refine ⟨_, List.getElem_mem hlen, ?_⟩
  have h2 : (hlAdd b r n)[hlAt b n] = max (r.getD (hlAt b n) 0) (hlRank b n) := h1
  omega
theorem none_some (b : Nat) : ¬ ∃ x ∈ hlNone b, x ≠ 0 := by
  rintro ⟨x, hx, h0⟩
  exact h0 (List.eq_of_mem_replicate hx)
theorem regs_small {b L : Nat} {r : List Nat} (h : (Bd.reg b r).Ok 1 L) : ∀ x ∈ r, x < 256 := by
  obtain ⟨-, -, -, -, -, h6⟩ := h
  intro x hx
  obtain ⟨i, hi, rfl⟩ := List.getElem_of_mem hx
  have := h6 i
  rw [List.getD_eq_getElem?_getD, List.getElem?_eq_getElem hi] at this
  have : r[i] ≤ 65 - b := this
  omega
/-- What was added lately is in the registers. -/
theorem wkAdd_some {s : Nat × Bd} {i : Nat × Int} (hs : s.2.Ok 1 s.1) (hi : Item.ok i) {b : Nat} {r : List Nat} (he : (wkAdd s i).2 = .reg b r) : ∃ x ∈ r, x ≠ 0 := by
  obtain ⟨L, B⟩ := s
  cases B with
  | num l =>
    unfold wkAdd at he
    simp only [Bd.add] at he
    cases e : exGather l [(i.1 : Int)] with
    | some m => rw [e] at he; cases he
    | none =>
      rw [e] at he
      simp only [Option.map_none, Bd.low, Option.getD_some] at he
      cases he
      exact add_some 7 _ i.1 (by decide) hi.1 (by rw [hlSum_len]; simp [hlNone])
  | reg b' r' =>
    obtain ⟨-, h2, h3, h4, h5, -⟩ := hs
    unfold wkAdd at he
    simp only [Bd.add] at he
    cases he
    exact add_some _ _ i.1 (by omega) hi.1 h5
  | cnt c l => exact absurd hs.1 (by decide)
  | bkt f l => exact absurd hs.1 (by decide)
theorem asks_num (t h : Nat) (ht : t ≤ 4) (A : List (Nat × Int)) (hA : AllOk A) : ((wkSum 1 t A).1 = 0 → (wkSum 1 t A).2.ask h = dif A) ∧ (0 < (wkSum 1 t A).2.ask h ↔ 0 < dif A) := by
  have hk : (1 : Nat) = 1 ∨ (1 : Nat) = 2 ∨ (1 : Nat) = 3 := .inl rfl
  have hok := sum_ok 1 t hk ht A hA
  have hge := sum_ge 1 t hk ht A
  cases hB : (wkSum 1 t A).2 with
  | num l =>
    rw [hB] at hok
    have h0 : (wkSum 1 t A).1 = 0 := hok.2.1
    obtain rfl : t = 0 := by omega
    have hs := sum_0 A
    have hl : l.length = dif A := by
      cases e : exGather [] (hashes A) with
      | some m =>
        rw [e] at hs
        have hs' : wkSum 1 0 A = (0, Bd.num m) := hs
        rw [hs'] at hB
        cases hB
        exact gather_dif A l e
      | none =>
        rw [e] at hs
        have hs' : wkSum 1 0 A = wkSum 1 1 A ∨ ¬ AllOk A := hs
        rcases hs' with h1 | h1
        · have := sum_1 hA
          rw [h1] at h0
          omega
        · exact absurd hA h1
    show (_ → (l.length : Int) = dif A) ∧ ((0 : Int) < l.length ↔ 0 < dif A)
    rw [hl]
    exact ⟨fun _ => rfl, by omega⟩
  | reg b r =>
    rw [hB] at hok
    have hok' := hok
    obtain ⟨-, o2, o3, o4, o5, -⟩ := hok
    refine ⟨fun h0 => absurd h0 (by omega), ?_⟩
    show (0 : Int) < ((hlCount b (hlStr r) : Nat) : Int) ↔ _
    rw [dif_pos]
    have hsm := some_iff r (regs_small hok')
    constructor
    · intro hp hA0
      subst hA0
      have h2 := hsm.1 (count_some b r (by omega))
      unfold wkSum at hB o2
      rw [to_base 1 t hk ht] at hB o2
      have ht1 : 1 ≤ t := o2
      have hB' : bdBase 1 t = .reg b r := hB
      unfold bdBase at hB'
      rw [if_pos rfl, if_neg (by omega)] at hB'
      cases hB'
      exact none_some _ h2
    · intro hne
      have h2 : ∃ x ∈ r, x ≠ 0 := by
        rcases List.eq_nil_or_concat A with h | ⟨A', i, rfl⟩
        · exact absurd h hne
        · have hA' : AllOk A' := fun j hj => hA j (by simp [hj])
          have e : wkSum 1 t (A' ++ [i]) = wkAdd (wkSum 1 t A') i := by unfold wkSum; rw [List.foldl_append]; rfl
          rw [List.concat_eq_append, e] at hB
          exact wkAdd_some (sum_ok 1 t hk ht A' hA') (hA i (by simp)) hB
      have := count_pos b r (by omega) o5 (hsm.2 h2)
      omega
  | cnt c l => rw [hB] at hok; exact absurd hok.1 (by decide)
  | bkt f l => rw [hB] at hok; exact absurd hok.1 (by decide)
end Go.Proofs.YtmkefodaibmkhaaGreatDoor
