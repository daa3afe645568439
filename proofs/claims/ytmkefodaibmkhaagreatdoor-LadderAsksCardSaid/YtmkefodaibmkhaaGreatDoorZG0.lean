/- Exact sets as plain data: insertion into rising numbers. No program in sight. Registers as plain data: what a number tells, and the registers of one digit less. No program in sight. Counters as plain data: a number added, half as many columns. No program in sight. Histograms as plain data: bins put into rising bins, buckets half as fine. No program in sight. -/
import Derived.Test.YtmkefodaibmkhaaGreatDoorZM2
import Derived.Lib.BitFns
import Derived.Lib.ItoaNum
namespace Go.Proofs.YtmkefodaibmkhaaGreatDoor
open Go Go.RowKit

abbrev Up (l : List Int) : Prop := l.Pairwise (· < ·)
def exPlace (l : List Int) (n : Int) : Nat := l.countP (fun x => decide (x < n))
def exIns (l : List Int) (n : Int) : List Int := if l[exPlace l n]? = some n then l else l.take (exPlace l n) ++ n :: l.drop (exPlace l n)
def insR : List Int → Int → List Int
  | [], n => [n]
  | x :: xs, n => if x < n then x :: insR xs n else if x = n then x :: xs else n :: x :: xs
theorem exPlace_le (l : List Int) (n : Int) : exPlace l n ≤ l.length := List.countP_le_length
theorem up_tail {x : Int} {xs : List Int} (h : Up (x :: xs)) : Up xs ∧ ∀ y ∈ xs, x < y := ⟨(List.pairwise_cons.1 h).2, (List.pairwise_cons.1 h).1⟩
theorem exIns_eq : ∀ (l : List Int) (n : Int), Up l → exIns l n = insR l n
  | [], n, _ => by simp [exIns, insR, exPlace]
  | x :: xs, n, h => by
    obtain ⟨h1, h2⟩ := up_tail h
    have ih := exIns_eq xs n h1
    unfold exIns insR
    by_cases hx : x < n
    · have hp : exPlace (x :: xs) n = exPlace xs n + 1 := by simp [exPlace, hx]
      rw [hp, if_pos hx, ← ih]
      unfold exIns
      simp only [List.getElem?_cons_succ, List.take_succ_cons, List.drop_succ_cons]
      split
      · rfl
      · rfl
    · have hp : exPlace (x :: xs) n = 0 := by
        unfold exPlace
        rw [List.countP_eq_zero]
        intro y hy
        rcases List.mem_cons.1 hy with rfl | hy
        · simpa using hx
        · have := h2 y hy
          simp; omega
      rw [hp, if_neg hx]
      simp only [List.getElem?_cons_zero, Option.some.injEq, List.take_zero, List.drop_zero, List.nil_append]
theorem insR_mem : ∀ (l : List Int) (n y : Int), y ∈ insR l n ↔ y = n ∨ y ∈ l
  | [], n, y => by simp [insR]
  | x :: xs, n, y => by
    unfold insR
    split
    · rw [List.mem_cons, insR_mem xs n y, List.mem_cons]
      constructor
      · rintro (h | h | h) <;> simp [h]
      · rintro (h | h | h) <;> simp [h]
    · split
      · rename_i h1 h2
        subst h2
        simp
      · simp
theorem insR_up : ∀ (l : List Int) (n : Int), Up l → Up (insR l n)
  | [], n, _ => by simp [insR]
  | x :: xs, n, h => by
    obtain ⟨h1, h2⟩ := up_tail h
    unfold insR
    split
    · rename_i hx
      refine List.pairwise_cons.2 ⟨fun y hy => ?_, insR_up xs n h1⟩
      rcases (insR_mem xs n y).1 hy with rfl | hy
      · exact hx
      · exact h2 y hy
    · split
      · exact h
      · rename_i h3 h4
        refine List.pairwise_cons.2 ⟨fun y hy => ?_, h⟩
        rcases List.mem_cons.1 hy with rfl | hy
        · omega
        · have := h2 y hy; omega
theorem insR_len : ∀ (l : List Int) (n : Int), (insR l n).length ≤ l.length + 1 ∧ l.length ≤ (insR l n).length
  | [], n => by simp [insR]
  | x :: xs, n => by
    have ih := insR_len xs n
    unfold insR
    split
    · simp only [List.length_cons]; omega
    · split
      · simp
      · simp
/-- Rising lists of the same members are the same. -/
theorem up_ext : ∀ (l m : List Int), Up l → Up m → (∀ y, y ∈ l ↔ y ∈ m) → l = m
  | [], [], _, _, _ => rfl
  | [], b :: m, _, _, h => by have := (h b).2 List.mem_cons_self; cases this
  | a :: l, [], _, _, h => by have := (h a).1 List.mem_cons_self; cases this
  | a :: l, b :: m, hl, hm, h => by
    obtain ⟨l1, l2⟩ := up_tail hl
    obtain ⟨m1, m2⟩ := up_tail hm
    have hab : a = b := by
      rcases List.mem_cons.1 ((h a).1 List.mem_cons_self) with e | e
      · exact e
      · rcases List.mem_cons.1 ((h b).2 List.mem_cons_self) with e2 | e2
        · exact e2.symm
        · have := m2 a e; have := l2 b e2; omega
    subst hab
    congr 1
    refine up_ext l m l1 m1 (fun y => ⟨fun hy => ?_, fun hy => ?_⟩)
    · rcases List.mem_cons.1 ((h y).1 (List.mem_cons_of_mem _ hy)) with e | e
      · subst e; have := l2 y hy; omega
      · exact e
    · rcases List.mem_cons.1 ((h y).2 (List.mem_cons_of_mem _ hy)) with e | e
      · subst e; have := m2 y hy; omega
      · exact e
/-- Numbers gathered one by one; none, once there are too many. -/
def exGather : List Int → List Int → Option (List Int)
  | l, [] => some l
  | l, n :: r => if 64 < (exIns l n).length then none else exGather (exIns l n) r
theorem exGather_snoc : ∀ (r : List Int) (l : List Int) (n : Int), exGather l (r ++ [n]) = (exGather l r).bind fun m => if 64 < (exIns m n).length then none else some (exIns m n)
  | [], l, n => by simp [exGather]
  | x :: r, l, n => by
    simp only [List.cons_append, exGather]
    split
    · rfl
    · exact exGather_snoc r _ n
theorem exRight_up (l : List Int) (h : exRight l = true) : Up l ∧ l.length ≤ 64 := by
  simp only [exRight, Bool.and_eq_true, decide_eq_true_eq] at h
  obtain ⟨h1, h2⟩ := h
  refine ⟨?_, h1⟩
  have : ∀ (l : List Int) (st : Option Int), (foldO exStep st l).isSome = true → Up l ∧ ∀ m, st = some m → ∀ y ∈ l, m < y := by
    intro l
    induction l with
    | nil => intro st _; exact ⟨List.Pairwise.nil, fun _ _ _ h => by cases h⟩
    | cons x xs ih =>
      intro st hs
      rw [foldO_cons] at hs
      cases hx : exStep st x with
      | none => rw [hx] at hs; cases hs
      | some s2 =>
        rw [hx] at hs
        obtain ⟨i1, i2⟩ := ih s2 hs
        have hs2 : s2 = some x ∧ ∀ m, st = some m → m < x := by
          unfold exStep at hx
          cases st with
          | none => simp at hx; exact ⟨hx.symm, fun m h => by cases h⟩
          | some m =>
            by_cases hc : x ≤ m
            · simp [hc] at hx
            · simp [hc] at hx
              refine ⟨hx.symm, fun m' h => ?_⟩
              cases h
              omega
        have i3 := i2 x hs2.1
        refine ⟨List.pairwise_cons.2 ⟨i3, i1⟩, fun m hm y hy => ?_⟩
        rcases List.mem_cons.1 hy with rfl | hy
        · exact hs2.2 m hm
        · have := i3 y hy; have := hs2.2 m hm; omega
  exact (this l none h2).1
theorem up_right : ∀ (l : List Int), Up l → l.length ≤ 64 → exRight l = true := by
  intro l h h2
  simp only [exRight, Bool.and_eq_true, decide_eq_true_eq]
  refine ⟨h2, ?_⟩
  have : ∀ (l : List Int) (st : Option Int), Up l → (∀ m, st = some m → ∀ y ∈ l, m < y) → (foldO exStep st l).isSome = true := by
    intro l
    induction l with
    | nil => intro st _ _; rfl
    | cons x xs ih =>
      intro st hu hs
      obtain ⟨u1, u2⟩ := up_tail hu
      have hx : exStep st x = some (some x) := by
        unfold exStep
        cases st with
        | none => simp
        | some m =>
          have := hs m rfl x List.mem_cons_self
          simp; omega
      rw [foldO_cons, hx]
      exact ih (some x) u1 (fun m hm y hy => by cases hm; exact u2 y hy)
  exact this l none h (fun m hm => by cases hm)
end Go.Proofs.YtmkefodaibmkhaaGreatDoor
namespace Go.Proofs.YtmkefodaibmkhaaGreatDoor
open Go Go.RowKit

def hlAt (b n : Nat) : Nat := n / 2 ^ (64 - b)
def hlRank (b n : Nat) : Nat := if n * 2 ^ b % 2 ^ 64 = 0 then 65 - b else 65 - Lib.bitLen (n * 2 ^ b % 2 ^ 64)
def hlTell (r : List Nat) (p k : Nat) : List Nat := r.set p (max (r.getD p 0) k)
def hlAdd (b : Nat) (r : List Nat) (n : Nat) : List Nat := hlTell r (hlAt b n) (hlRank b n)
def hlSum (b : Nat) (r : List Nat) (l : List Nat) : List Nat := l.foldl (hlAdd b) r
def upR (x : Nat) : Nat := if x = 0 then 0 else x + 1
def oneR (x : Nat) : Nat := if x = 0 then 0 else 1
def hlLow (b : Nat) (r : List Nat) : List Nat := (List.range (2 ^ (b - 1))).map fun i => max (upR (r.getD (2 * i) 0)) (oneR (r.getD (2 * i + 1) 0))
def hlNone (b : Nat) : List Nat := List.replicate (2 ^ b) 0

theorem bitLen_bd (x : Nat) (h : x < 2 ^ 64) (h0 : x ≠ 0) : 1 ≤ Lib.bitLen x ∧ 2 ^ (Lib.bitLen x - 1) ≤ x ∧ x < 2 ^ Lib.bitLen x := Lib.bitLenAux_bounds 64 x h h0
theorem bitLen_64 (x : Nat) (h : x < 2 ^ 64) (h0 : x ≠ 0) : Lib.bitLen x ≤ 64 := by
  obtain ⟨h1, h2, h3⟩ := bitLen_bd x h h0
  apply Classical.byContradiction
  intro hc
  have : 2 ^ 64 ≤ 2 ^ (Lib.bitLen x - 1) := Nat.pow_le_pow_right (by omega) (by omega)
  omega
theorem bitLen_top (x : Nat) (h : x < 2 ^ 64) (h0 : 2 ^ 63 ≤ x) : Lib.bitLen x = 64 := by
  have hx : x ≠ 0 := by omega
  obtain ⟨h1, h2, h3⟩ := bitLen_bd x h hx
  have h4 := bitLen_64 x h hx
  apply Classical.byContradiction
  intro hc
  have : 2 ^ Lib.bitLen x ≤ 2 ^ 63 := Nat.pow_le_pow_right (by omega) (by omega)
  omega
theorem hlRank_pos (b n : Nat) (hb : b ≤ 8) : 1 ≤ hlRank b n := by
  unfold hlRank
  split
  · omega
  · rename_i h
    have := bitLen_64 _ (Nat.mod_lt (n * 2 ^ b) (by decide : 0 < 2 ^ 64)) h
    omega
theorem hlRank_le (b n : Nat) (hb : b ≤ 8) : hlRank b n ≤ 65 - b := by
  unfold hlRank
  split
  · omega
  · rename_i h
    obtain ⟨h1, h2, h3⟩ := bitLen_bd _ (Nat.mod_lt (n * 2 ^ b) (by decide : 0 < 2 ^ 64)) h
    have h4 : 2 ^ b ∣ n * 2 ^ b % 2 ^ 64 := by
      have h5 : 2 ^ b ∣ 2 ^ 64 := Nat.pow_dvd_pow 2 (by omega)
      exact (Nat.dvd_mod_iff h5).2 (Nat.dvd_mul_left _ _)
    have h6 : 2 ^ b ≤ n * 2 ^ b % 2 ^ 64 := Nat.le_of_dvd (by omega) h4
    have h7 : b < Lib.bitLen (n * 2 ^ b % 2 ^ 64) := (Nat.pow_lt_pow_iff_right (by omega : 1 < 2)).1 (by omega)
    omega
theorem hlAt_lt (b n : Nat) (hb : b ≤ 8) (hn : n < 2 ^ 64) : hlAt b n < 2 ^ b := by
  unfold hlAt
  rw [Nat.div_lt_iff_lt_mul (Nat.two_pow_pos _), ← Nat.pow_add, show b + (64 - b) = 64 by omega]
  exact hn
theorem rank_rel (o o' : Nat) (q b : Nat) (hb : b ≤ 8) (hb1 : 1 ≤ b) (ho : o < 2 ^ 64) (he : o % 2 = 0) (hr : o' = q % 2 * 2 ^ 63 + o / 2) :
    (if o' = 0 then 65 - (b - 1) else 65 - Lib.bitLen o') = if q % 2 = 1 then 1 else (if o = 0 then 65 - b else 65 - Lib.bitLen o) + 1 := by
  rcases Nat.mod_two_eq_zero_or_one q with h | h
  · rw [h] at hr ⊢
    simp only [Nat.zero_mul, Nat.zero_add] at hr
    rw [if_neg (by omega : ¬ (0 = 1))]
    by_cases h0 : o = 0
    · rw [if_pos (by omega), if_pos h0]; omega
    · rw [if_neg (by omega), if_neg h0]
      have h1 := Lib.bitLen_half o h0 ho
      have h2 := bitLen_64 o ho h0
      rw [hr]
      omega
  · rw [h] at hr ⊢
    rw [if_pos rfl, if_neg (by omega), bitLen_top o' (by omega) (by omega)]
theorem hl_rel (b n : Nat) (hb1 : 4 ≤ b) (hb2 : b ≤ 8) : hlAt (b - 1) n = hlAt b n / 2 ∧ hlRank (b - 1) n = if hlAt b n % 2 = 1 then 1 else hlRank b n + 1 := by
  have hcs : b = 4 ∨ b = 5 ∨ b = 6 ∨ b = 7 ∨ b = 8 := by omega
  refine ⟨?_, ?_⟩
  · unfold hlAt
    rcases hcs with rfl | rfl | rfl | rfl | rfl <;> simp only [Nat.reducePow, Nat.reduceSub] <;> omega
  · have h1 : n * 2 ^ b % 2 ^ 64 < 2 ^ 64 := Nat.mod_lt _ (by decide)
    refine rank_rel _ _ _ b hb2 (by omega) h1 ?_ ?_
    · rcases hcs with rfl | rfl | rfl | rfl | rfl <;> simp only [Nat.reducePow] <;> omega
    · unfold hlAt
      rcases hcs with rfl | rfl | rfl | rfl | rfl <;> simp only [Nat.reducePow, Nat.reduceSub] <;> omega
theorem hlTell_len (r : List Nat) (p k : Nat) : (hlTell r p k).length = r.length := by simp [hlTell]
theorem hlAdd_len (b : Nat) (r : List Nat) (n : Nat) : (hlAdd b r n).length = r.length := hlTell_len _ _ _
theorem hlSum_len (b : Nat) : ∀ (l r : List Nat), (hlSum b r l).length = r.length
  | [], _ => rfl
  | x :: l, r => by
    show (hlSum b (hlAdd b r x) l).length = _
    rw [hlSum_len b l, hlAdd_len]
theorem hlLow_len (b : Nat) (r : List Nat) : (hlLow b r).length = 2 ^ (b - 1) := by simp [hlLow]
theorem getD_set (r : List Nat) (p i v : Nat) : (r.set p v).getD i 0 = if p = i ∧ i < r.length then v else r.getD i 0 := by
  simp only [List.getD_eq_getElem?_getD, List.getElem?_set]
  by_cases h : p = i
  · subst h
    by_cases hl : p < r.length
    · simp [hl]
    · simp [hl]
  · simp [h]
theorem tell_at (r : List Nat) (p i k : Nat) : (hlTell r p k).getD i 0 = if p = i ∧ i < r.length then max (r.getD i 0) k else r.getD i 0 := by
  unfold hlTell
  rw [getD_set]
  split
  · rename_i h; rw [h.1]
  · rfl
theorem getD_ext (r s : List Nat) (hl : r.length = s.length) (h : ∀ i, i < r.length → r.getD i 0 = s.getD i 0) : r = s := by
  apply List.ext_getElem hl
  intro i h1 h2
  have := h i h1
  simpa [List.getD_eq_getElem?_getD, List.getElem?_eq_getElem h1, List.getElem?_eq_getElem h2] using this
theorem tell_comm (r : List Nat) (p q j k : Nat) : hlTell (hlTell r p j) q k = hlTell (hlTell r q k) p j := by
  refine getD_ext _ _ (by simp [hlTell_len]) (fun i hi => ?_)
  simp only [tell_at, hlTell_len]
  split <;> split <;> simp_all <;> omega
theorem tell_idem (r : List Nat) (p k : Nat) : hlTell (hlTell r p k) p k = hlTell r p k := by
  refine getD_ext _ _ (by simp [hlTell_len]) (fun i hi => ?_)
  simp only [tell_at, hlTell_len]
  split <;> simp_all
theorem low_at (b : Nat) (r : List Nat) (i : Nat) (hi : i < 2 ^ (b - 1)) : (hlLow b r).getD i 0 = max (upR (r.getD (2 * i) 0)) (oneR (r.getD (2 * i + 1) 0)) := by
  simp [hlLow, List.getD_eq_getElem?_getD, hi]
theorem upR_max (x k : Nat) (hk : 1 ≤ k) : upR (max x k) = max (upR x) (k + 1) := by
  unfold upR
  rw [if_neg (by omega)]
  split <;> omega
theorem oneR_max (x k : Nat) (hk : 1 ≤ k) : oneR (max x k) = 1 := by unfold oneR; rw [if_neg (by omega)]
theorem oneR_le (x : Nat) : oneR x ≤ 1 := by unfold oneR; split <;> omega
/-- One digit less, and a number more: either way about. -/
theorem hlLow_add (b : Nat) (r : List Nat) (n : Nat) (hb1 : 4 ≤ b) (hb2 : b ≤ 8) (hn : n < 2 ^ 64) (hr : r.length = 2 ^ b) : hlLow b (hlAdd b r n) = hlAdd (b - 1) (hlLow b r) n := by
  obtain ⟨h1, h2⟩ := hl_rel b n hb1 hb2
  have hk := hlRank_pos b n hb2
  have hq := hlAt_lt b n hb2 hn
  unfold hlAdd
  rw [h1, h2]
  generalize hlAt b n = q at hq ⊢
  generalize hlRank b n = k at hk ⊢
  have h2b : 2 ^ b = 2 * 2 ^ (b - 1) := by rw [← Nat.pow_succ']; congr 1; omega
  refine getD_ext _ _ (by rw [hlTell_len, hlLow_len, hlLow_len]) (fun i hi => ?_)
  rw [hlLow_len] at hi
  rw [low_at _ _ _ hi, tell_at, tell_at, tell_at, hlLow_len, low_at _ _ _ hi, hr]
  have g1 := oneR_le (r.getD (2 * i + 1) 0)
  by_cases ha : q = 2 * i
  · rw [if_pos ⟨ha, by omega⟩, if_neg (by omega), if_pos ⟨by omega, hi⟩, if_neg (by omega), upR_max _ _ hk]
    omega
  · by_cases hc : q = 2 * i + 1
    · rw [if_neg (by omega), if_pos ⟨hc, by omega⟩, if_pos ⟨by omega, hi⟩, if_pos (by omega), oneR_max _ _ hk]
      omega
    · rw [if_neg (by omega), if_neg (by omega), if_neg (by omega)]
theorem hlLow_sum (b : Nat) (hb1 : 4 ≤ b) (hb2 : b ≤ 8) : ∀ (l r : List Nat), (∀ n ∈ l, n < 2 ^ 64) → r.length = 2 ^ b → hlLow b (hlSum b r l) = hlSum (b - 1) (hlLow b r) l
  | [], _, _, _ => rfl
  | x :: l, r, hl, hr => by
    show hlLow b (hlSum b (hlAdd b r x) l) = hlSum (b - 1) (hlAdd (b - 1) (hlLow b r) x) l
    rw [hlLow_sum b hb1 hb2 l _ (fun n hn => hl n (List.mem_cons_of_mem _ hn)) (by rw [hlAdd_len, hr]), hlLow_add b r x hb1 hb2 (hl x List.mem_cons_self) hr]
theorem hlLow_none (b : Nat) : hlLow b (hlNone b) = hlNone (b - 1) := by
  have h0 : ∀ i, (hlNone b).getD i 0 = 0 := fun i => by
    unfold hlNone
    rw [List.getD_eq_getElem?_getD, List.getElem?_replicate]
    split <;> rfl
  refine getD_ext _ _ (by rw [hlLow_len]; simp [hlNone]) (fun i hi => ?_)
  rw [hlLow_len] at hi
  rw [low_at _ _ _ hi, h0, h0]
  simp [hlNone, upR, oneR, List.getD_eq_getElem?_getD, hi]
theorem hlAdd_comm (b : Nat) (r : List Nat) (m n : Nat) : hlAdd b (hlAdd b r m) n = hlAdd b (hlAdd b r n) m := tell_comm _ _ _ _ _
theorem hlSum_add (b : Nat) : ∀ (l r : List Nat) (n : Nat), hlSum b (hlAdd b r n) l = hlAdd b (hlSum b r l) n
  | [], _, _ => rfl
  | x :: l, r, n => by
    show hlSum b (hlAdd b (hlAdd b r n) x) l = hlAdd b (hlSum b (hlAdd b r x) l) n
    rw [hlAdd_comm, hlSum_add b l]
/-- Of the numbers in their order, and of the numbers as they came: the same. -/
theorem hlSum_ins (b : Nat) : ∀ (l : List Int) (r : List Nat) (n : Int), hlSum b r ((insR l n).map Int.toNat) = hlAdd b (hlSum b r (l.map Int.toNat)) n.toNat
  | [], r, n => by simp [insR, hlSum]
  | x :: xs, r, n => by
    unfold insR
    split
    · show hlSum b (hlAdd b r x.toNat) ((insR xs n).map Int.toNat) = _
      rw [hlSum_ins b xs]; rfl
    · split
      · rename_i h1 h2
        subst h2
        show hlSum b (hlAdd b r x.toNat) (xs.map Int.toNat) = hlAdd b (hlSum b (hlAdd b r x.toNat) (xs.map Int.toNat)) x.toNat
        rw [hlSum_add]
        exact (tell_idem _ _ _).symm
      · show hlSum b (hlAdd b r n.toNat) ((x :: xs).map Int.toNat) = _
        rw [hlSum_add]
theorem hlSum_gather (b : Nat) : ∀ (l c m : List Int) (r : List Nat), Up c → exGather c l = some m → hlSum b r (m.map Int.toNat) = hlSum b (hlSum b r (c.map Int.toNat)) (l.map Int.toNat)
  | [], c, m, r, _, h => by simp only [exGather, Option.some.injEq] at h; rw [h]; rfl
  | n :: l, c, m, r, hu, h => by
    simp only [exGather] at h
    split at h
    · cases h
    · rw [hlSum_gather b l _ m r (by rw [exIns_eq c n hu]; exact insR_up c n hu) h, exIns_eq c n hu, hlSum_ins]
      rfl
theorem hlTell_le (r : List Nat) (p k m : Nat) (hr : ∀ i, r.getD i 0 ≤ m) (hk : k ≤ m) : ∀ i, (hlTell r p k).getD i 0 ≤ m := fun i => by
  rw [tell_at]
  have := hr i
  split <;> omega
end Go.Proofs.YtmkefodaibmkhaaGreatDoor
namespace Go.Proofs.YtmkefodaibmkhaaGreatDoor
open Go Go.RowKit

def satI (a b : Int) : Int := if 18446744073709551615 - a < b then 18446744073709551615 else a + b
def cmPl (c row h : Nat) : Nat := row * c + (h / 4294967296 + row * (h % 4294967296)) % c
def cmPut (l : List Int) (p : Nat) (n : Int) : List Int := l.set p (satI (l.getD p 0) n)
def cmAdd (c : Nat) (l : List Int) (h : Nat) (n : Int) : List Int := cmPut (cmPut l (cmPl c 0 h) n) (cmPl c 1 h) n
def cmLow (c : Nat) (l : List Int) : List Int := (List.range (c / 2 + c / 2)).map fun p => satI (l.getD (p / (c / 2) * c + p % (c / 2)) 0) (l.getD (p / (c / 2) * c + p % (c / 2) + c / 2) 0)
def cmSum (c : Nat) (l : List Int) (is : List (Nat × Int)) : List Int := is.foldl (fun l i => cmAdd c l i.1 i.2) l
def cmNone (c : Nat) : List Int := List.replicate (c + c) 0

theorem satI_u64 (a b : Int) (ha : U64 a) (hb : U64 b) : U64 (satI a b) := by
  unfold U64 satI at *
  split <;> omega
theorem satI_r (a b n : Int) (ha : U64 a) (hb : U64 b) (hn : U64 n) : satI (satI a n) b = satI (satI a b) n := by
  unfold U64 satI at *
  split <;> split <;> split <;> split <;> omega
theorem satI_a (a b n : Int) (ha : U64 a) (hb : U64 b) (hn : U64 n) : satI a (satI b n) = satI (satI a b) n := by
  unfold U64 satI at *
  split <;> split <;> split <;> split <;> omega
theorem u64_0 : U64 0 := by unfold U64; omega
theorem getD_u64 (l : List Int) (h : U64s l) (i : Nat) : U64 (l.getD i 0) := by
  by_cases hi : i < l.length
  · rw [List.getD_eq_getElem?_getD, List.getElem?_eq_getElem hi]
    exact h _ (List.getElem_mem _)
  · rw [List.getD_eq_getElem?_getD, List.getElem?_eq_none (by omega)]
    exact u64_0
theorem getD_setI (r : List Int) (p i : Nat) (v : Int) : (r.set p v).getD i 0 = if p = i ∧ i < r.length then v else r.getD i 0 := by
  simp only [List.getD_eq_getElem?_getD, List.getElem?_set]
  by_cases h : p = i
  · subst h
    by_cases hl : p < r.length
    · simp [hl]
    · simp [hl]
  · simp [h]
theorem getD_extI (r s : List Int) (hl : r.length = s.length) (h : ∀ i, i < r.length → r.getD i 0 = s.getD i 0) : r = s := by
  apply List.ext_getElem hl
  intro i h1 h2
  have := h i h1
  simpa [List.getD_eq_getElem?_getD, List.getElem?_eq_getElem h1, List.getElem?_eq_getElem h2] using this
theorem cmPut_len (l : List Int) (p : Nat) (n : Int) : (cmPut l p n).length = l.length := by simp [cmPut]
theorem cmAdd_len (c : Nat) (l : List Int) (h : Nat) (n : Int) : (cmAdd c l h n).length = l.length := by rw [cmAdd, cmPut_len, cmPut_len]
theorem cmPut_u64 (l : List Int) (p : Nat) (n : Int) (hl : U64s l) (hn : U64 n) : U64s (cmPut l p n) := by
  intro x hx
  rcases List.mem_or_eq_of_mem_set hx with h | rfl
  · exact hl x h
  · exact satI_u64 _ _ (getD_u64 l hl p) hn
theorem cmAdd_u64 (c : Nat) (l : List Int) (h : Nat) (n : Int) (hl : U64s l) (hn : U64 n) : U64s (cmAdd c l h n) := cmPut_u64 _ _ _ (cmPut_u64 _ _ _ hl hn) hn
theorem cmPut_at (l : List Int) (p i : Nat) (n : Int) : (cmPut l p n).getD i 0 = if p = i ∧ i < l.length then satI (l.getD i 0) n else l.getD i 0 := by
  unfold cmPut
  rw [getD_setI]
  split
  · rename_i h; rw [h.1]
  · rfl
theorem cmLow_len (c : Nat) (l : List Int) : (cmLow c l).length = c / 2 + c / 2 := by simp [cmLow]
theorem cmLow_at (c : Nat) (l : List Int) (p : Nat) (hp : p < c / 2 + c / 2) : (cmLow c l).getD p 0 = satI (l.getD (p / (c / 2) * c + p % (c / 2)) 0) (l.getD (p / (c / 2) * c + p % (c / 2) + c / 2) 0) := by
  simp [cmLow, List.getD_eq_getElem?_getD, hp]
theorem cmLow_u64 (c : Nat) (l : List Int) (hl : U64s l) : U64s (cmLow c l) := by
  intro x hx
  obtain ⟨p, -, rfl⟩ := List.mem_map.1 hx
  exact satI_u64 _ _ (getD_u64 l hl _) (getD_u64 l hl _)
theorem cmLow_put (c : Nat) (hc : c = 8 ∨ c = 16 ∨ c = 32) (l : List Int) (row j : Nat) (n : Int) (hrow : row = 0 ∨ row = 1) (hj : j < c) (hl : l.length = c + c) (hu : U64s l) (hn : U64 n) :
    cmLow c (cmPut l (row * c + j) n) = cmPut (cmLow c l) (row * (c / 2) + j % (c / 2)) n := by
  refine getD_extI _ _ (by rw [cmLow_len, cmPut_len, cmLow_len]) (fun p hp => ?_)
  rw [cmLow_len] at hp
  rw [cmLow_at _ _ _ hp, cmPut_at, cmPut_at, cmPut_at, cmLow_len, cmLow_at _ _ _ hp, hl]
  have g1 := getD_u64 l hu (p / (c / 2) * c + p % (c / 2))
  have g2 := getD_u64 l hu (p / (c / 2) * c + p % (c / 2) + c / 2)
  by_cases h1 : row * c + j = p / (c / 2) * c + p % (c / 2)
  · have e1 : ¬ (row * c + j = p / (c / 2) * c + p % (c / 2) + c / 2 ∧ p / (c / 2) * c + p % (c / 2) + c / 2 < c + c) := by
      rcases hc with rfl | rfl | rfl <;> omega
    have e2 : row * c + j = p / (c / 2) * c + p % (c / 2) ∧ p / (c / 2) * c + p % (c / 2) < c + c := by
      rcases hc with rfl | rfl | rfl <;> rcases hrow with rfl | rfl <;> simp only [Nat.reduceDiv] at * <;> omega
    have e3 : row * (c / 2) + j % (c / 2) = p ∧ p < c / 2 + c / 2 := by
      rcases hc with rfl | rfl | rfl <;> rcases hrow with rfl | rfl <;> simp only [Nat.reduceDiv] at * <;> omega
    rw [if_pos e2, if_neg e1, if_pos e3]
    exact satI_r _ _ _ g1 g2 hn
  · by_cases h2 : row * c + j = p / (c / 2) * c + p % (c / 2) + c / 2
    · have e2 : row * c + j = p / (c / 2) * c + p % (c / 2) + c / 2 ∧ p / (c / 2) * c + p % (c / 2) + c / 2 < c + c := by
        rcases hc with rfl | rfl | rfl <;> rcases hrow with rfl | rfl <;> simp only [Nat.reduceDiv] at * <;> omega
      have e3 : row * (c / 2) + j % (c / 2) = p ∧ p < c / 2 + c / 2 := by
        rcases hc with rfl | rfl | rfl <;> rcases hrow with rfl | rfl <;> simp only [Nat.reduceDiv] at * <;> omega
      rw [if_neg (fun h => h1 h.1), if_pos e2, if_pos e3]
      exact satI_a _ _ _ g1 g2 hn
    · have e3 : ¬ (row * (c / 2) + j % (c / 2) = p ∧ p < c / 2 + c / 2) := by
        rcases hc with rfl | rfl | rfl <;> rcases hrow with rfl | rfl <;> simp only [Nat.reduceDiv] at * <;> omega
      rw [if_neg (fun h => h1 h.1), if_neg (fun h => h2 h.1), if_neg e3]
theorem cmPl_half (c row h : Nat) (hc : c = 8 ∨ c = 16 ∨ c = 32) (hrow : row = 0 ∨ row = 1) : cmPl (c / 2) row h = row * (c / 2) + (h / 4294967296 + row * (h % 4294967296)) % c % (c / 2) := by
  unfold cmPl
  rcases hc with rfl | rfl | rfl <;> rcases hrow with rfl | rfl <;> simp only [Nat.reduceDiv] <;> omega
/-- Half as many columns, and a number more: either way about. -/
theorem cmLow_add (c : Nat) (hc : c = 8 ∨ c = 16 ∨ c = 32) (l : List Int) (h : Nat) (n : Int) (hl : l.length = c + c) (hu : U64s l) (hn : U64 n) : cmLow c (cmAdd c l h n) = cmAdd (c / 2) (cmLow c l) h n := by
  have hc0 : 0 < c := by omega
  unfold cmAdd
  rw [cmPl_half c 0 h hc (.inl rfl), cmPl_half c 1 h hc (.inr rfl)]
  rw [← cmLow_put c hc l 0 _ n (.inl rfl) (Nat.mod_lt _ hc0) hl hu hn, ← cmLow_put c hc _ 1 _ n (.inr rfl) (Nat.mod_lt _ hc0) (by rw [cmPut_len, hl]) (cmPut_u64 _ _ _ hu hn) hn]
  rfl
theorem cmSum_len (c : Nat) : ∀ (is : List (Nat × Int)) (l : List Int), (cmSum c l is).length = l.length
  | [], _ => rfl
  | i :: is, l => by
    show (cmSum c (cmAdd c l i.1 i.2) is).length = _
    rw [cmSum_len c is, cmAdd_len]
theorem cmSum_u64 (c : Nat) : ∀ (is : List (Nat × Int)) (l : List Int), U64s l → (∀ i ∈ is, U64 i.2) → U64s (cmSum c l is)
  | [], _, h, _ => h
  | i :: is, _, h, hi => cmSum_u64 c is _ (cmAdd_u64 _ _ _ _ h (hi i List.mem_cons_self)) (fun j hj => hi j (List.mem_cons_of_mem _ hj))
theorem cmLow_sum (c : Nat) (hc : c = 8 ∨ c = 16 ∨ c = 32) : ∀ (is : List (Nat × Int)) (l : List Int), l.length = c + c → U64s l → (∀ i ∈ is, U64 i.2) → cmLow c (cmSum c l is) = cmSum (c / 2) (cmLow c l) is
  | [], _, _, _, _ => rfl
  | i :: is, l, hl, hu, hi => by
    show cmLow c (cmSum c (cmAdd c l i.1 i.2) is) = cmSum (c / 2) (cmAdd (c / 2) (cmLow c l) i.1 i.2) is
    rw [cmLow_sum c hc is _ (by rw [cmAdd_len, hl]) (cmAdd_u64 _ _ _ _ hu (hi i List.mem_cons_self)) (fun j hj => hi j (List.mem_cons_of_mem _ hj)), cmLow_add c hc l i.1 i.2 hl hu (hi i List.mem_cons_self)]
theorem cmLow_none (c : Nat) : cmLow c (cmNone c) = cmNone (c / 2) := by
  have h0 : ∀ i, (cmNone c).getD i 0 = 0 := fun i => by
    unfold cmNone
    rw [List.getD_eq_getElem?_getD, List.getElem?_replicate]
    split <;> rfl
  refine getD_extI _ _ (by rw [cmLow_len]; simp [cmNone]) (fun i hi => ?_)
  rw [cmLow_len] at hi
  rw [cmLow_at _ _ _ hi, h0, h0]
  simp [cmNone, satI, List.getD_eq_getElem?_getD, hi]
end Go.Proofs.YtmkefodaibmkhaaGreatDoor
namespace Go.Proofs.YtmkefodaibmkhaaGreatDoor
open Go Go.RowKit

abbrev BinUp (l : List (Int × Int)) : Prop := l.Pairwise (fun a b => a.1 < b.1)
def binPut : List (Int × Int) → Int → Int → List (Int × Int)
  | [], p, n => [(p, n)]
  | (q, m) :: t, p, n => if q < p then (q, m) :: binPut t p n else if q = p then (q, satI m n) :: t else (p, n) :: (q, m) :: t
def binAt (l : List (Int × Int)) (p : Int) : Option Int := (l.find? (fun b => b.1 == p)).map (·.2)
def binUp (o : Option Int) (n : Int) : Int := match o with
  | some x => satI x n
  | none => n
def hiDone (l : List (Int × Int)) : List (Int × Int) := l.filter (fun b => b.2 != 0)
def hiHalf (p : Int) : Int := if p = 0 then 0 else 1 + (p - 1) / 2
def hiBk (f : Int) (v : Nat) : Int := if v = 0 then 0 else 1 + ((Lib.bitLen v - 1) * 2 ^ f.toNat + v * 2 ^ (64 - (Lib.bitLen v - 1)) % 2 ^ 64 / 2 ^ (64 - f.toNat) : Nat)
def hiAdd (f : Int) (l : List (Int × Int)) (v : Nat) (n : Int) : List (Int × Int) := hiDone (binPut l (hiBk f v) n)
def hiPuts (acc : List (Int × Int)) (l : List (Int × Int)) : List (Int × Int) := l.foldl (fun a b => binPut a b.1 b.2) acc
def hiLow (l : List (Int × Int)) : List (Int × Int) := hiDone (hiPuts [] (l.map fun b => (hiHalf b.1, b.2)))

theorem binUp_tail {b : Int × Int} {t : List (Int × Int)} (h : BinUp (b :: t)) : BinUp t ∧ ∀ c ∈ t, b.1 < c.1 := ⟨(List.pairwise_cons.1 h).2, (List.pairwise_cons.1 h).1⟩
theorem binPut_mem : ∀ (l : List (Int × Int)) (p n : Int) (b : Int × Int), b ∈ binPut l p n → b.1 = p ∨ b ∈ l
  | [], p, n, b, h => by simp [binPut] at h; exact .inl (by rw [h])
  | (q, m) :: t, p, n, b, h => by
    unfold binPut at h
    split at h
    · rcases List.mem_cons.1 h with rfl | h
      · exact .inr List.mem_cons_self
      · rcases binPut_mem t p n b h with h | h
        · exact .inl h
        · exact .inr (List.mem_cons_of_mem _ h)
    · split at h
      · rename_i h1 h2
        rcases List.mem_cons.1 h with rfl | h
        · exact .inl h2
        · exact .inr (List.mem_cons_of_mem _ h)
      · rcases List.mem_cons.1 h with rfl | h
        · exact .inl rfl
        · exact .inr h
theorem binPut_up : ∀ (l : List (Int × Int)) (p n : Int), BinUp l → BinUp (binPut l p n)
  | [], p, n, _ => by simp [binPut]
  | (q, m) :: t, p, n, h => by
    obtain ⟨h1, h2⟩ := binUp_tail h
    unfold binPut
    split
    · rename_i hq
      refine List.pairwise_cons.2 ⟨fun b hb => ?_, binPut_up t p n h1⟩
      rcases binPut_mem t p n b hb with e | hb
      · rw [e]; exact hq
      · exact h2 b hb
    · split
      · exact List.pairwise_cons.2 ⟨h2, h1⟩
      · rename_i h3 h4
        refine List.pairwise_cons.2 ⟨fun b hb => ?_, h⟩
        show p < b.1
        rcases List.mem_cons.1 hb with rfl | hb
        · show p < q; omega
        · have h5 : q < b.1 := h2 b hb
          omega
theorem binAt_cons (b : Int × Int) (t : List (Int × Int)) (p : Int) : binAt (b :: t) p = if b.1 = p then some b.2 else binAt t p := by
  unfold binAt
  rw [List.find?_cons]
  by_cases h : b.1 = p
  · simp [h]
  · rw [if_neg h, beq_eq_false_iff_ne.2 h]
theorem binPut_cons (q m : Int) (t : List (Int × Int)) (p n : Int) : binPut ((q, m) :: t) p n = if q < p then (q, m) :: binPut t p n else if q = p then (q, satI m n) :: t else (p, n) :: (q, m) :: t := rfl
theorem binAt_none {t : List (Int × Int)} {p : Int} (h : ∀ b ∈ t, p < b.1) : binAt t p = none := by
  unfold binAt
  rw [List.find?_eq_none.2 (fun b hb => by have := h b hb; simp; omega)]
  rfl
theorem binAt_put : ∀ (l : List (Int × Int)) (p n r : Int), BinUp l → binAt (binPut l p n) r = if r = p then some (binUp (binAt l p) n) else binAt l r
  | [], p, n, r, _ => by
    unfold binPut
    rw [binAt_cons]
    by_cases h : r = p
    · rw [if_pos h, if_pos h.symm]; rfl
    · rw [if_neg h, if_neg (fun e => h e.symm)]
  | (q, m) :: t, p, n, r, hu => by
    obtain ⟨h1, h2⟩ := binUp_tail hu
    unfold binPut
    split
    · rename_i hq
      rw [binAt_cons, binAt_put t p n r h1, binAt_cons (q, m) t p, binAt_cons (q, m) t r]
      dsimp only
      rw [if_neg (by omega : ¬ q = p)]
      by_cases h : r = p
      · rw [if_pos h, if_neg (by omega), if_pos h]
      · rw [if_neg h, if_neg h]
    · split
      · rename_i h3 h4
        subst h4
        rw [binAt_cons, binAt_cons, binAt_cons]
        dsimp only
        rw [if_pos rfl]
        by_cases h : r = q
        · rw [if_pos h, if_pos h.symm]; rfl
        · rw [if_neg h, if_neg (fun e => h e.symm), if_neg (fun e => h e.symm)]
      · rename_i h3 h4
        rw [binAt_cons]
        dsimp only
        by_cases h : r = p
        · rw [if_pos h, if_pos h.symm]
          have : binAt ((q, m) :: t) p = none := binAt_none (fun b hb => by
            rcases List.mem_cons.1 hb with rfl | hb
            · show p < q; omega
            · have h5 : q < b.1 := h2 b hb
              omega)
          rw [this]; rfl
        · rw [if_neg h, if_neg (fun e => h e.symm)]
/-- Rising bins of the same numbers are the same. -/
theorem bin_ext : ∀ (l m : List (Int × Int)), BinUp l → BinUp m → (∀ p, binAt l p = binAt m p) → l = m
  | [], [], _, _, _ => rfl
  | [], b :: m, _, _, h => by have := h b.1; rw [binAt_cons, if_pos rfl] at this; cases this
  | a :: l, [], _, _, h => by have := h a.1; rw [binAt_cons, if_pos rfl] at this; cases this
  | a :: l, b :: m, hl, hm, h => by
    obtain ⟨l1, l2⟩ := binUp_tail hl
    obtain ⟨m1, m2⟩ := binUp_tail hm
    have hab : a.1 = b.1 := by
      apply Classical.byContradiction
      intro hne
      by_cases hlt : a.1 < b.1
      · have := h a.1
        rw [binAt_cons, if_pos rfl, binAt_none (t := b :: m) (fun c hc => by
          rcases List.mem_cons.1 hc with rfl | hc
          · exact hlt
          · have := m2 c hc; omega)] at this
        cases this
      · have := h b.1
        rw [binAt_cons b m, if_pos rfl, binAt_none (t := a :: l) (fun c hc => by
          rcases List.mem_cons.1 hc with rfl | hc
          · omega
          · have := l2 c hc; omega)] at this
        cases this
    have h2 : a.2 = b.2 := by
      have := h a.1
      rw [binAt_cons, if_pos rfl, binAt_cons, if_pos hab.symm] at this
      simpa using this
    have hh : a = b := Prod.ext hab h2
    subst hh
    congr 1
    refine bin_ext l m l1 m1 (fun p => ?_)
    have := h p
    rw [binAt_cons, binAt_cons] at this
    by_cases hp : a.1 = p
    · rw [binAt_none (fun c hc => by have := l2 c hc; omega), binAt_none (fun c hc => by have := m2 c hc; omega)]
    · rwa [if_neg hp, if_neg hp] at this
def BinsU (l : List (Int × Int)) : Prop := ∀ b ∈ l, U64 b.2
theorem binAt_u64 {l : List (Int × Int)} (h : BinsU l) {p x : Int} (hx : binAt l p = some x) : U64 x := by
  unfold binAt at hx
  cases hf : l.find? (fun b => b.1 == p) with
  | none => rw [hf] at hx; cases hx
  | some b =>
    rw [hf] at hx
    simp only [Option.map_some, Option.some.injEq] at hx
    rw [← hx]
    exact h b (List.mem_of_find?_eq_some hf)
theorem binUp_u64 {o : Option Int} {n : Int} (ho : ∀ x, o = some x → U64 x) (hn : U64 n) : U64 (binUp o n) := by
  cases o with
  | none => exact hn
  | some x => exact satI_u64 _ _ (ho x rfl) hn
theorem binPut_u64 : ∀ (l : List (Int × Int)) (p n : Int), BinsU l → U64 n → BinsU (binPut l p n)
  | [], p, n, _, hn => by intro b hb; simp [binPut] at hb; rw [hb]; exact hn
  | (q, m) :: t, p, n, h, hn => by
    have ht : BinsU t := fun b hb => h b (List.mem_cons_of_mem _ hb)
    unfold binPut
    split
    · intro b hb
      rcases List.mem_cons.1 hb with rfl | hb
      · exact h _ List.mem_cons_self
      · exact binPut_u64 t p n ht hn b hb
    · split
      · intro b hb
        rcases List.mem_cons.1 hb with rfl | hb
        · exact satI_u64 _ _ (h (q, m) List.mem_cons_self) hn
        · exact ht b hb
      · intro b hb
        rcases List.mem_cons.1 hb with rfl | hb
        · exact hn
        · exact h b hb
theorem satI_comm (a b : Int) : satI a b = satI b a := by
  unfold satI
  split <;> split <;> omega
theorem satI_0 (n : Int) (hn : U64 n) : satI 0 n = n := by
  unfold U64 satI at *
  split <;> omega
theorem satI_pos (a b : Int) (ha : U64 a) (hb : U64 b) (h : a ≠ 0 ∨ b ≠ 0) : satI a b ≠ 0 := by
  unfold U64 satI at *
  split <;> omega
theorem binUp_comm {o : Option Int} {m n : Int} (ho : ∀ x, o = some x → U64 x) (hm : U64 m) (hn : U64 n) : satI (binUp o m) n = satI (binUp o n) m := by
  cases o with
  | none => exact satI_comm m n
  | some x => exact satI_r x n m (ho x rfl) hn hm
theorem binPut_comm (l : List (Int × Int)) (p m q n : Int) (hu : BinUp l) (hb : BinsU l) (hm : U64 m) (hn : U64 n) : binPut (binPut l p m) q n = binPut (binPut l q n) p m := by
  refine bin_ext _ _ (binPut_up _ _ _ (binPut_up _ _ _ hu)) (binPut_up _ _ _ (binPut_up _ _ _ hu)) (fun r => ?_)
  rw [binAt_put _ _ _ _ (binPut_up _ _ _ hu), binAt_put _ _ _ _ (binPut_up _ _ _ hu), binAt_put _ _ _ _ hu, binAt_put _ _ _ _ hu, binAt_put _ _ _ _ hu, binAt_put _ _ _ _ hu]
  by_cases h1 : r = q
  · by_cases h2 : r = p
    · subst h1
      subst h2
      simp only [if_true]
      rw [show binUp (some (binUp (binAt l r) m)) n = satI (binUp (binAt l r) m) n from rfl, show binUp (some (binUp (binAt l r) n)) m = satI (binUp (binAt l r) n) m from rfl, binUp_comm (fun x => binAt_u64 hb) hm hn]
    · rw [if_pos h1, if_neg h2, if_pos h1, if_neg (fun e => h2 (by omega))]
  · by_cases h2 : r = p
    · rw [if_neg h1, if_pos h2, if_pos h2, if_neg (fun e => h1 (by omega))]
    · rw [if_neg h1, if_neg h2, if_neg h2, if_neg h1]
theorem binPut_twice (l : List (Int × Int)) (p m n : Int) (hu : BinUp l) (hb : BinsU l) (hm : U64 m) (hn : U64 n) : binPut (binPut l p m) p n = binPut l p (satI m n) := by
  refine bin_ext _ _ (binPut_up _ _ _ (binPut_up _ _ _ hu)) (binPut_up _ _ _ hu) (fun r => ?_)
  rw [binAt_put _ _ _ _ (binPut_up _ _ _ hu), binAt_put _ _ _ _ hu, binAt_put _ _ _ _ hu, binAt_put _ _ _ _ hu, if_pos rfl]
  by_cases h : r = p
  · rw [if_pos h, if_pos h]
    cases ho : binAt l p with
    | none => rfl
    | some x =>
      have hx := binAt_u64 hb ho
      show some (satI (satI x m) n) = some (satI x (satI m n))
      rw [satI_a x m n hx hm hn]
  · rw [if_neg h, if_neg h, if_neg h]
theorem hiPuts_up : ∀ (l a : List (Int × Int)), BinUp a → BinUp (hiPuts a l)
  | [], _, h => h
  | b :: l, a, h => hiPuts_up l _ (binPut_up a b.1 b.2 h)
theorem hiPuts_u64 : ∀ (l a : List (Int × Int)), BinsU a → BinsU l → BinsU (hiPuts a l)
  | [], _, h, _ => h
  | b :: l, a, h, hl => hiPuts_u64 l _ (binPut_u64 a b.1 b.2 h (hl b List.mem_cons_self)) (fun c hc => hl c (List.mem_cons_of_mem _ hc))
theorem hiPuts_put : ∀ (l a : List (Int × Int)) (p n : Int), BinUp a → BinsU a → BinsU l → U64 n → hiPuts (binPut a p n) l = binPut (hiPuts a l) p n
  | [], _, _, _, _, _, _, _ => rfl
  | b :: l, a, p, n, hu, ha, hl, hn => by
    have hb := hl b List.mem_cons_self
    show hiPuts (binPut (binPut a p n) b.1 b.2) l = binPut (hiPuts (binPut a b.1 b.2) l) p n
    rw [binPut_comm a p n b.1 b.2 hu ha hn hb]
    exact hiPuts_put l _ p n (binPut_up _ _ _ hu) (binPut_u64 _ _ _ ha hb) (fun c hc => hl c (List.mem_cons_of_mem _ hc)) hn
theorem hiPuts_ins : ∀ (l a : List (Int × Int)) (g : Int → Int) (p n : Int), BinUp a → BinsU a → BinsU l → U64 n →
    hiPuts a ((binPut l p n).map fun b => (g b.1, b.2)) = binPut (hiPuts a (l.map fun b => (g b.1, b.2))) (g p) n
  | [], a, g, p, n, _, _, _, _ => rfl
  | (q, m) :: t, a, g, p, n, hu, ha, hl, hn => by
    have hm : U64 m := hl (q, m) List.mem_cons_self
    have ht : BinsU t := fun c hc => hl c (List.mem_cons_of_mem _ hc)
    have htg : BinsU (t.map fun b => (g b.1, b.2)) := fun c hc => by
      obtain ⟨d, hd, rfl⟩ := List.mem_map.1 hc
      exact ht d hd
    rw [binPut_cons q m t p n]
    split
    · exact hiPuts_ins t _ g p n (binPut_up a (g q) m hu) (binPut_u64 a (g q) m ha hm) ht hn
    · split
      · rename_i h1 h2
        subst h2
        show hiPuts (binPut a (g q) (satI m n)) (t.map fun b => (g b.1, b.2)) = binPut (hiPuts (binPut a (g q) m) (t.map fun b => (g b.1, b.2))) (g q) n
        rw [← binPut_twice a (g q) m n hu ha hm hn, hiPuts_put _ _ _ _ (binPut_up _ _ _ hu) (binPut_u64 _ _ _ ha hm) htg hn]
      · show hiPuts (binPut (binPut a (g p) n) (g q) m) (t.map fun b => (g b.1, b.2)) = binPut (hiPuts (binPut a (g q) m) (t.map fun b => (g b.1, b.2))) (g p) n
        rw [binPut_comm a (g p) n (g q) m hu ha hn hm, hiPuts_put _ _ _ _ (binPut_up _ _ _ hu) (binPut_u64 _ _ _ ha hm) htg hn]
theorem hiPuts_self : ∀ (l a : List (Int × Int)), BinUp (a ++ l) → hiPuts a l = a ++ l
  | [], a, _ => by simp [hiPuts]
  | b :: l, a, h => by
    have key : ∀ (a : List (Int × Int)), (∀ c ∈ a, c.1 < b.1) → binPut a b.1 b.2 = a ++ [b] := by
      intro a
      induction a with
      | nil => intro _; rfl
      | cons c a ih =>
        intro hc
        unfold binPut
        rw [if_pos (hc c List.mem_cons_self), ih (fun d hd => hc d (List.mem_cons_of_mem _ hd))]
        rfl
    have h1 : binPut a b.1 b.2 = a ++ [b] := key a (fun c hc => (List.pairwise_append.1 h).2.2 c hc b List.mem_cons_self)
    show hiPuts (binPut a b.1 b.2) l = _
    rw [h1, hiPuts_self l (a ++ [b]) (by rw [List.append_assoc]; exact h), List.append_assoc]
    rfl
theorem hiDone_up {l : List (Int × Int)} (h : BinUp l) : BinUp (hiDone l) := h.sublist List.filter_sublist
theorem hiDone_u64 {l : List (Int × Int)} (h : BinsU l) : BinsU (hiDone l) := fun b hb => h b (List.mem_filter.1 hb).1
theorem hiDone_pos {l : List (Int × Int)} : ∀ b ∈ hiDone l, b.2 ≠ 0 := fun b hb => by simpa using (List.mem_filter.1 hb).2
theorem hiDone_self {l : List (Int × Int)} (h : ∀ b ∈ l, b.2 ≠ 0) : hiDone l = l := List.filter_eq_self.2 (fun b hb => by simpa using h b hb)
theorem binPut_pos : ∀ (l : List (Int × Int)) (p n : Int), (∀ b ∈ l, b.2 ≠ 0) → BinsU l → U64 n → n ≠ 0 → ∀ b ∈ binPut l p n, b.2 ≠ 0
  | [], p, n, _, _, _, hn, b, hb => by simp [binPut] at hb; rw [hb]; exact hn
  | (q, m) :: t, p, n, h, hu, hn, h0, b, hb => by
    have ht : ∀ b ∈ t, b.2 ≠ 0 := fun b hb => h b (List.mem_cons_of_mem _ hb)
    unfold binPut at hb
    split at hb
    · rcases List.mem_cons.1 hb with rfl | hb
      · exact h _ List.mem_cons_self
      · exact binPut_pos t p n ht (fun c hc => hu c (List.mem_cons_of_mem _ hc)) hn h0 b hb
    · split at hb
      · rcases List.mem_cons.1 hb with rfl | hb
        · exact satI_pos _ _ (hu (q, m) List.mem_cons_self) hn (.inr h0)
        · exact ht b hb
      · rcases List.mem_cons.1 hb with rfl | hb
        · exact h0
        · exact h b hb
theorem binPut_zero : ∀ (l : List (Int × Int)) (p : Int), (∀ b ∈ l, b.2 ≠ 0) → BinsU l → hiDone (binPut l p 0) = l
  | [], p, _, _ => rfl
  | (q, m) :: t, p, h, hu => by
    have ht : ∀ b ∈ t, b.2 ≠ 0 := fun b hb => h b (List.mem_cons_of_mem _ hb)
    have hm : m ≠ 0 := h (q, m) List.mem_cons_self
    have hmu : U64 m := hu (q, m) List.mem_cons_self
    have hd : ∀ (x : Int) (s : List (Int × Int)), x ≠ 0 → hiDone ((q, x) :: s) = (q, x) :: hiDone s := fun x s hx => by
      unfold hiDone
      rw [List.filter_cons]
      simp [hx]
    unfold binPut
    split
    · rw [hd _ _ hm, binPut_zero t p ht (fun c hc => hu c (List.mem_cons_of_mem _ hc))]
    · split
      · have e : satI m 0 = m := by
          unfold satI U64 at *
          split <;> omega
        rw [e, hd _ _ hm, hiDone_self ht]
      · have e : hiDone ((p, 0) :: (q, m) :: t) = hiDone ((q, m) :: t) := by
          unfold hiDone
          rw [List.filter_cons]
          simp
        rw [e, hiDone_self h]
/-- What Add makes of right bins. -/
theorem hiAdd_eq (f : Int) (l : List (Int × Int)) (v : Nat) (n : Int) (h : ∀ b ∈ l, b.2 ≠ 0) (hu : BinsU l) (hn : U64 n) : hiAdd f l v n = if n = 0 then l else binPut l (hiBk f v) n := by
  unfold hiAdd
  split
  · rename_i h0; rw [h0, binPut_zero l _ h hu]
  · rename_i h0; exact hiDone_self (binPut_pos l _ n h hu hn h0)
theorem hiPuts_pos : ∀ (l a : List (Int × Int)), (∀ b ∈ a, b.2 ≠ 0) → BinsU a → (∀ b ∈ l, b.2 ≠ 0) → BinsU l → ∀ b ∈ hiPuts a l, b.2 ≠ 0
  | [], _, h, _, _, _ => h
  | b :: l, a, h, hu, hl, hlu => hiPuts_pos l _ (binPut_pos a b.1 b.2 h hu (hlu b List.mem_cons_self) (hl b List.mem_cons_self)) (binPut_u64 _ _ _ hu (hlu b List.mem_cons_self)) (fun c hc => hl c (List.mem_cons_of_mem _ hc)) (fun c hc => hlu c (List.mem_cons_of_mem _ hc))
theorem half_bins {l : List (Int × Int)} (h : ∀ b ∈ l, b.2 ≠ 0) (hu : BinsU l) : (∀ b ∈ l.map fun b => (hiHalf b.1, b.2), b.2 ≠ 0) ∧ BinsU (l.map fun b => (hiHalf b.1, b.2)) :=
  ⟨fun c hc => by obtain ⟨d, hd, rfl⟩ := List.mem_map.1 hc; exact h d hd, fun c hc => by obtain ⟨d, hd, rfl⟩ := List.mem_map.1 hc; exact hu d hd⟩
theorem hiLow_eq {l : List (Int × Int)} (h : ∀ b ∈ l, b.2 ≠ 0) (hu : BinsU l) : hiLow l = hiPuts [] (l.map fun b => (hiHalf b.1, b.2)) := by
  obtain ⟨h1, h2⟩ := half_bins h hu
  exact hiDone_self (hiPuts_pos _ [] (fun b hb => by cases hb) (fun b hb => by cases hb) h1 h2)
theorem hiBk_half (f : Int) (hf : f = 1 ∨ f = 2 ∨ f = 3) (v : Nat) : hiBk (f - 1) v = hiHalf (hiBk f v) := by
  unfold hiBk hiHalf
  by_cases hv : v = 0
  · rw [if_pos hv, if_pos hv, if_pos rfl]
  · rw [if_neg hv, if_neg hv]
    generalize Lib.bitLen v - 1 = b
    generalize v * 2 ^ (64 - b) % 2 ^ 64 = o
    rcases hf with rfl | rfl | rfl <;> simp only [show ((1 : Int) - 1).toNat = 0 from rfl, show ((2 : Int) - 1).toNat = 1 from rfl, show ((3 : Int) - 1).toNat = 2 from rfl, show ((1 : Int)).toNat = 1 from rfl, show ((2 : Int)).toNat = 2 from rfl, show ((3 : Int)).toNat = 3 from rfl, Nat.reducePow, Nat.reduceSub]
    all_goals (rw [if_neg (by omega)]; omega)
/-- Half as fine, and a number more: either way about. -/
theorem hiLow_add (f : Int) (hf : f = 1 ∨ f = 2 ∨ f = 3) (l : List (Int × Int)) (v : Nat) (n : Int) (h : ∀ b ∈ l, b.2 ≠ 0) (hu : BinsU l) (hn : U64 n) : hiLow (hiAdd f l v n) = hiAdd (f - 1) (hiLow l) v n := by
  obtain ⟨h1, h2⟩ := half_bins h hu
  have hL : (∀ b ∈ hiLow l, b.2 ≠ 0) := hiDone_pos
  have hLu : BinsU (hiLow l) := hiDone_u64 (hiPuts_u64 _ [] (fun b hb => by cases hb) h2)
  rw [hiAdd_eq f l v n h hu hn, hiAdd_eq (f - 1) (hiLow l) v n hL hLu hn]
  split
  · rfl
  · rename_i h0
    rw [hiLow_eq (binPut_pos l _ n h hu hn h0) (binPut_u64 l _ n hu hn), hiLow_eq h hu, hiPuts_ins l [] hiHalf _ n List.Pairwise.nil (fun b hb => by cases hb) hu hn, hiBk_half f hf]
theorem binPut_len : ∀ (l : List (Int × Int)) (p n : Int), (binPut l p n).length ≤ l.length + 1
  | [], _, _ => by simp [binPut]
  | (q, m) :: t, p, n => by
    have := binPut_len t p n
    unfold binPut
    split
    · simp only [List.length_cons]; omega
    · split <;> simp
theorem hiPuts_len : ∀ (l a : List (Int × Int)), (hiPuts a l).length ≤ a.length + l.length
  | [], _ => by simp [hiPuts]
  | b :: l, a => by
    have h1 := hiPuts_len l (binPut a b.1 b.2)
    have h2 := binPut_len a b.1 b.2
    show (hiPuts (binPut a b.1 b.2) l).length ≤ _
    simp only [List.length_cons]
    omega
theorem hiDone_len (l : List (Int × Int)) : (hiDone l).length ≤ l.length := List.length_filter_le _ _
theorem hiLow_len (l : List (Int × Int)) : (hiLow l).length ≤ l.length := by
  have h1 := hiDone_len (hiPuts [] (l.map fun b => (hiHalf b.1, b.2)))
  have h2 := hiPuts_len (l.map fun b => (hiHalf b.1, b.2)) []
  simp only [List.length_map, List.length_nil] at h2
  unfold hiLow
  omega
theorem hiAdd_len (f : Int) (l : List (Int × Int)) (v : Nat) (n : Int) : (hiAdd f l v n).length ≤ l.length + 1 := Nat.le_trans (hiDone_len _) (binPut_len _ _ _)
end Go.Proofs.YtmkefodaibmkhaaGreatDoor
