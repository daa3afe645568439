/- Counters as plain data: a number added, half as many columns. No program in sight. Histograms as plain data: bins put into rising bins, buckets half as fine. No program in sight. -/
import Derived.Test.YtpnlmfilmbodfaaGreatDoorVH0
namespace Go.Proofs.YtpnlmfilmbodfaaGreatDoor
open Go Go.RowKit
def satI (a b : Int) : Int := if 18446744073709551615 - a < b then 18446744073709551615 else a + b
def cmPl (c row h : Nat) : Nat := row * c + (h / 4294967296 + row * (h % 4294967296)) % c
def cmPut (l : List Int) (p : Nat) (n : Int) : List Int := l.set p (satI (l.getD p 0) n)
def cmAdd (c : Nat) (l : List Int) (h : Nat) (n : Int) : List Int := cmPut (cmPut l (cmPl c 0 h) n) (cmPl c 1 h) n
def cmLow (c : Nat) (l : List Int) : List Int := (List.range (c / 2 + c / 2)).map fun p => satI (l.getD (p / (c / 2) * c + p % (c / 2)) 0) (l.getD (p / (c / 2) * c + p % (c / 2) + c / 2) 0)
def cmNone (c : Nat) : List Int := List.replicate (c + c) 0
theorem satI_u64 (a b : Int) (ha : U64 a) (hb : U64 b) : U64 (satI a b) := by
  unfold U64 satI at *
  split <;> omega
theorem u64_0 : U64 0 := by unfold U64; omega
theorem getD_u64 (l : List Int) (h : U64s l) (i : Nat) : U64 (l.getD i 0) := by
  by_cases hi : i < l.length
  · rw [List.getD_eq_getElem?_getD, List.getElem?_eq_getElem hi]
    exact h _ (List.getElem_mem _)
  · rw [List.getD_eq_getElem?_getD, List.getElem?_eq_none (by omega)]
    exact u64_0
theorem getD_setI (r : List Int) (p i : Nat) (v : Int) : (r.set p v).getD i 0 = if p = i ∧ i < r.length then v else r.getD i 0 := by
  simp only [List.getD_eq_getElem?_getD, List.getElem?_set]
  by_cases h : p = i
  · subst h
    by_cases hl : p < r.length
    · simp [hl]
    · simp [hl]
  · simp [h]
theorem getD_extI (r s : List Int) (hl : r.length = s.length) (h : ∀ i, i < r.length → r.getD i 0 = s.getD i 0) : r = s := by
  apply List.ext_getElem hl
  intro i h1 h2
  have := h i h1
  simpa [List.getD_eq_getElem?_getD, List.getElem?_eq_getElem h1, List.getElem?_eq_getElem h2] using this
theorem cmLow_len (c : Nat) (l : List Int) : (cmLow c l).length = c / 2 + c / 2 := by simp [cmLow]
theorem cmLow_at (c : Nat) (l : List Int) (p : Nat) (hp : p < c / 2 + c / 2) : (cmLow c l).getD p 0 = satI (l.getD (p / (c / 2) * c + p % (c / 2)) 0) (l.getD (p / (c / 2) * c + p % (c / 2) + c / 2) 0) := by
  simp [cmLow, List.getD_eq_getElem?_getD, hp]
theorem cmLow_u64 (c : Nat) (l : List Int) (hl : U64s l) : U64s (cmLow c l) := by
  intro x hx
  obtain ⟨p, -, rfl⟩ := List.mem_map.1 hx
  exact satI_u64 _ _ (getD_u64 l hl _) (getD_u64 l hl _)
end Go.Proofs.YtpnlmfilmbodfaaGreatDoor
namespace Go.Proofs.YtpnlmfilmbodfaaGreatDoor
open Go Go.RowKit
abbrev BinUp (l : List (Int × Int)) : Prop := l.Pairwise (fun a b => a.1 < b.1)
def binPut : List (Int × Int) → Int → Int → List (Int × Int)
  | [], p, n => [(p, n)]
  | (q, m) :: t, p, n => if q < p then (q, m) :: binPut t p n else if q = p then (q, satI m n) :: t else (p, n) :: (q, m) :: t
def binAt (l : List (Int × Int)) (p : Int) : Option Int := (l.find? (fun b => b.1 == p)).map (·.2)
def binUp (o : Option Int) (n : Int) : Int := match o with
  | some x => satI x n
  | none => n
def hiDone (l : List (Int × Int)) : List (Int × Int) := l.filter (fun b => b.2 != 0)
def hiHalf (p : Int) : Int := if p = 0 then 0 else 1 + (p - 1) / 2
def hiBk (f : Int) (v : Nat) : Int := if v = 0 then 0 else 1 + ((Lib.bitLen v - 1) * 2 ^ f.toNat + v * 2 ^ (64 - (Lib.bitLen v - 1)) % 2 ^ 64 / 2 ^ (64 - f.toNat) : Nat)
def hiAdd (f : Int) (l : List (Int × Int)) (v : Nat) (n : Int) : List (Int × Int) := hiDone (binPut l (hiBk f v) n)
def hiPuts (acc : List (Int × Int)) (l : List (Int × Int)) : List (Int × Int) := l.foldl (fun a b => binPut a b.1 b.2) acc
def hiLow (l : List (Int × Int)) : List (Int × Int) := hiDone (hiPuts [] (l.map fun b => (hiHalf b.1, b.2)))
theorem binUp_tail {b : Int × Int} {t : List (Int × Int)} (h : BinUp (b :: t)) : BinUp t ∧ ∀ c ∈ t, b.1 < c.1 := ⟨(List.pairwise_cons.1 h).2, (List.pairwise_cons.1 h).1⟩
theorem binPut_mem : ∀ (l : List (Int × Int)) (p n : Int) (b : Int × Int), b ∈ binPut l p n → b.1 = p ∨ b ∈ l
  | [], p, n, b, h => by simp [binPut] at h; exact .inl (by rw [h])
  | (q, m) :: t, p, n, b, h => by
    unfold binPut at h
    split at h
    · rcases List.mem_cons.1 h with rfl | h
      · exact .inr List.mem_cons_self
      · rcases binPut_mem t p n b h with h | h
        · exact .inl h
        · exact .inr (List.mem_cons_of_mem _ h)
    · split at h
      · rename_i h1 h2
        rcases List.mem_cons.1 h with rfl | h
        · exact .inl h2
        · exact .inr (List.mem_cons_of_mem _ h)
      · rcases List.mem_cons.1 h with rfl | h
        · exact .inl rfl
        · exact .inr h
theorem binPut_up : ∀ (l : List (Int × Int)) (p n : Int), BinUp l → BinUp (binPut l p n)
  | [], p, n, _ => by simp [binPut]
  | (q, m) :: t, p, n, h => by
    obtain ⟨h1, h2⟩ := binUp_tail h
    unfold binPut
    split
    · rename_i hq
      refine List.pairwise_cons.2 ⟨fun b hb => ?_, binPut_up t p n h1⟩
      rcases binPut_mem t p n b hb with e | hb
      · rw [e]; exact hq
      · exact h2 b hb
    · split
      · exact List.pairwise_cons.2 ⟨h2, h1⟩
      · rename_i h3 h4
        refine List.pairwise_cons.2 ⟨fun b hb => ?_, h⟩
        show p < b.1
        rcases List.mem_cons.1 hb with rfl | hb
        · show p < q; omega
        · have h5 : q < b.1 := h2 b hb
          omega
theorem binAt_cons (b : Int × Int) (t : List (Int × Int)) (p : Int) : binAt (b :: t) p = if b.1 = p then some b.2 else binAt t p := by
  unfold binAt
  rw [List.find?_cons]
  by_cases h : b.1 = p
  · simp [h]
  · rw [if_neg h, beq_eq_false_iff_ne.2 h]
theorem binAt_none {t : List (Int × Int)} {p : Int} (h : ∀ b ∈ t, p < b.1) : binAt t p = none := by
  unfold binAt
  rw [List.find?_eq_none.2 (fun b hb => by have := h b hb; simp; omega)]
  rfl
theorem binAt_put : ∀ (l : List (Int × Int)) (p n r : Int), BinUp l → binAt (binPut l p n) r = if r = p then some (binUp (binAt l p) n) else binAt l r
  | [], p, n, r, _ => by
    unfold binPut
    rw [binAt_cons]
    by_cases h : r = p
    · rw [if_pos h, if_pos h.symm]; rfl
    · rw [if_neg h, if_neg (fun e => h e.symm)]
  | (q, m) :: t, p, n, r, hu => by
    obtain ⟨h1, h2⟩ := binUp_tail hu
    unfold binPut
    split
    · rename_i hq
      rw [binAt_cons, binAt_put t p n r h1, binAt_cons (q, m) t p, binAt_cons (q, m) t r]
      dsimp only
      rw [if_neg (by omega : ¬ q = p)]
      by_cases h : r = p
      · rw [if_pos h, if_neg (by omega), if_pos h]
      · rw [if_neg h, if_neg h]
    · split
      · rename_i h3 h4
        subst h4
        rw [binAt_cons, binAt_cons, binAt_cons]
        dsimp only
        rw [if_pos rfl]
        by_cases h : r = q
        · rw [if_pos h, if_pos h.symm]; rfl
        · rw [if_neg h, if_neg (fun e => h e.symm), if_neg (fun e => h e.symm)]
      · rename_i h3 h4
        rw [binAt_cons]
        dsimp only
        by_cases h : r = p
        · rw [if_pos h, if_pos h.symm]
          have : binAt ((q, m) :: t) p = none := binAt_none (fun b hb => by
            rcases List.mem_cons.1 hb with rfl | hb
            · show p < q; omega
            · have h5 : q < b.1 := h2 b hb
              omega)
          rw [this]; rfl
        · rw [if_neg h, if_neg (fun e => h e.symm)]
def BinsU (l : List (Int × Int)) : Prop := ∀ b ∈ l, U64 b.2
theorem binAt_u64 {l : List (Int × Int)} (h : BinsU l) {p x : Int} (hx : binAt l p = some x) : U64 x := by
  unfold binAt at hx
  cases hf : l.find? (fun b => b.1 == p) with
  | none => rw [hf] at hx; cases hx
  | some b =>
    rw [hf] at hx
    simp only [Option.map_some, Option.some.injEq] at hx
    rw [← hx]
    exact h b (List.mem_of_find?_eq_some hf)
theorem binPut_u64 : ∀ (l : List (Int × Int)) (p n : Int), BinsU l → U64 n → BinsU (binPut l p n)
  | [], p, n, _, hn => by intro b hb; simp [binPut] at hb; rw [hb]; exact hn
  | (q, m) :: t, p, n, h, hn => by
    have ht : BinsU t := fun b hb => h b (List.mem_cons_of_mem _ hb)
    unfold binPut
    split
    · intro b hb
      rcases List.mem_cons.1 hb with rfl | hb
      · exact h _ List.mem_cons_self
      · exact binPut_u64 t p n ht hn b hb
    · split
      · intro b hb
        rcases List.mem_cons.1 hb with rfl | hb
        · exact satI_u64 _ _ (h (q, m) List.mem_cons_self) hn
        · exact ht b hb
      · intro b hb
        rcases List.mem_cons.1 hb with rfl | hb
        · exact hn
        · exact h b hb
theorem satI_0 (n : Int) (hn : U64 n) : satI 0 n = n := by
  unfold U64 satI at *
  split <;> omega
theorem hiPuts_up : ∀ (l a : List (Int × Int)), BinUp a → BinUp (hiPuts a l)
  | [], _, h => h
  | b :: l, a, h => hiPuts_up l _ (binPut_up a b.1 b.2 h)
theorem hiPuts_u64 : ∀ (l a : List (Int × Int)), BinsU a → BinsU l → BinsU (hiPuts a l)
  | [], _, h, _ => h
  | b :: l, a, h, hl => hiPuts_u64 l _ (binPut_u64 a b.1 b.2 h (hl b List.mem_cons_self)) (fun c hc => hl c (List.mem_cons_of_mem _ hc))
theorem hiDone_up {l : List (Int × Int)} (h : BinUp l) : BinUp (hiDone l) := h.sublist List.filter_sublist
theorem hiDone_u64 {l : List (Int × Int)} (h : BinsU l) : BinsU (hiDone l) := fun b hb => h b (List.mem_filter.1 hb).1
theorem hiDone_pos {l : List (Int × Int)} : ∀ b ∈ hiDone l, b.2 ≠ 0 := fun b hb => by simpa using (List.mem_filter.1 hb).2
theorem half_bins {l : List (Int × Int)} (h : ∀ b ∈ l, b.2 ≠ 0) (hu : BinsU l) : (∀ b ∈ l.map fun b => (hiHalf b.1, b.2), b.2 ≠ 0) ∧ BinsU (l.map fun b => (hiHalf b.1, b.2)) :=
  ⟨fun c hc => by obtain ⟨d, hd, rfl⟩ := List.mem_map.1 hc; exact h d hd, fun c hc => by obtain ⟨d, hd, rfl⟩ := List.mem_map.1 hc; exact hu d hd⟩
theorem binPut_len : ∀ (l : List (Int × Int)) (p n : Int), (binPut l p n).length ≤ l.length + 1
  | [], _, _ => by simp [binPut]
  | (q, m) :: t, p, n => by
    have := binPut_len t p n
    unfold binPut
    split
    · simp only [List.length_cons]; omega
    · split <;> simp
theorem hiPuts_len : ∀ (l a : List (Int × Int)), (hiPuts a l).length ≤ a.length + l.length
  | [], _ => by simp [hiPuts]
  | b :: l, a => by
    have h1 := hiPuts_len l (binPut a b.1 b.2)
    have h2 := binPut_len a b.1 b.2
    show (hiPuts (binPut a b.1 b.2) l).length ≤ _
    simp only [List.length_cons]
    omega
theorem hiDone_len (l : List (Int × Int)) : (hiDone l).length ≤ l.length := List.length_filter_le _ _
theorem hiLow_len (l : List (Int × Int)) : (hiLow l).length ≤ l.length := by
  have h1 := hiDone_len (hiPuts [] (l.map fun b => (hiHalf b.1, b.2)))
  have h2 := hiPuts_len (l.map fun b => (hiHalf b.1, b.2)) []
  simp only [List.length_map, List.length_nil] at h2
  unfold hiLow
  omega
end Go.Proofs.YtpnlmfilmbodfaaGreatDoor
