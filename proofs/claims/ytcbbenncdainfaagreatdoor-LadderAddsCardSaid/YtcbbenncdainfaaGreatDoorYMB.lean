/- Package hll: Lower. Counters as plain data: a number added, half as many columns. No program in sight. Histograms as plain data: bins put into rising bins, buckets half as fine. No program in sight. Sketches at work as plain data: a number added, one level lower. No program in sight. Sketches at work as plain data: two merged. No program in sight. Package hll: Merge. -/
import Derived.Test.YtcbbenncdainfaaGreatDoorYHE
namespace Go.Proofs.YtcbbenncdainfaaGreatDoor
open Go Go.RowKit Go.Shelf
def lowK (b : Nat) (r : List Nat) (k : Nat) : List Nat := (List.range (2 ^ (b - 1))).map fun i => if i < k then max (upR (r.getD (2 * i) 0)) (oneR (r.getD (2 * i + 1) 0)) else 0
theorem lowK_len (b : Nat) (r : List Nat) (k : Nat) : (lowK b r k).length = 2 ^ (b - 1) := by simp [lowK]
theorem lowK_at (b : Nat) (r : List Nat) (k i : Nat) (hi : i < 2 ^ (b - 1)) : (lowK b r k).getD i 0 = if i < k then max (upR (r.getD (2 * i) 0)) (oneR (r.getD (2 * i + 1) 0)) else 0 := by
 simp [lowK, List.getD_eq_getElem?_getD, hi]
theorem lowK_0 (b : Nat) (r : List Nat) : lowK b r 0 = hlNone (b - 1) := by
 refine getD_ext _ _ (by rw [lowK_len]; simp [hlNone]) (fun i hi => ?_)
 rw [lowK_len] at hi
 rw [lowK_at _ _ _ _ hi, if_neg (by omega)]
 simp [hlNone, List.getD_eq_getElem?_getD, hi]
theorem lowK_all (b : Nat) (r : List Nat) : lowK b r (2 ^ (b - 1)) = hlLow b r := by
 refine getD_ext _ _ (by rw [lowK_len, hlLow_len]) (fun i hi => ?_)
 rw [lowK_len] at hi
 rw [lowK_at _ _ _ _ hi, if_pos hi, low_at _ _ _ hi]
theorem lowK_step (b : Nat) (r : List Nat) (k : Nat) : hlTell (hlTell (lowK b r k) k (upR (r.getD (2 * k) 0))) k (oneR (r.getD (2 * k + 1) 0)) = lowK b r (k + 1) := by
 refine getD_ext _ _ (by simp only [hlTell_len, lowK_len]) (fun i hi => ?_)
 simp only [hlTell_len, lowK_len] at hi
 rw [tell_at, tell_at, lowK_at _ _ _ _ hi, lowK_at _ _ _ _ hi, hlTell_len, lowK_len]
 by_cases h : k = i
 ·subst h
  rw [if_pos ⟨rfl, hi⟩, if_pos ⟨rfl, hi⟩, if_neg (by omega), if_pos (by omega)]
  omega
 ·rw [if_neg (fun e => h e.1), if_neg (fun e => h e.1)]
  by_cases h2 : i < k
  ·rw [if_pos h2, if_pos (by omega)]
  ·rw [if_neg h2, if_neg (by omega)]
theorem tell_zero (r : List Nat) (p : Nat) : hlTell r p 0 = r := by
 refine getD_ext _ _ (hlTell_len _ _ _) (fun i _ => ?_)
 rw [tell_at]
 split <;> omega
theorem str_byte (r : List Nat) (h : ∀ x ∈ r, x < 256) (i : Nat) (hi : i < (hlStr r).size) : ((hlStr r)[i]'hi).toNat = r.getD i 0 := by
 have h1 := hlStr_nums r h
 have h2 : (hlStr r).data.toList[i]? = some ((hlStr r)[i]'hi) := by
  rw [List.getElem?_eq_getElem (by rw [Array.length_toList]; exact hi)]; rfl
 have h3 : r[i]? = some ((hlStr r)[i]'hi).toNat := by
  conv => lhs; rw [← h1]
  rw [List.getElem?_map, h2]; rfl
 rw [List.getD_eq_getElem?_getD, h3]; rfl
set_option maxRecDepth 100000 in
set_option maxHeartbeats 2000000 in
theorem hLower_any (b : Nat) (r : List Nat) (w : World) (h1 : 4 ≤ b) (h2 : b ≤ 8) (hl : r.length = 2 ^ b) (hr : ∀ i, r.getD i 0 ≤ 65 - b) :
  Calls Tryz.prog 167 #[.agg #[.int .i64 b, .string (hlStr r)]] w fun e w' => e = .returned (.tuple #[.agg #[.int .i64 ((b - 1 : Nat) : Int), .string (hlStr (hlLow b r))], .int .i64 0]) ∧ Below w.heap.size w w' := by
 have hR : Hid (∀ w1, Calls Tryz.prog 96 #[.agg #[.int .i64 b, .string (hlStr r)]] w1 fun e w' => e = .returned (.bool true) ∧ Below w1.heap.size w1 w') := fun w1 => (hll_Right_any b (hlStr r) w1).mono fun e w' h => ⟨by rw [h.1, hlRight_str b r (by omega) h2 hl hr], h.2⟩
 have hB : Hid (∀ w, Calls Tryz.prog 142 #[.int .i64 ((b : Int) - 1)] w fun e w' => ∃ g, e = .returned (.tuple #[.agg #[.int .i64 ((b : Int) - 1), .string ⟨#[]⟩, .slice (some ⟨g, 0, none⟩) (2 ^ (b - 1)) (2 ^ (b - 1)), .func (.func 148) #[] #[]], .nilIface]) ∧ RegsAt w' g (hlNone (b - 1)) ∧ w.heap.size ≤ g ∧ Below w.heap.size w w') := fun w => by
  have := blank_any (b - 1) w (by omega) (by omega)
  rw [show (((b - 1 : Nat)) : Int) = (b : Int) - 1 by omega] at this
  exact this
 have hby : Hid (∀ (i : Nat) (hi : i < (hlStr r).size), ((hlStr r)[i]'hi).toNat = r.getD i 0) := fun i hi => str_byte r (fun x hx => by have := le_getD hr x hx; omega) i hi
 have hz := hlStr_size r
 rw [hl] at hz
 rw [show (((b - 1 : Nat)) : Int) = (b : Int) - 1 by omega]
 obtain ⟨out, hout⟩ : ∃ out, hlStr (hlLow b r) = out := ⟨_, rfl⟩
 rw [hout]
 have HOUT := Lib.hid hout
 have HRG := Lib.hid hr
 generalize hlStr r = s at hR hby hz ⊢
 have HZ := Lib.hid hz
 have H12 : Hid (4 ≤ b ∧ b ≤ 8) := ⟨h1, h2⟩
 obtain ⟨W0, hW0, hXp, hX0, hB0, hs0⟩ := boxes2 w #[.int .i64 b, .string s] 26 #[.int .i64 0, .string ⟨#[]⟩] 26
 have HX0 := Lib.hid hX0
 have HXP := Lib.hid hXp
 obtain ⟨z0, z1⟩ := cl2 hXp
 clear hX0 hl hr hXp hout hz
 go_enter Tryz.func167, Tryz.ntmps167
 go_wp2_with fail
 refine (hR.out _).mono ?_
 rintro e w1 ⟨rfl, hb1⟩
 have hXp1 := known hb1 (Nat.le_refl _) HXP.out
 obtain ⟨y0, y1⟩ := cl2 hXp1
 go_wp2_with fail
 refine (hB.out _).mono ?_
 rintro e w2 ⟨g, rfl, hr2, hg2, hb2⟩
 obtain ⟨W2, hW2, hX2, hB2, hs2⟩ := boxes1 w2 #[.int .i64 ((b : Int) - 1), .string ⟨#[]⟩, .slice (some ⟨g, 0, none⟩) (2 ^ (b - 1)) (2 ^ (b - 1)), .nilFunc] 210
 have hst := st_fn (off := 3) hX2 rfl (.func 148)
 obtain ⟨W3, hW3⟩ : ∃ W3, W2.setCell ⟨w2.heap.size, 3, none⟩ (.func (.func 148) #[] #[]) = W3 := ⟨_, rfl⟩
 have hX3 : W3.heap[w2.heap.size]? = some (.cells #[.int .i64 ((b : Int) - 1), .string ⟨#[]⟩, .slice (some ⟨g, 0, none⟩) (2 ^ (b - 1)) (2 ^ (b - 1)), .func (.func 148) #[] #[]] 210 (0, 0)) := by rw [← hW3]; exact hSk hX2 _
 have hgl := hr2.lt
 have hB23 : Below w2.heap.size w2 W3 := by rw [← hW3]; exact hB2.setCell (p := ⟨w2.heap.size, 3, none⟩) (Nat.le_refl _) _
 have hs3 : W3.heap.size = w2.heap.size + 1 := by rw [← hW3, size_set, hs2]
 have hB02 : Below w.heap.size w w2 := (hB0.trans (hb1.mono hB0.size)).trans (hb2.mono (by have := hb1.size; omega))
 have hBw : Below w.heap.size w W3 := hB02.trans (hB23.mono hB02.size)
 have hr3 := hr2.go hB23
 obtain ⟨c0, c1, c2, c3⟩ := cl4 hX3
 have hN8 : 2 ^ (b - 1) ≤ 2 ^ 7 := Nat.pow_le_pow_right (by omega) (by have := H12.out.2; omega)
 have hw : wrap64 (2 ^ (b - 1)) = ((2 ^ (b - 1) : Nat) : Int) := by
  have h9 : ∀ n : Nat, n ≤ 128 → wrap64 (n : Int) = n := fun n h => wrap64_nat n (by omega)
  simpa using h9 (2 ^ (b - 1)) hN8
 have hZN : Hid (s.size = 2 * 2 ^ (b - 1)) := by have := HZ.out; rw [← Nat.pow_succ', show (b - 1).succ = b by have := H12.out.1; omega]; exact this
 have HK0 := Lib.hid (lowK_0 b r)
 have HKA := Lib.hid (lowK_all b r)
 have HKL := Lib.hid (fun k => lowK_len b r k)
 generalize 2 ^ (b - 1) = N at hN8 hw hZN HKA HKL c2 hX3 hr3 hW2 hX2 ⊢
 have HT : Hid (∀ (W : World) (rr : List Nat) (p q : Nat), RegsAt W g rr → rr.length = N → p < N → Calls Tryz.prog 151 #[.agg #[.int .i64 ((b : Int) - 1), .string ⟨#[]⟩, .slice (some ⟨g, 0, none⟩) N N, .func (.func 148) #[] #[]], .int .i64 p, .int .u8 q] W fun e w' => e = .returned (.tuple #[]) ∧ RegsAt w' g (hlTell rr p q) ∧ W.grownBy w' (some g)) := fun W rr p q h hlen hp => tell_any _ _ g N N p q rr W h (by omega) hlen
 have HBX : Hid (∀ W, W3.grownBy W (some g) → W.heap[w2.heap.size]? = some (.cells #[.int .i64 ((b : Int) - 1), .string ⟨#[]⟩, .slice (some ⟨g, 0, none⟩) N N, .func (.func 148) #[] #[]] 210 (0, 0)) ∧ W.heap[w.heap.size]? = some (.cells #[.int .i64 b, .string s] 26 (0, 0)) ∧ W.heap[w.heap.size + 1]? = some (.cells #[.int .i64 0, .string ⟨#[]⟩] 26 (0, 0))) := fun W hG => by
  have h1 := hb1.size
  have h2 := hb2.size
  refine ⟨(hG.block _ (Array.getElem?_eq_some_iff.1 hX3).1 (fun e => by cases e; omega)).trans hX3, ?_, ?_⟩
  ·exact (hG.block w.heap.size (by omega) (fun e => by cases e; omega)).trans (known (hb2.trans (hB23.mono hb2.size)) (Nat.le_refl _) hXp1)
  ·exact (hG.block (w.heap.size + 1) (by omega) (fun e => by cases e; omega)).trans (known (hb2.trans (hB23.mono hb2.size)) (Nat.le_refl _) (known hb1 (Nat.le_refl _) HX0.out))
 have HBW := Lib.hid hBw
 have HGG : Hid (w.heap.size ≤ g) := by have := hb1.size; show w.heap.size ≤ g; omega
 clear hX2 hX3 hXp1 hB2 hB23 hb1 hb2 hBw hB02 hR hB hr2
 go_wp2_with fail
 rw [hw]
 go_loopw [6, 7, 28] (fun _ _ i wr => ∃ k : Nat, k ≤ N ∧ i = .int .i64 k ∧ RegsAt wr g (lowK b r k) ∧ W3.grownBy wr (some g)) (fun _ _ i _ => N - (intOf i).toNat)
 case atStart => exact ⟨0, Nat.zero_le _, rfl, by rw [HK0.out]; exact hr3, World.grownBy.refl _ _⟩
 case round =>
  obtain ⟨k, hk, rfl, hR, hG⟩ := hrel
  obtain ⟨hX5, hXp5, hX05⟩ := HBX.out wr hG
  obtain ⟨d0, d1, d2, d3⟩ := cl4 hX5
  obtain ⟨u0, u1⟩ := cl2 hXp5
  have HG := Lib.hid hG
  by_cases hlt : k < N
  ·have hs1 : 2 * k < s.size := by have := hZN.out; omega
   have hs2 : 2 * k + 1 < s.size := by have := hZN.out; omega
   have ex := hby.out (2 * k) hs1
   have ey := hby.out (2 * k + 1) hs2
   have HS := Lib.hid (lowK_step b r k)
   have hx256 : r.getD (2 * k) 0 ≤ 65 := by have := HRG.out (2 * k); omega
   generalize r.getD (2 * k) 0 = x at ex HS hx256
   generalize r.getD (2 * k + 1) 0 = y at ey HS
   have hlk := HKL.out k
   generalize lowK b r k = r0 at hR HS hlk
   have hm : ((x : Int) + 1) % 256 = ((x + 1 : Nat) : Int) := by omega
   clear hX5 hXp5 hX05 hG
   by_cases hx : x = 0
   ·subst hx
    by_cases hy : y = 0
    ·subst hy
     go_wp2_with fail
     go_roundw
     case rel => exact ⟨k + 1, by omega, by simp, by rw [← HS.out]; show RegsAt _ g (hlTell (hlTell r0 k 0) k 0); rw [tell_zero, tell_zero]; exact hR, HG.out⟩
     case measure => simp [intOf]; omega
    ·have t1 : ((y : Int) != 0) = true := by rw [bne_iff_ne]; omega
     go_wp2_with fail
     refine (HT.out wr r0 k 1 hR hlk hlt).mono ?_
     rintro e w6 ⟨rfl, hR6, hG6⟩
     go_wp2_with fail
     go_roundw
     case rel => exact ⟨k + 1, by omega, by simp, by rw [← HS.out]; show RegsAt _ g (hlTell (hlTell r0 k 0) k (oneR y)); rw [tell_zero, show oneR y = 1 from if_neg hy]; exact hR6, HG.out.trans hG6⟩
     case measure => simp [intOf]; omega
   ·have t0 : ((x : Int) != 0) = true := by rw [bne_iff_ne]; omega
    have hux : upR x = x + 1 := if_neg hx
    rw [hux] at HS
    go_wp2_with fail
    refine (HT.out wr r0 k (x + 1) hR hlk hlt).mono ?_
    rintro e w6 ⟨rfl, hR6, hG6⟩
    obtain ⟨hX6, hXp6, hX06⟩ := HBX.out w6 (HG.out.trans hG6)
    obtain ⟨a0, a1, a2, a3⟩ := cl4 hX6
    obtain ⟨v0, v1⟩ := cl2 hXp6
    by_cases hy : y = 0
    ·subst hy
     clear hX6 hXp6 hX06
     go_wp2_with fail
     go_roundw
     case rel => exact ⟨k + 1, by omega, by simp, by rw [← HS.out]; show RegsAt _ g (hlTell (hlTell r0 k (x + 1)) k 0); rw [tell_zero]; exact hR6, HG.out.trans hG6⟩
     case measure => simp [intOf]; omega
    ·have t1 : ((y : Int) != 0) = true := by rw [bne_iff_ne]; omega
     clear hX6 hXp6 hX06
     go_wp2_with fail
     refine (HT.out w6 _ k 1 hR6 (by rw [hlTell_len]; exact hlk) hlt).mono ?_
     rintro e w7 ⟨rfl, hR7, hG7⟩
     go_wp2_with fail
     go_roundw
     case rel => exact ⟨k + 1, by omega, by simp, by rw [← HS.out, show oneR y = 1 from if_neg hy]; exact hR7, (HG.out.trans hG6).trans hG7⟩
     case measure => simp [intOf]; omega
  ·obtain rfl : k = N := by omega
   have hD := hdone_any ((b : Int) - 1) ⟨#[]⟩ g k k (.func (.func 148) #[] #[]) _ wr hR (HKL.out k)
   rw [HKA.out, HOUT.out] at hD
   have hB4 : Below w.heap.size w wr := HBW.out.grown HG.out HBW.out.size (fun j e => by cases e; exact HGG.out)
   clear hR hX5 hXp5 hG
   go_wp2_with fail
   refine hD.mono ?_
   rintro e w5 ⟨rfl, hb5⟩
   have hX5 := known hb5 (Nat.le_refl _) hX05
   have hB5 := hB4.trans (hb5.mono hB4.size)
   obtain ⟨q0, q1⟩ := cl2 hX5
   obtain ⟨f0, f1⟩ := cz2 hX5
   have hX6 := set_cells2 (u := .int .i64 ((b : Int) - 1)) (v := .string out) hX5
   have hB6 := (hB5.setCell (p := ⟨w.heap.size + 1, 0, none⟩) (Nat.le_succ _) (.int .i64 ((b : Int) - 1))).setCell (p := ⟨w.heap.size + 1, 1, none⟩) (Nat.le_succ _) (.string out)
   go_wp2_with fail
   generalize (w5.setCell ⟨w.heap.size + 1, 0, none⟩ (.int .i64 ((b : Int) - 1))).setCell ⟨w.heap.size + 1, 1, none⟩ (.string out) = V at hX6 hB6 ⊢
   obtain ⟨j0, j1⟩ := cl2 hX6
   exact bodyPost_ret (v := .tuple #[.agg #[.int .i64 ((b : Int) - 1), .string out], .int .i64 0]) (by simp [results, Tryz.f167, go_sem, j0, j1]) rfl ⟨rfl, hB6⟩
end Go.Proofs.YtcbbenncdainfaaGreatDoor
namespace Go.Proofs.YtcbbenncdainfaaGreatDoor
open Go Go.RowKit
def satI (a b : Int) : Int := if 18446744073709551615 - a < b then 18446744073709551615 else a + b
def cmPl (c row h : Nat) : Nat := row * c + (h / 4294967296 + row * (h % 4294967296)) % c
def cmPut (l : List Int) (p : Nat) (n : Int) : List Int := l.set p (satI (l.getD p 0) n)
def cmAdd (c : Nat) (l : List Int) (h : Nat) (n : Int) : List Int := cmPut (cmPut l (cmPl c 0 h) n) (cmPl c 1 h) n
def cmLow (c : Nat) (l : List Int) : List Int := (List.range (c / 2 + c / 2)).map fun p => satI (l.getD (p / (c / 2) * c + p % (c / 2)) 0) (l.getD (p / (c / 2) * c + p % (c / 2) + c / 2) 0)
def cmNone (c : Nat) : List Int := List.replicate (c + c) 0
theorem satI_u64 (a b : Int) (ha : U64 a) (hb : U64 b) : U64 (satI a b) := by
 unfold U64 satI at *
 split <;> omega
theorem u64_0 : U64 0 := by unfold U64; omega
theorem getD_u64 (l : List Int) (h : U64s l) (i : Nat) : U64 (l.getD i 0) := by
 by_cases hi : i < l.length
 ·rw [List.getD_eq_getElem?_getD, List.getElem?_eq_getElem hi]
  exact h _ (List.getElem_mem _)
 ·rw [List.getD_eq_getElem?_getD, List.getElem?_eq_none (by omega)]
  exact u64_0
theorem getD_setI (r : List Int) (p i : Nat) (v : Int) : (r.set p v).getD i 0 = if p = i ∧ i < r.length then v else r.getD i 0 := by
 simp only [List.getD_eq_getElem?_getD, List.getElem?_set]
 by_cases h : p = i
 ·subst h
  by_cases hl : p < r.length
  ·simp [hl]
  ·simp [hl]
 ·simp [h]
theorem getD_extI (r s : List Int) (hl : r.length = s.length) (h : ∀ i, i < r.length → r.getD i 0 = s.getD i 0) : r = s := by
 apply List.ext_getElem hl
 intro i h1 h2
 have := h i h1
 simpa [List.getD_eq_getElem?_getD, List.getElem?_eq_getElem h1, List.getElem?_eq_getElem h2] using this
theorem cmPut_len (l : List Int) (p : Nat) (n : Int) : (cmPut l p n).length = l.length := by simp [cmPut]
theorem cmAdd_len (c : Nat) (l : List Int) (h : Nat) (n : Int) : (cmAdd c l h n).length = l.length := by rw [cmAdd, cmPut_len, cmPut_len]
theorem cmPut_u64 (l : List Int) (p : Nat) (n : Int) (hl : U64s l) (hn : U64 n) : U64s (cmPut l p n) := by
 intro x hx
 rcases List.mem_or_eq_of_mem_set hx with h | rfl
 ·exact hl x h
 ·exact satI_u64 _ _ (getD_u64 l hl p) hn
theorem cmAdd_u64 (c : Nat) (l : List Int) (h : Nat) (n : Int) (hl : U64s l) (hn : U64 n) : U64s (cmAdd c l h n) := cmPut_u64 _ _ _ (cmPut_u64 _ _ _ hl hn) hn
theorem cmLow_len (c : Nat) (l : List Int) : (cmLow c l).length = c / 2 + c / 2 := by simp [cmLow]
theorem cmLow_at (c : Nat) (l : List Int) (p : Nat) (hp : p < c / 2 + c / 2) : (cmLow c l).getD p 0 = satI (l.getD (p / (c / 2) * c + p % (c / 2)) 0) (l.getD (p / (c / 2) * c + p % (c / 2) + c / 2) 0) := by
 simp [cmLow, List.getD_eq_getElem?_getD, hp]
theorem cmLow_u64 (c : Nat) (l : List Int) (hl : U64s l) : U64s (cmLow c l) := by
 intro x hx
 obtain ⟨p, -, rfl⟩ := List.mem_map.1 hx
 exact satI_u64 _ _ (getD_u64 l hl _) (getD_u64 l hl _)
end Go.Proofs.YtcbbenncdainfaaGreatDoor
namespace Go.Proofs.YtcbbenncdainfaaGreatDoor
open Go Go.RowKit
abbrev BinUp (l : List (Int × Int)) : Prop := l.Pairwise (fun a b => a.1 < b.1)
def binPut : List (Int × Int) → Int → Int → List (Int × Int)
 | [], p, n => [(p, n)]
 | (q, m) :: t, p, n => if q < p then (q, m) :: binPut t p n else if q = p then (q, satI m n) :: t else (p, n) :: (q, m) :: t
def binAt (l : List (Int × Int)) (p : Int) : Option Int := (l.find? (fun b => b.1 == p)).map (·.2)
def binUp (o : Option Int) (n : Int) : Int := match o with
 | some x => satI x n
 | none => n
def hiDone (l : List (Int × Int)) : List (Int × Int) := l.filter (fun b => b.2 != 0)
def hiHalf (p : Int) : Int := if p = 0 then 0 else 1 + (p - 1) / 2
def hiBk (f : Int) (v : Nat) : Int := if v = 0 then 0 else 1 + ((Lib.bitLen v - 1) * 2 ^ f.toNat + v * 2 ^ (64 - (Lib.bitLen v - 1)) % 2 ^ 64 / 2 ^ (64 - f.toNat) : Nat)
def hiAdd (f : Int) (l : List (Int × Int)) (v : Nat) (n : Int) : List (Int × Int) := hiDone (binPut l (hiBk f v) n)
def hiPuts (acc : List (Int × Int)) (l : List (Int × Int)) : List (Int × Int) := l.foldl (fun a b => binPut a b.1 b.2) acc
def hiLow (l : List (Int × Int)) : List (Int × Int) := hiDone (hiPuts [] (l.map fun b => (hiHalf b.1, b.2)))
theorem binUp_tail {b : Int × Int} {t : List (Int × Int)} (h : BinUp (b :: t)) : BinUp t ∧ ∀ c ∈ t, b.1 < c.1 := ⟨(List.pairwise_cons.1 h).2, (List.pairwise_cons.1 h).1⟩
theorem binPut_mem : ∀ (l : List (Int × Int)) (p n : Int) (b : Int × Int), b ∈ binPut l p n → b.1 = p ∨ b ∈ l
 | [], p, n, b, h => by simp [binPut] at h; exact .inl (by rw [h])
 | (q, m) :: t, p, n, b, h => by
  unfold binPut at h
  split at h
  ·rcases List.mem_cons.1 h with rfl | h
   ·exact .inr List.mem_cons_self
   ·rcases binPut_mem t p n b h with h | h
    ·exact .inl h
    ·exact .inr (List.mem_cons_of_mem _ h)
  ·split at h
   ·rename_i h1 h2
    rcases List.mem_cons.1 h with rfl | h
    ·exact .inl h2
    ·exact .inr (List.mem_cons_of_mem _ h)
   ·rcases List.mem_cons.1 h with rfl | h
    ·exact .inl rfl
    ·exact .inr h
theorem binPut_up : ∀ (l : List (Int × Int)) (p n : Int), BinUp l → BinUp (binPut l p n)
 | [], p, n, _ => by simp [binPut]
 | (q, m) :: t, p, n, h => by
  obtain ⟨h1, h2⟩ := binUp_tail h
  unfold binPut
  split
  ·rename_i hq
   refine List.pairwise_cons.2 ⟨fun b hb => ?_, binPut_up t p n h1⟩
   rcases binPut_mem t p n b hb with e | hb
   ·rw [e]; exact hq
   ·exact h2 b hb
  ·split
   ·exact List.pairwise_cons.2 ⟨h2, h1⟩
   ·rename_i h3 h4
    refine List.pairwise_cons.2 ⟨fun b hb => ?_, h⟩
    show p < b.1
    rcases List.mem_cons.1 hb with rfl | hb
    ·show p < q; omega
    ·have h5 : q < b.1 := h2 b hb
     omega
theorem binAt_cons (b : Int × Int) (t : List (Int × Int)) (p : Int) : binAt (b :: t) p = if b.1 = p then some b.2 else binAt t p := by
 unfold binAt
 rw [List.find?_cons]
 by_cases h : b.1 = p
 ·simp [h]
 ·rw [if_neg h, beq_eq_false_iff_ne.2 h]
theorem binAt_none {t : List (Int × Int)} {p : Int} (h : ∀ b ∈ t, p < b.1) : binAt t p = none := by
 unfold binAt
 rw [List.find?_eq_none.2 (fun b hb => by have := h b hb; simp; omega)]
 rfl
theorem binAt_put : ∀ (l : List (Int × Int)) (p n r : Int), BinUp l → binAt (binPut l p n) r = if r = p then some (binUp (binAt l p) n) else binAt l r
 | [], p, n, r, _ => by
  unfold binPut
  rw [binAt_cons]
  by_cases h : r = p
  ·rw [if_pos h, if_pos h.symm]; rfl
  ·rw [if_neg h, if_neg (fun e => h e.symm)]
 | (q, m) :: t, p, n, r, hu => by
  obtain ⟨h1, h2⟩ := binUp_tail hu
  unfold binPut
  split
  ·rename_i hq
   rw [binAt_cons, binAt_put t p n r h1, binAt_cons (q, m) t p, binAt_cons (q, m) t r]
   dsimp only
   rw [if_neg (by omega : ¬ q = p)]
   by_cases h : r = p
   ·rw [if_pos h, if_neg (by omega), if_pos h]
   ·rw [if_neg h, if_neg h]
  ·split
   ·rename_i h3 h4
    subst h4
    rw [binAt_cons, binAt_cons, binAt_cons]
    dsimp only
    rw [if_pos rfl]
    by_cases h : r = q
    ·rw [if_pos h, if_pos h.symm]; rfl
    ·rw [if_neg h, if_neg (fun e => h e.symm), if_neg (fun e => h e.symm)]
   ·rename_i h3 h4
    rw [binAt_cons]
    dsimp only
    by_cases h : r = p
    ·rw [if_pos h, if_pos h.symm]
     have : binAt ((q, m) :: t) p = none := binAt_none (fun b hb => by
      rcases List.mem_cons.1 hb with rfl | hb
      ·show p < q; omega
      ·have h5 : q < b.1 := h2 b hb
       omega)
     rw [this]; rfl
    ·rw [if_neg h, if_neg (fun e => h e.symm)]
def BinsU (l : List (Int × Int)) : Prop := ∀ b ∈ l, U64 b.2
theorem binAt_u64 {l : List (Int × Int)} (h : BinsU l) {p x : Int} (hx : binAt l p = some x) : U64 x := by
 unfold binAt at hx
 cases hf : l.find? (fun b => b.1 == p) with
 | none => rw [hf] at hx; cases hx
 | some b =>
  rw [hf] at hx
  simp only [Option.map_some, Option.some.injEq] at hx
  rw [← hx]
  exact h b (List.mem_of_find?_eq_some hf)
theorem binPut_u64 : ∀ (l : List (Int × Int)) (p n : Int), BinsU l → U64 n → BinsU (binPut l p n)
 | [], p, n, _, hn => by intro b hb; simp [binPut] at hb; rw [hb]; exact hn
 | (q, m) :: t, p, n, h, hn => by
  have ht : BinsU t := fun b hb => h b (List.mem_cons_of_mem _ hb)
  unfold binPut
  split
  ·intro b hb
   rcases List.mem_cons.1 hb with rfl | hb
   ·exact h _ List.mem_cons_self
   ·exact binPut_u64 t p n ht hn b hb
  ·split
   ·intro b hb
    rcases List.mem_cons.1 hb with rfl | hb
    ·exact satI_u64 _ _ (h (q, m) List.mem_cons_self) hn
    ·exact ht b hb
   ·intro b hb
    rcases List.mem_cons.1 hb with rfl | hb
    ·exact hn
    ·exact h b hb
theorem satI_0 (n : Int) (hn : U64 n) : satI 0 n = n := by
 unfold U64 satI at *
 split <;> omega
theorem satI_pos (a b : Int) (ha : U64 a) (hb : U64 b) (h : a ≠ 0 ∨ b ≠ 0) : satI a b ≠ 0 := by
 unfold U64 satI at *
 split <;> omega
theorem hiPuts_up : ∀ (l a : List (Int × Int)), BinUp a → BinUp (hiPuts a l)
 | [], _, h => h
 | b :: l, a, h => hiPuts_up l _ (binPut_up a b.1 b.2 h)
theorem hiPuts_u64 : ∀ (l a : List (Int × Int)), BinsU a → BinsU l → BinsU (hiPuts a l)
 | [], _, h, _ => h
 | b :: l, a, h, hl => hiPuts_u64 l _ (binPut_u64 a b.1 b.2 h (hl b List.mem_cons_self)) (fun c hc => hl c (List.mem_cons_of_mem _ hc))
theorem hiPuts_self : ∀ (l a : List (Int × Int)), BinUp (a ++ l) → hiPuts a l = a ++ l
 | [], a, _ => by simp [hiPuts]
 | b :: l, a, h => by
  have key : ∀ (a : List (Int × Int)), (∀ c ∈ a, c.1 < b.1) → binPut a b.1 b.2 = a ++ [b] := by
   intro a
   induction a with
   | nil => intro _; rfl
   | cons c a ih =>
    intro hc
    unfold binPut
    rw [if_pos (hc c List.mem_cons_self), ih (fun d hd => hc d (List.mem_cons_of_mem _ hd))]
    rfl
  have h1 : binPut a b.1 b.2 = a ++ [b] := key a (fun c hc => (List.pairwise_append.1 h).2.2 c hc b List.mem_cons_self)
  show hiPuts (binPut a b.1 b.2) l = _
  rw [h1, hiPuts_self l (a ++ [b]) (by rw [List.append_assoc]; exact h), List.append_assoc]
  rfl
theorem hiDone_up {l : List (Int × Int)} (h : BinUp l) : BinUp (hiDone l) := h.sublist List.filter_sublist
theorem hiDone_u64 {l : List (Int × Int)} (h : BinsU l) : BinsU (hiDone l) := fun b hb => h b (List.mem_filter.1 hb).1
theorem hiDone_pos {l : List (Int × Int)} : ∀ b ∈ hiDone l, b.2 ≠ 0 := fun b hb => by simpa using (List.mem_filter.1 hb).2
theorem hiDone_self {l : List (Int × Int)} (h : ∀ b ∈ l, b.2 ≠ 0) : hiDone l = l := List.filter_eq_self.2 (fun b hb => by simpa using h b hb)
theorem binPut_pos : ∀ (l : List (Int × Int)) (p n : Int), (∀ b ∈ l, b.2 ≠ 0) → BinsU l → U64 n → n ≠ 0 → ∀ b ∈ binPut l p n, b.2 ≠ 0
 | [], p, n, _, _, _, hn, b, hb => by simp [binPut] at hb; rw [hb]; exact hn
 | (q, m) :: t, p, n, h, hu, hn, h0, b, hb => by
  have ht : ∀ b ∈ t, b.2 ≠ 0 := fun b hb => h b (List.mem_cons_of_mem _ hb)
  unfold binPut at hb
  split at hb
  ·rcases List.mem_cons.1 hb with rfl | hb
   ·exact h _ List.mem_cons_self
   ·exact binPut_pos t p n ht (fun c hc => hu c (List.mem_cons_of_mem _ hc)) hn h0 b hb
  ·split at hb
   ·rcases List.mem_cons.1 hb with rfl | hb
    ·exact satI_pos _ _ (hu (q, m) List.mem_cons_self) hn (.inr h0)
    ·exact ht b hb
   ·rcases List.mem_cons.1 hb with rfl | hb
    ·exact h0
    ·exact h b hb
theorem binPut_zero : ∀ (l : List (Int × Int)) (p : Int), (∀ b ∈ l, b.2 ≠ 0) → BinsU l → hiDone (binPut l p 0) = l
 | [], p, _, _ => rfl
 | (q, m) :: t, p, h, hu => by
  have ht : ∀ b ∈ t, b.2 ≠ 0 := fun b hb => h b (List.mem_cons_of_mem _ hb)
  have hm : m ≠ 0 := h (q, m) List.mem_cons_self
  have hmu : U64 m := hu (q, m) List.mem_cons_self
  have hd : ∀ (x : Int) (s : List (Int × Int)), x ≠ 0 → hiDone ((q, x) :: s) = (q, x) :: hiDone s := fun x s hx => by
   unfold hiDone
   rw [List.filter_cons]
   simp [hx]
  unfold binPut
  split
  ·rw [hd _ _ hm, binPut_zero t p ht (fun c hc => hu c (List.mem_cons_of_mem _ hc))]
  ·split
   ·have e : satI m 0 = m := by
     unfold satI U64 at *
     split <;> omega
    rw [e, hd _ _ hm, hiDone_self ht]
   ·have e : hiDone ((p, 0) :: (q, m) :: t) = hiDone ((q, m) :: t) := by
     unfold hiDone
     rw [List.filter_cons]
     simp
    rw [e, hiDone_self h]
theorem hiPuts_pos : ∀ (l a : List (Int × Int)), (∀ b ∈ a, b.2 ≠ 0) → BinsU a → (∀ b ∈ l, b.2 ≠ 0) → BinsU l → ∀ b ∈ hiPuts a l, b.2 ≠ 0
 | [], _, h, _, _, _ => h
 | b :: l, a, h, hu, hl, hlu => hiPuts_pos l _ (binPut_pos a b.1 b.2 h hu (hlu b List.mem_cons_self) (hl b List.mem_cons_self)) (binPut_u64 _ _ _ hu (hlu b List.mem_cons_self)) (fun c hc => hl c (List.mem_cons_of_mem _ hc)) (fun c hc => hlu c (List.mem_cons_of_mem _ hc))
theorem half_bins {l : List (Int × Int)} (h : ∀ b ∈ l, b.2 ≠ 0) (hu : BinsU l) : (∀ b ∈ l.map fun b => (hiHalf b.1, b.2), b.2 ≠ 0) ∧ BinsU (l.map fun b => (hiHalf b.1, b.2)) :=
 ⟨fun c hc => by obtain ⟨d, hd, rfl⟩ := List.mem_map.1 hc; exact h d hd, fun c hc => by obtain ⟨d, hd, rfl⟩ := List.mem_map.1 hc; exact hu d hd⟩
theorem hiLow_eq {l : List (Int × Int)} (h : ∀ b ∈ l, b.2 ≠ 0) (hu : BinsU l) : hiLow l = hiPuts [] (l.map fun b => (hiHalf b.1, b.2)) := by
 obtain ⟨h1, h2⟩ := half_bins h hu
 exact hiDone_self (hiPuts_pos _ [] (fun b hb => by cases hb) (fun b hb => by cases hb) h1 h2)
theorem binPut_len : ∀ (l : List (Int × Int)) (p n : Int), (binPut l p n).length ≤ l.length + 1
 | [], _, _ => by simp [binPut]
 | (q, m) :: t, p, n => by
  have := binPut_len t p n
  unfold binPut
  split
  ·simp only [List.length_cons]; omega
  ·split <;> simp
theorem hiPuts_len : ∀ (l a : List (Int × Int)), (hiPuts a l).length ≤ a.length + l.length
 | [], _ => by simp [hiPuts]
 | b :: l, a => by
  have h1 := hiPuts_len l (binPut a b.1 b.2)
  have h2 := binPut_len a b.1 b.2
  show (hiPuts (binPut a b.1 b.2) l).length ≤ _
  simp only [List.length_cons]
  omega
theorem hiDone_len (l : List (Int × Int)) : (hiDone l).length ≤ l.length := List.length_filter_le _ _
end Go.Proofs.YtcbbenncdainfaaGreatDoor
namespace Go.Proofs.YtcbbenncdainfaaGreatDoor
open Go Go.RowKit
inductive Bd where
 | num (l : List Int)
 | reg (b : Nat) (r : List Nat)
 | cnt (c : Nat) (l : List Int)
 | bkt (f : Nat) (l : List (Int × Int))
def Bd.add : Bd → Nat → Int → Option Bd
 | .num l, h, _ => (exGather l [(h : Int)]).map .num
 | .reg b r, h, _ => some (.reg b (hlAdd b r h))
 | .cnt c l, h, n => some (.cnt c (cmAdd c l h n))
 | .bkt f l, h, n => some (.bkt f (hiAdd f l h n))
def Bd.low : Bd → Bd
 | .num l => .reg 7 (hlSum 7 (hlNone 7) (l.map Int.toNat))
 | .reg b r => .reg (b - 1) (hlLow b r)
 | .cnt c l => .cnt (c / 2) (cmLow c l)
 | .bkt f l => .bkt (f - 1) (hiLow l)
def Bd.Ok (kind level : Nat) : Bd → Prop
 | .num l => kind = 1 ∧ level = 0 ∧ Up l ∧ l.length ≤ 64 ∧ U64s l
 | .reg b r => kind = 1 ∧ 1 ≤ level ∧ level ≤ 4 ∧ b + level = 8 ∧ r.length = 2 ^ b ∧ ∀ i, r.getD i 0 ≤ 65 - b
 | .cnt c l => kind = 2 ∧ level ≤ 3 ∧ c * 2 ^ level = 32 ∧ l.length = c + c ∧ U64s l
 | .bkt f l => kind = 3 ∧ level ≤ 3 ∧ f + level = 3 ∧ BinUp l ∧ (∀ b ∈ l, b.2 ≠ 0) ∧ BinsU l ∧ ∀ b ∈ l, boundsB f b.1 = true
def botN (kind : Nat) : Nat := if kind = 1 then 4 else 3
def wkAdd (s : Nat × Bd) (i : Nat × Int) : Nat × Bd := match s.2.add i.1 i.2 with
 | some b => (s.1, b)
 | none => (s.1 + 1, (s.2.low.add i.1 i.2).getD s.2.low)
def Item.ok (i : Nat × Int) : Prop := i.1 < 2 ^ 64 ∧ U64 i.2
theorem bk_at (f : Nat) (hf : f ≤ 3) (v : Nat) (h0 : v ≠ 0) : ∃ p, p < 2 ^ f ∧ hiBk f v = 1 + ((Lib.bitLen v - 1) * 2 ^ f + p : Nat) := by
 refine ⟨v * 2 ^ (64 - (Lib.bitLen v - 1)) % 2 ^ 64 / 2 ^ (64 - f), ?_, ?_⟩
 ·rw [Nat.div_lt_iff_lt_mul (Nat.two_pow_pos _), ← Nat.pow_add, show f + (64 - f) = 64 by omega]
  exact Nat.mod_lt _ (by decide)
 ·unfold hiBk
  rw [if_neg h0, Int.toNat_natCast]
theorem isFine_nat (f : Nat) (hf : f ≤ 3) : isFineB (f : Int) = true := by simp [isFineB]; omega
theorem bounds_small : ∀ f ∈ [0, 1, 2, 3], ∀ v ∈ [1, 2, 3, 4, 5, 6, 7], boundsB ((f : Nat) : Int) (hiBk ((f : Nat) : Int) v) = true := by decide +kernel
theorem bounds_bk (f : Nat) (hf : f ≤ 3) (v : Nat) (hv : v < 2 ^ 64) : boundsB f (hiBk f v) = true := by
 by_cases h0 : v = 0
 ·subst h0
  simp [boundsB, hiBk, isFine_nat f hf]
 by_cases h7 : v ≤ 7
 ·exact bounds_small f (by simp; omega) v (by simp; omega)
 obtain ⟨p, hp, he⟩ := bk_at f hf v h0
 obtain ⟨b1, b2, b3⟩ := bitLen_bd v hv h0
 have b4 := bitLen_64 v hv h0
 have b5 : 4 ≤ Lib.bitLen v := by
  apply Classical.byContradiction
  intro hc
  have : 2 ^ Lib.bitLen v ≤ 2 ^ 3 := Nat.pow_le_pow_right (by omega) (by omega)
  omega
 have hq : ((Lib.bitLen v - 1) * 2 ^ f + p) / 2 ^ f = Lib.bitLen v - 1 := by
  rw [Nat.mul_comm, Nat.mul_add_div (Nat.two_pow_pos _), Nat.div_eq_of_lt hp, Nat.add_zero]
 rw [he, boundsB_at _ _ (by omega) (isFine_nat f hf)]
 have e1 : (1 + (((Lib.bitLen v - 1) * 2 ^ f + p : Nat) : Int) - 1) / 2 ^ ((f : Int)).toNat = ((Lib.bitLen v - 1 : Nat) : Int) := by
  rw [Int.toNat_natCast, show (1 + (((Lib.bitLen v - 1) * 2 ^ f + p : Nat) : Int) - 1) = (((Lib.bitLen v - 1) * 2 ^ f + p : Nat) : Int) by omega, show ((2 : Int) ^ f) = ((2 ^ f : Nat) : Int) by simp, ← Int.natCast_ediv, hq]
 rw [e1, if_neg (by omega), if_pos (by omega)]
theorem half_small : ∀ f ∈ [1, 2, 3], ∀ p ∈ List.range 26, boundsB ((f : Nat) : Int) ((p : Nat) : Int) = true → boundsB ((f : Nat) - 1 : Int) (hiHalf ((p : Nat) : Int)) = true := by decide +kernel
theorem bounds_half (f : Nat) (h1 : 1 ≤ f) (h3 : f ≤ 3) (p : Int) (h : boundsB f p = true) : boundsB ((f - 1 : Nat) : Int) (hiHalf p) = true := by
 have hp0 : 0 ≤ p := by
  unfold boundsB at h
  split at h
  ·rename_i hc
   simp only [Bool.and_eq_true, decide_eq_true_eq] at hc
   exact hc.2
  ·cases h
 have hf1 : ((f - 1 : Nat) : Int) = (f : Int) - 1 := by omega
 by_cases hs : p < 26
 ·have := half_small f (by simp; omega) p.toNat (by simp; omega)
  rw [Int.toNat_of_nonneg hp0] at this
  rw [hf1]
  exact this h
 rw [boundsB_at _ _ (by omega) (isFine_nat f h3)] at h
 have hh : hiHalf p = 1 + (p - 1) / 2 := by unfold hiHalf; rw [if_neg (by omega)]
 rw [hh, boundsB_at _ _ (by omega) (isFine_nat _ (by omega))]
 rcases (by omega : f = 1 ∨ f = 2 ∨ f = 3) with rfl | rfl | rfl
 ·simp only [show (((1 : Nat) : Int)).toNat = 1 from rfl, show (((1 - 1 : Nat) : Int)).toNat = 0 from rfl] at h ⊢
  by_cases hc : 64 ≤ (p - 1) / 2 ^ 1
  ·rw [if_pos hc] at h; cases h
  ·rw [if_neg (by omega), if_pos (by omega)]
 ·simp only [show (((2 : Nat) : Int)).toNat = 2 from rfl, show (((2 - 1 : Nat) : Int)).toNat = 1 from rfl] at h ⊢
  by_cases hc : 64 ≤ (p - 1) / 2 ^ 2
  ·rw [if_pos hc] at h; cases h
  ·rw [if_neg (by omega), if_pos (by omega)]
 ·simp only [show (((3 : Nat) : Int)).toNat = 3 from rfl, show (((3 - 1 : Nat) : Int)).toNat = 2 from rfl] at h ⊢
  by_cases hc : 64 ≤ (p - 1) / 2 ^ 3
  ·rw [if_pos hc] at h; cases h
  ·rw [if_neg (by omega), if_pos (by omega)]
theorem exIns_u64 (l : List Int) (n : Int) (hu : Up l) (hl : U64s l) (hn : U64 n) : U64s (exIns l n) := by
 rw [exIns_eq l n hu]
 intro x hx
 rcases (insR_mem l n x).1 hx with rfl | h
 ·exact hn
 ·exact hl x h
theorem cnt_cases {c level : Nat} (h3 : level ≤ 3) (h : c * 2 ^ level = 32) : (level = 0 ∧ c = 32) ∨ (level = 1 ∧ c = 16) ∨ (level = 2 ∧ c = 8) ∨ (level = 3 ∧ c = 4) := by
 rcases (by omega : level = 0 ∨ level = 1 ∨ level = 2 ∨ level = 3) with rfl | rfl | rfl | rfl <;> simp only [Nat.reducePow] at h <;> omega
theorem bd_add_ok {k L : Nat} {b b' : Bd} {h : Nat} {n : Int} (hb : b.Ok k L) (hh : h < 2 ^ 64) (hn : U64 n) (he : b.add h n = some b') : b'.Ok k L := by
 cases b with
 | num l =>
  obtain ⟨h1, h2, h3, h4, h5⟩ := hb
  simp only [Bd.add, exGather] at he
  split at he
  ·cases he
  ·rename_i hc
   simp only [Option.map_some, Option.some.injEq] at he
   subst he
   exact ⟨h1, h2, by rw [exIns_eq l _ h3]; exact insR_up l _ h3, by omega, exIns_u64 l _ h3 h5 (by unfold U64; omega)⟩
 | reg b r =>
  obtain ⟨h1, h2, h3, h4, h5, h6⟩ := hb
  simp only [Bd.add, Option.some.injEq] at he
  subst he
  exact ⟨h1, h2, h3, h4, by rw [hlAdd_len, h5], hlTell_le r _ _ _ h6 (hlRank_le b h (by omega))⟩
 | cnt c l =>
  obtain ⟨h1, h2, h3, h4, h5⟩ := hb
  simp only [Bd.add, Option.some.injEq] at he
  subst he
  exact ⟨h1, h2, h3, by rw [cmAdd_len, h4], cmAdd_u64 c l h n h5 hn⟩
 | bkt f l =>
  obtain ⟨h1, h2, h3, h4, h5, h6, h7⟩ := hb
  simp only [Bd.add, Option.some.injEq] at he
  subst he
  refine ⟨h1, h2, h3, ?_, ?_, ?_, ?_⟩
  ·exact hiDone_up (binPut_up _ _ _ h4)
  ·exact hiDone_pos
  ·exact hiDone_u64 (binPut_u64 _ _ _ h6 hn)
  ·intro x hx
   rcases binPut_mem _ _ _ x (List.mem_filter.1 hx).1 with e | hx
   ·rw [e]; exact bounds_bk f (by omega) h hh
   ·exact h7 x hx
theorem hlSum_le (b : Nat) (hb : b ≤ 8) : ∀ (l r : List Nat), (∀ i, r.getD i 0 ≤ 65 - b) → ∀ i, (hlSum b r l).getD i 0 ≤ 65 - b
 | [], _, h => h
 | x :: l, r, h => hlSum_le b hb l _ (hlTell_le r _ _ _ h (hlRank_le b x hb))
theorem hlNone_le (b m : Nat) : ∀ i, (hlNone b).getD i 0 ≤ m := fun i => by
 unfold hlNone
 rw [List.getD_eq_getElem?_getD, List.getElem?_replicate]
 split <;> simp
theorem hlLow_le (b : Nat) (h1 : 4 ≤ b) (h2 : b ≤ 8) (r : List Nat) (h : ∀ i, r.getD i 0 ≤ 65 - b) : ∀ i, (hlLow b r).getD i 0 ≤ 65 - (b - 1) := fun i => by
 by_cases hi : i < 2 ^ (b - 1)
 ·rw [low_at _ _ _ hi]
  have g1 := h (2 * i)
  have g2 := oneR_le (r.getD (2 * i + 1) 0)
  have g3 : upR (r.getD (2 * i) 0) ≤ r.getD (2 * i) 0 + 1 := by unfold upR; split <;> omega
  omega
 ·rw [List.getD_eq_getElem?_getD, List.getElem?_eq_none (by rw [hlLow_len]; omega)]
  simp
theorem hiPuts_mem : ∀ (l a : List (Int × Int)) (x : Int × Int), x ∈ hiPuts a l → x ∈ a ∨ (∃ y ∈ a, x.1 = y.1) ∨ ∃ y ∈ l, x.1 = y.1
 | [], _, _, h => .inl h
 | b :: l, a, x, h => by
  rcases hiPuts_mem l (binPut a b.1 b.2) x h with h | ⟨y, hy, e⟩ | ⟨y, hy, e⟩
  ·rcases binPut_mem _ _ _ x h with e | h
   ·exact .inr (.inr ⟨b, List.mem_cons_self, e⟩)
   ·exact .inl h
  ·rcases binPut_mem _ _ _ y hy with e2 | h
   ·exact .inr (.inr ⟨b, List.mem_cons_self, e.trans e2⟩)
   ·exact .inr (.inl ⟨y, h, e⟩)
  ·exact .inr (.inr ⟨y, List.mem_cons_of_mem _ hy, e⟩)
theorem bd_low_ok {k L : Nat} {b : Bd} (hb : b.Ok k L) (hL : L < botN k) : b.low.Ok k (L + 1) := by
 cases b with
 | num l =>
  obtain ⟨h1, h2, h3, h4, h5⟩ := hb
  subst h1
  subst h2
  exact ⟨rfl, by omega, by omega, by omega, by rw [hlSum_len]; simp [hlNone], hlSum_le 7 (by omega) _ _ (hlNone_le 7 _)⟩
 | reg b r =>
  obtain ⟨h1, h2, h3, h4, h5, h6⟩ := hb
  subst h1
  have hL4 : L < 4 := hL
  exact ⟨rfl, by omega, by omega, by omega, by rw [hlLow_len], hlLow_le b (by omega) (by omega) r h6⟩
 | cnt c l =>
  obtain ⟨h1, h2, h3, h4, h5⟩ := hb
  subst h1
  have hL3 : L < 3 := hL
  refine ⟨rfl, by omega, ?_, by rw [cmLow_len], cmLow_u64 c l h5⟩
  rcases cnt_cases h2 h3 with ⟨rfl, rfl⟩ | ⟨rfl, rfl⟩ | ⟨rfl, rfl⟩ | ⟨rfl, rfl⟩ <;> first | rfl | omega
 | bkt f l =>
  obtain ⟨h1, h2, h3, h4, h5, h6, h7⟩ := hb
  subst h1
  have hL3 : L < 3 := hL
  obtain ⟨g1, g2⟩ := half_bins h5 h6
  refine ⟨rfl, by omega, by omega, ?_, hiDone_pos, hiDone_u64 (hiPuts_u64 _ [] (fun b hb => by cases hb) g2), ?_⟩
  ·exact hiDone_up (hiPuts_up _ [] List.Pairwise.nil)
  ·intro x hx
   rcases hiPuts_mem _ _ x (List.mem_filter.1 hx).1 with h | ⟨y, hy, e⟩ | ⟨y, hy, e⟩
   ·cases h
   ·cases hy
   ·obtain ⟨z, hz, rfl⟩ := List.mem_map.1 hy
    rw [e]
    exact bounds_half f (by omega) (by omega) z.1 (h7 z hz)
theorem bd_add_low {k L : Nat} {b : Bd} {h : Nat} {n : Int} (hb : b.Ok k L) (he : b.add h n = none) : ∃ b', b.low.add h n = some b' ∧ k = 1 ∧ L = 0 := by
 cases b with
 | num l => exact ⟨_, rfl, hb.1, hb.2.1⟩
 | reg b r => simp [Bd.add] at he
 | cnt c l => simp [Bd.add] at he
 | bkt f l => simp [Bd.add] at he
theorem wkAdd_ok {k : Nat} {s : Nat × Bd} {i : Nat × Int} (hs : s.2.Ok k s.1) (hi : Item.ok i) : (wkAdd s i).2.Ok k (wkAdd s i).1 ∧ s.1 ≤ (wkAdd s i).1 := by
 unfold wkAdd
 cases he : s.2.add i.1 i.2 with
 | some b => exact ⟨bd_add_ok hs hi.1 hi.2 he, Nat.le_refl _⟩
 | none =>
  obtain ⟨b', hb', hk, hL⟩ := bd_add_low hs he
  have hlow := bd_low_ok hs (by rw [hk, hL]; decide)
  simp only [hb', Option.getD_some]
  exact ⟨bd_add_ok hlow hi.1 hi.2 hb', Nat.le_succ _⟩
def bdNew (k : Nat) : Bd := if k = 1 then .num [] else if k = 2 then .cnt 32 (cmNone 32) else .bkt 3 []
theorem bdNew_ok (k : Nat) (h : k = 1 ∨ k = 2 ∨ k = 3) : (bdNew k).Ok k 0 := by
 rcases h with rfl | rfl | rfl
 ·exact ⟨rfl, rfl, List.Pairwise.nil, by simp, fun n hn => by cases hn⟩
 ·refine ⟨rfl, by omega, rfl, by simp [cmNone], fun n hn => ?_⟩
  rw [List.eq_of_mem_replicate hn]; exact u64_0
 ·exact ⟨rfl, by omega, rfl, List.Pairwise.nil, (fun b hb => by cases hb), (fun b hb => by cases hb), fun b hb => by cases hb⟩
end Go.Proofs.YtcbbenncdainfaaGreatDoor
namespace Go.Proofs.YtcbbenncdainfaaGreatDoor
open Go Go.RowKit
theorem up_sub : ∀ (m l : List Int), Up l → Up m → (∀ y ∈ l, y ∈ m) → l.length ≤ m.length
 | [], l, _, _, h => by
  cases l with
  | nil => exact Nat.le_refl _
  | cons x l => exact absurd (h x List.mem_cons_self) (by simp)
 | x :: m, l, hl, hm, h => by
  obtain ⟨m1, m2⟩ := up_tail hm
  cases l with
  | nil => exact Nat.zero_le _
  | cons y l =>
   obtain ⟨l1, l2⟩ := up_tail hl
   have := up_sub m l l1 m1 (fun z hz => by
    rcases List.mem_cons.1 (h z (List.mem_cons_of_mem _ hz)) with e | e
    ·have a1 := l2 z hz
     rcases List.mem_cons.1 (h y List.mem_cons_self) with e2 | e2
     ·omega
     ·have := m2 y e2; omega
    ·exact e)
   simp only [List.length_cons]
   omega
theorem gather_some : ∀ (r l m : List Int), Up l → l.length ≤ 64 → exGather l r = some m → Up m ∧ m.length ≤ 64 ∧ ∀ y, y ∈ m ↔ y ∈ l ∨ y ∈ r
 | [], l, m, hu, hl, h => by
  obtain rfl : l = m := by simpa [exGather] using h
  exact ⟨hu, hl, fun y => by simp⟩
 | n :: r, l, m, hu, hl, h => by
  rw [exGather] at h
  split at h
  ·cases h
  ·rename_i hc
   rw [exIns_eq l n hu] at h hc
   obtain ⟨h1, h2, h3⟩ := gather_some r _ m (insR_up l n hu) (by omega) h
   refine ⟨h1, h2, fun y => ?_⟩
   rw [h3, insR_mem, List.mem_cons]
   constructor
   ·rintro ((e | e) | e)
    ·exact .inr (.inl e)
    ·exact .inl e
    ·exact .inr (.inr e)
   ·rintro (e | e | e)
    ·exact .inl (.inr e)
    ·exact .inl (.inl e)
    ·exact .inr e
theorem gather_none : ∀ (r l : List Int), Up l → exGather l r = none → ∀ m, Up m → (∀ y, y ∈ l ∨ y ∈ r → y ∈ m) → 64 < m.length
 | [], l, _, h, _, _, _ => by simp [exGather] at h
 | n :: r, l, hu, h, m, hm, hs => by
  rw [exGather] at h
  split at h
  ·rename_i hc
   rw [exIns_eq l n hu] at hc
   have := up_sub m (insR l n) (insR_up l n hu) hm (fun y hy => by
    rcases (insR_mem l n y).1 hy with e | e
    ·exact hs y (.inr (by rw [e]; exact List.mem_cons_self))
    ·exact hs y (.inl e))
   omega
  ·rw [exIns_eq l n hu] at h
   exact gather_none r _ (insR_up l n hu) h m hm (fun y hy => by
    rcases hy with e | e
    ·rcases (insR_mem l n y).1 e with e | e
     ·exact hs y (.inr (by rw [e]; exact List.mem_cons_self))
     ·exact hs y (.inl e)
    ·exact hs y (.inr (List.mem_cons_of_mem _ e)))
def Bd.wide : Bd → Prop
 | .num _ => False
 | _ => True
end Go.Proofs.YtcbbenncdainfaaGreatDoor
namespace Go.Proofs.YtcbbenncdainfaaGreatDoor
open Go Go.RowKit Go.Shelf
attribute [local go_sem] Oper.semAt_some
set_option maxRecDepth 100000 in
set_option maxHeartbeats 1000000 in
theorem ranks_kl1 {α : Type} (f : α → Nat × UInt8) (l Bs : Nat) (s : ByteArray) (hreach : s.size < 4294967281) (ls : List α) (hls : ls.map f = octs s) (J Jx : List α → World → Prop)
  (hY : ∀ pre x W, J pre W → pre.length < ls.length → YieldAt Fence.wide 7 Tryz.prog l #[.int .i64 (f x).1, .int .u8 (f x).2.toNat] W fun e W' =>
   (e = .returned (.bool true) ∧ J (pre ++ [x]) W' ∧ KL [Bs] W W') ∨ (e = .returned (.bool false) ∧ Jx (pre ++ [x]) W'))
  (W : World) (hBs : W.heap[Bs]? = some (.cells #[.string s] 9 (0, 0))) (h0 : J [] W) :
  CallsIn Fence.wide 8 Tryz.prog 110 #[.func (.yield l) #[] #[], .pointer (some ⟨Bs, 0, none⟩)] W fun e W' => (∃ v, e = .returned v) ∧
   ((∃ ys, ys = ls ∧ J ys W') ∨ (∃ pre, pre <+: ls ∧ Jx pre W')) := by
 have hol : ls.length = s.size := by rw [← octs_len s, ← hls, List.length_map]
 refine callsIn_of_wp Tryz.func110 rfl trivial ?_ rfl
 simp only [Tryz.ntmps110, List.size_toArray, List.length_cons, List.length_nil, Nat.reduceAdd, Nat.reduceSub, Array.replicate_succ, Array.replicate_zero, List.push_toArray, List.append_toArray, List.nil_append, List.cons_append]
 have HO := Lib.hid hol
 have HBs := Lib.hid hBs
 have HLS := Lib.hid hls
 have b0 : W.cell? ⟨Bs, 0, none⟩ = some (.string s) := cCc hBs 0
 clear hol hBs hls
 gi_wp2
 gi_loopw [3, 6] (fun _ i wr => ∃ k : Nat, k ≤ s.size ∧ i = .int .i64 k ∧ J (ls.take k) wr ∧ KL [Bs] W wr) (fun _ i _ => s.size - (intOf i).toNat)
 case atStart => exact ⟨0, Nat.zero_le _, rfl, h0, KL.refl _ _⟩
 case round =>
  obtain ⟨k, hk, rfl, hJs, hnx⟩ := hrel
  by_cases hlt : k < s.size
  ·have hx := octs_at s k hlt
   rw [← HLS.out, List.getElem?_map] at hx
   obtain ⟨y, hy0, hfy⟩ := Option.map_eq_some_iff.1 hx
   obtain ⟨fn, tmps, assign, body, hy, hR⟩ := hY _ y _ hJs (by rw [List.length_take, HO.out]; omega)
   rw [hfy] at hy
   dsimp only at hy
   have HX := Lib.hid hy0
   have hc := hnx Bs (List.mem_singleton.2 rfl) _ HBs.out
   have c0 : wr.cell? ⟨Bs, 0, none⟩ = some (.string s) := cCc hc 0
   clear hx hc hy0 hfy
   gi_wp2
   refine hR.mono ?_
   rintro e W3 (⟨rfl, hJ3, hk3⟩ | ⟨rfl, hJx3⟩)
   ·gi_wp2
    go_roundw
    case rel => exact ⟨k + 1, by omega, by simp, by rw [take_snoc' HX.out]; exact hJ3, hnx.trans hk3⟩
    case measure => simp [intOf]; omega
   ·gi_wp2
    refine bodyPost_ret (results_none rfl _ _ _) rfl ?_
    exact ⟨⟨_, rfl⟩, .inr ⟨_, by have h := List.take_prefix (k + 1) ls; rwa [take_snoc' HX.out] at h, hJx3⟩⟩
  ·obtain rfl : k = s.size := by omega
   gi_wp2
   go_end0
   exact ⟨⟨_, rfl⟩, .inl ⟨_, List.take_of_length_le (by rw [HO.out]; omega), hJs⟩⟩
theorem ranks_kl {α : Type} (f : α → Nat × UInt8) (Bs : Nat) (s : ByteArray) (hreach : s.size < 4294967281) (ls : List α) (hls : ls.map f = octs s) (w : World) (hc : w.heap[Bs]? = some (.cells #[.string s] 9 (0, 0))) :
  SeqStopsK Fence.wide 8 Tryz.prog 110 #[.pointer (some ⟨Bs, 0, none⟩)] (fun x : α => #[.int .i64 (f x).1, .int .u8 (f x).2.toNat]) (KL [Bs]) (fun ys => ys = ls) (fun pre => pre <+: ls) ls.length w := fun l J Jx W hW _ _ hY h0 =>
 ranks_kl1 f l Bs s hreach ls hls J Jx hY W (known hW (Nat.le_refl _) hc) h0
def put2 (s1 s2 : Nat) (x y : Value) (t : Array Value) : Array Value := (t.setIfInBounds s1 x).setIfInBounds s2 y
end Go.Proofs.YtcbbenncdainfaaGreatDoor
