/- The reference of layer 9: Bounds. The reference of layer 9: Right, Same. The reference of layer 9: Same. The reference of layer 10: Bottom; Same at equal sketches. The reference of layer 10: Same, at any sketches. -/
import Derived.Test.YtcbbenncdainfaaGreatDoorYDP
namespace Go.Proofs.YtcbbenncdainfaaGreatDoor
open Go Go.RowKit Go.Shelf
def rfLow (f n : Nat) : Nat := if (n - 1) / 2 ^ f < f then ((n - 1) % 2 ^ f + 2 ^ f) / 2 ^ (f - (n - 1) / 2 ^ f) else ((n - 1) % 2 ^ f + 2 ^ f) * 2 ^ ((n - 1) / 2 ^ f - f)
theorem rf_small : ∀ f ∈ [1, 2, 3], ∀ n ∈ List.range 25, 1 ≤ n → (n - 1) / 2 ^ f < f → boundsB ((f : Nat) : Int) ((n : Nat) : Int) = (hiBk ((f : Nat) : Int) (rfLow f n) == ((n : Nat) : Int)) := by decide +kernel
theorem rf_least : ∀ f ∈ [1, 2, 3], ∀ n ∈ List.range 513, 1 ≤ n → boundsB ((f : Nat) : Int) ((n : Nat) : Int) = true → ((rfLow f n : Nat) : Int) = hiLeast f ((n : Nat) : Int) := by decide +kernel
theorem rf_large (f n : Nat) (hf : f ≤ 3) (h1 : 1 ≤ n) (hb : f ≤ (n - 1) / 2 ^ f) (h64 : (n - 1) / 2 ^ f < 64) : boundsB f n = true := by
 have e1 : (((n : Int) - 1) / 2 ^ ((f : Int)).toNat) = (((n - 1) / 2 ^ f : Nat) : Int) := by
  rw [Int.toNat_natCast, show ((n : Int) - 1) = ((n - 1 : Nat) : Int) by omega]; simp
 unfold boundsB
 rw [isFine_nat f hf, e1, decide_eq_true (by omega : (0 : Int) ≤ n), Bool.and_true, if_pos rfl, if_neg (by simp; omega), if_neg (by omega), if_pos (by omega)]
theorem rf_out (f n : Nat) (h1 : 1 ≤ n) (h64 : 64 ≤ (n - 1) / 2 ^ f) : boundsB f n = false := by
 have e1 : (((n : Int) - 1) / 2 ^ ((f : Int)).toNat) = (((n - 1) / 2 ^ f : Nat) : Int) := by
  rw [Int.toNat_natCast, show ((n : Int) - 1) = ((n - 1 : Nat) : Int) by omega]; simp
 unfold boundsB
 split
 ·rw [e1, if_neg (by simp; omega), if_pos (by omega)]
 ·rfl
def BdR (f n : Int) (w : World) (e : Ending) (w' : World) : Prop := ∃ lo hi : Int, e = .returned (.tuple #[.int .u64 lo, .int .u64 hi, .bool (boundsB f n)]) ∧ (boundsB f n = true → 1 ≤ f → lo = hiLeast f.toNat n) ∧ Below w.heap.size w w'
theorem BdR.of {f n lo hi : Int} {w w' : World} {b : Bool} (h1 : boundsB f n = b) (h2 : b = true → 1 ≤ f → lo = hiLeast f.toNat n) (hB : Below w.heap.size w w') : BdR f n w (.returned (.tuple #[.int .u64 lo, .int .u64 hi, .bool b])) w' := ⟨lo, hi, by rw [h1], (by rw [h1]; exact h2), hB⟩
set_option maxHeartbeats 1000000 in
theorem ref09_Bounds_no (f n : Int) (h : f < 0 ∨ 3 < f ∨ n < 0) (w : World) : Calls Tryz.prog 83 #[.int .i64 f, .int .i64 n] w (BdR f n w) := by
 have HB : Hid (boundsB f n = false) := by
  unfold boundsB isFineB
  rw [Hid, if_neg]
  simp
  omega
 have HE : Hid (BdR f n w (.returned (.tuple #[.int .u64 0, .int .u64 0, .bool false])) w) := BdR.of HB.out (fun h => by cases h) (Below.refl _ _)
 by_cases h1 : f < 0
 ·generalize hQ : BdR f n w = Q at HE ⊢
  clear hQ
  go_enter Tryz.func83, Tryz.ntmps83
  go_wp2_with fail
  go_ret3
  exact HE.out
 by_cases h2 : 3 < f
 ·generalize hQ : BdR f n w = Q at HE ⊢
  clear hQ
  go_enter Tryz.func83, Tryz.ntmps83
  go_wp2_with fail
  go_ret3
  exact HE.out
 ·have h3 : n < 0 := by omega
  generalize hQ : BdR f n w = Q at HE ⊢
  clear hQ
  go_enter Tryz.func83, Tryz.ntmps83
  go_wp2_with fail
  go_ret3
  exact HE.out
set_option maxHeartbeats 1000000 in
theorem ref09_Bounds_0 (f : Nat) (hf : f ≤ 3) (w : World) : Calls Tryz.prog 83 #[.int .i64 f, .int .i64 0] w (BdR f 0 w) := by
 have HE : Hid (BdR f 0 w (.returned (.tuple #[.int .u64 0, .int .u64 0, .bool true])) w) := by
  refine BdR.of (by unfold boundsB; rw [isFine_nat f hf]; rfl) (fun _ h => ?_) (Below.refl _ _)
  rcases (by omega : f = 1 ∨ f = 2 ∨ f = 3) with rfl | rfl | rfl <;> decide +kernel
 generalize hQ : BdR f 0 w = Q at HE ⊢
 clear hQ
 rcases (by omega : f = 0 ∨ f = 1 ∨ f = 2 ∨ f = 3) with rfl | rfl | rfl | rfl
 all_goals go_enter Tryz.func83, Tryz.ntmps83
 all_goals go_wp2_with fail
 all_goals go_ret3
 all_goals exact HE.out
set_option maxHeartbeats 1000000 in
theorem ref09_Bounds_far (f n : Nat) (hf : f ≤ 3) (h1 : 64 * 2 ^ f < n) (hn : n < 9223372036854775808) (w : World) : Calls Tryz.prog 83 #[.int .i64 f, .int .i64 n] w (BdR f n w) := by
 have HE : Hid (BdR f n w (.returned (.tuple #[.int .u64 0, .int .u64 0, .bool false])) w) := by
  refine BdR.of (rf_out f n (by omega) ?_) (fun h => by cases h) (Below.refl _ _)
  rw [Nat.le_div_iff_mul_le (Nat.two_pow_pos _)]
  omega
 generalize hQ : BdR f n w = Q at HE ⊢
 clear hQ
 rcases (by omega : f = 0 ∨ f = 1 ∨ f = 2 ∨ f = 3) with rfl | rfl | rfl | rfl
 all_goals simp only [Nat.reducePow, Nat.reduceMul] at h1
 all_goals go_enter Tryz.func83, Tryz.ntmps83
 all_goals go_wp2_with fail
 all_goals go_ret3
 all_goals exact HE.out
set_option maxHeartbeats 2000000 in
theorem ref09_Bounds_near (f n : Nat) (hf : f ≤ 3) (h1 : 1 ≤ n) (hb : f ≤ (n - 1) / 2 ^ f) (h64 : (n - 1) / 2 ^ f < 64) (w : World) : Calls Tryz.prog 83 #[.int .i64 f, .int .i64 n] w (BdR f n w) := by
 have HOk := rf_large f n hf h1 hb h64
 have hle : n ≤ 512 := by
  have h2 : n - 1 < 64 * 2 ^ f := (Nat.div_lt_iff_lt_mul (Nat.two_pow_pos _)).1 h64
  have h3 : 2 ^ f ≤ 2 ^ 3 := Nat.pow_le_pow_right (by omega) hf
  omega
 have HE : Hid (∀ (lo hi : Int) w', lo = rfLow f n → Below w.heap.size w w' → BdR f n w (.returned (.tuple #[.int .u64 lo, .int .u64 hi, .bool true])) w') := fun lo hi w' hlo hB => by
  refine BdR.of HOk (fun _ h => ?_) hB
  have hf1 : 1 ≤ f := by omega
  rw [hlo, Int.toNat_natCast]
  exact rf_least f (by simp; omega) n (List.mem_range.2 (by omega)) h1 HOk
 have hlow : rfLow f n = ((n - 1) % 2 ^ f + 2 ^ f) * 2 ^ ((n - 1) / 2 ^ f - f) := by unfold rfLow; rw [if_neg (by omega)]
 have hsm : ((n - 1) % 2 ^ f + 2 ^ f) * 2 ^ ((n - 1) / 2 ^ f - f) < 2 ^ 64 := by
  have g1 := Nat.mod_lt (n - 1) (Nat.two_pow_pos f)
  have g2 : (n - 1) % 2 ^ f + 2 ^ f < 2 ^ (f + 1) := by rw [Nat.pow_succ]; omega
  have g3 : ((n - 1) % 2 ^ f + 2 ^ f) * 2 ^ ((n - 1) / 2 ^ f - f) < 2 ^ (f + 1) * 2 ^ ((n - 1) / 2 ^ f - f) := Nat.mul_lt_mul_of_pos_right g2 (Nat.two_pow_pos _)
  rw [← Nat.pow_add] at g3
  exact Nat.lt_of_lt_of_le g3 (Nat.pow_le_pow_right (by omega) (by omega))
 generalize hQ : BdR f n w = Q at HE ⊢
 clear hQ HOk
 rw [hlow] at HE
 clear hlow
 obtain ⟨m, rfl⟩ : ∃ m, n = m + 1 := ⟨n - 1, by omega⟩
 simp only [Nat.add_sub_cancel] at *
 rcases (by omega : f = 0 ∨ f = 1 ∨ f = 2 ∨ f = 3) with rfl | rfl | rfl | rfl
 ·simp only [Nat.pow_zero, Nat.div_one, Nat.mod_one, Nat.sub_zero, Nat.zero_add, Nat.one_mul] at *
  have e4 : IntKind.u64.wrap (2 ^ m) = ((2 ^ m : Nat) : Int) := by
   have e : (2 : Int) ^ m = ((2 ^ m : Nat) : Int) := by simp
   rw [e]
   generalize 2 ^ m = q at hsm
   exact IntWalk.u64_in _ (by omega)
  have HE4 := Lib.hid e4
  clear e4
  go_enter Tryz.func83, Tryz.ntmps83
  go_wp2_with fail
  go_quiet (fail)
  go_wp2_with fail
  go_quiet (fail)
  go_wp2_with fail
  go_ret3
  exact HE.out _ _ _ HE4.out (bDr (bDr (Below.refl _ _) _) _)
 ·simp only [Nat.reducePow] at *
  obtain ⟨c, hc⟩ : ∃ c, m / 2 = c + 1 := ⟨m / 2 - 1, by omega⟩
  obtain ⟨p, hp⟩ : ∃ p, m % 2 = p := ⟨_, rfl⟩
  rw [hc, hp, Nat.add_sub_cancel] at HE hsm
  have e4 : IntKind.u64.wrap (((m : Int) % 2 + 2) * 2 ^ (m / 2 - 1)) = (((p + 2) * 2 ^ c : Nat) : Int) := by
   rw [show m / 2 - 1 = c by omega, show (m : Int) % 2 = (p : Int) by omega]
   have e : ((p : Int) + 2) * 2 ^ c = (((p + 2) * 2 ^ c : Nat) : Int) := by simp
   rw [e]
   exact IntWalk.u64_in _ (by omega)
  have HE4 := Lib.hid e4
  clear e4
  go_enter Tryz.func83, Tryz.ntmps83
  go_wp2_with fail
  go_quiet (fail)
  go_wp2_with fail
  go_quiet (fail)
  go_wp2_with fail
  go_ret3
  exact HE.out _ _ _ HE4.out (bDr (bDr (Below.refl _ _) _) _)
 ·simp only [Nat.reducePow] at *
  obtain ⟨c, hc⟩ : ∃ c, m / 4 = c + 2 := ⟨m / 4 - 2, by omega⟩
  obtain ⟨p, hp⟩ : ∃ p, m % 4 = p := ⟨_, rfl⟩
  rw [hc, hp, Nat.add_sub_cancel] at HE hsm
  have e4 : IntKind.u64.wrap (((m : Int) % 4 + 4) * 2 ^ (m / 4 - 2)) = (((p + 4) * 2 ^ c : Nat) : Int) := by
   rw [show m / 4 - 2 = c by omega, show (m : Int) % 4 = (p : Int) by omega]
   have e : ((p : Int) + 4) * 2 ^ c = (((p + 4) * 2 ^ c : Nat) : Int) := by simp
   rw [e]
   exact IntWalk.u64_in _ (by omega)
  have HE4 := Lib.hid e4
  clear e4
  go_enter Tryz.func83, Tryz.ntmps83
  go_wp2_with fail
  go_quiet (fail)
  go_wp2_with fail
  go_quiet (fail)
  go_wp2_with fail
  go_ret3
  exact HE.out _ _ _ HE4.out (bDr (bDr (Below.refl _ _) _) _)
 ·simp only [Nat.reducePow] at *
  obtain ⟨c, hc⟩ : ∃ c, m / 8 = c + 3 := ⟨m / 8 - 3, by omega⟩
  obtain ⟨p, hp⟩ : ∃ p, m % 8 = p := ⟨_, rfl⟩
  rw [hc, hp, Nat.add_sub_cancel] at HE hsm
  have e4 : IntKind.u64.wrap (((m : Int) % 8 + 8) * 2 ^ (m / 8 - 3)) = (((p + 8) * 2 ^ c : Nat) : Int) := by
   rw [show m / 8 - 3 = c by omega, show (m : Int) % 8 = (p : Int) by omega]
   have e : ((p : Int) + 8) * 2 ^ c = (((p + 8) * 2 ^ c : Nat) : Int) := by simp
   rw [e]
   exact IntWalk.u64_in _ (by omega)
  have HE4 := Lib.hid e4
  clear e4
  go_enter Tryz.func83, Tryz.ntmps83
  go_wp2_with fail
  go_quiet (fail)
  go_wp2_with fail
  go_quiet (fail)
  go_wp2_with fail
  go_ret3
  exact HE.out _ _ _ HE4.out (bDr (bDr (Below.refl _ _) _) _)
set_option maxHeartbeats 2000000 in
theorem ref09_Bounds_low (f n : Nat) (hf : f ≤ 3) (h1 : 1 ≤ n) (hb : (n - 1) / 2 ^ f < f) (w : World) : Calls Tryz.prog 83 #[.int .i64 f, .int .i64 n] w (BdR f n w) := by
 have hf1 : 1 ≤ f := Nat.lt_of_le_of_lt (Nat.zero_le _) hb
 have hle : n < 25 := by
  have h2 : n - 1 < f * 2 ^ f := (Nat.div_lt_iff_lt_mul (Nat.two_pow_pos _)).1 hb
  have h3 : f * 2 ^ f ≤ 3 * 2 ^ 3 := Nat.mul_le_mul hf (Nat.pow_le_pow_right (by omega) hf)
  omega
 have HOk : Hid (boundsB f n = (hiBk f (rfLow f n) == (n : Int))) := rf_small f (by simp; omega) n (List.mem_range.2 hle) h1 hb
 have HT : Hid (∀ (lo hi : Int) w', lo = rfLow f n → (hiBk f (rfLow f n) == (n : Int)) = true → Below w.heap.size w w' → BdR f n w (.returned (.tuple #[.int .u64 lo, .int .u64 hi, .bool true])) w') := fun lo hi w' hlo hq hB => by
  have hok := HOk.out.trans hq
  refine BdR.of hok (fun _ h => ?_) hB
  rw [hlo, Int.toNat_natCast]
  exact rf_least f (by simp; omega) n (List.mem_range.2 (by omega)) h1 hok
 have HF : Hid (∀ (lo hi : Int) w', (hiBk f (rfLow f n) == (n : Int)) = false → Below w.heap.size w w' → BdR f n w (.returned (.tuple #[.int .u64 lo, .int .u64 hi, .bool false])) w') := fun lo hi w' hq hB => BdR.of (HOk.out.trans hq) (fun h => by cases h) hB
 have hlow : rfLow f n = ((n - 1) % 2 ^ f + 2 ^ f) / 2 ^ (f - (n - 1) / 2 ^ f) := by unfold rfLow; rw [if_pos hb]
 generalize hQ : BdR f n w = Q at HT HF ⊢
 clear hQ HOk
 rw [hlow] at HT HF
 clear hlow
 obtain ⟨m, rfl⟩ : ∃ m, n = m + 1 := ⟨n - 1, by omega⟩
 simp only [Nat.add_sub_cancel] at *
 have hcases : (f = 1 ∧ m / 2 ^ f = 0) ∨ (f = 2 ∧ m / 2 ^ f = 0) ∨ (f = 2 ∧ m / 2 ^ f = 1) ∨ (f = 3 ∧ m / 2 ^ f = 0) ∨ (f = 3 ∧ m / 2 ^ f = 1) ∨ (f = 3 ∧ m / 2 ^ f = 2) := by
  rcases (by omega : f = 1 ∨ f = 2 ∨ f = 3) with rfl | rfl | rfl
  ·exact .inl ⟨rfl, by omega⟩
  ·rcases (by omega : m / 2 ^ 2 = 0 ∨ m / 2 ^ 2 = 1) with h | h
   ·exact .inr (.inl ⟨rfl, h⟩)
   ·exact .inr (.inr (.inl ⟨rfl, h⟩))
  ·rcases (by omega : m / 2 ^ 3 = 0 ∨ m / 2 ^ 3 = 1 ∨ m / 2 ^ 3 = 2) with h | h | h
   ·exact .inr (.inr (.inr (.inl ⟨rfl, h⟩)))
   ·exact .inr (.inr (.inr (.inr (.inl ⟨rfl, h⟩))))
   ·exact .inr (.inr (.inr (.inr (.inr ⟨rfl, h⟩))))
 rcases hcases with ⟨rfl, hc⟩ | ⟨rfl, hc⟩ | ⟨rfl, hc⟩ | ⟨rfl, hc⟩ | ⟨rfl, hc⟩ | ⟨rfl, hc⟩
 ·simp only [Nat.reducePow] at hc hb HT HF
  rw [hc] at HT HF
  simp only [Nat.reduceSub, Nat.reducePow] at HT HF
  obtain ⟨p, hp⟩ : ∃ p, m % 2 = p := ⟨_, rfl⟩
  have hp4 : p < 2 := by omega
  rw [hp] at HT HF
  have e0 : (m : Int) / 2 = 0 := by omega
  have e1 : (m : Int) % 2 = (p : Int) := by omega
  obtain ⟨lo, hlo⟩ : ∃ lo, (p + 2) / 2 = lo := ⟨_, rfl⟩
  have e2 : ((p : Int) + 2) / 2 = (lo : Int) := by omega
  have hl16 : lo < 2 ^ 64 := by omega
  have HBk := Lib.hid (fun W => ref09_Bucket_any 1 lo (by omega) hl16 W)
  rw [hlo] at HT HF
  have hbk := IntWalk.i64_in
  clear hlo hp
  generalize hk : hiBk (1 : Nat) lo = k at HBk HT HF
  cases hq : (k == ((m : Int) + 1)) with
  | true =>
   have t0 : (k != ((m : Int) + 1)) = false := by rw [bne, hq]; rfl
   have HT2 := Lib.hid (fun lo hi w' h hB => HT.out lo hi w' h (by rw [← hq]; simp) hB)
   clear HF HT hq
   go_enter Tryz.func83, Tryz.ntmps83
   go_wp2_with fail
   go_quiet (fail)
   go_wp2_with (go_at_call 78; refine (HBk.out _).mono ?_; rintro e w1 ⟨rfl, rfl⟩)
   go_ret3
   exact HT2.out _ _ _ rfl (bDr (Below.refl _ _) _)
  | false =>
   have t0 : (k != ((m : Int) + 1)) = true := by rw [bne, hq]; rfl
   have HF2 := Lib.hid (fun lo hi w' hB => HF.out lo hi w' (by rw [← hq]; simp) hB)
   clear HF HT hq
   go_enter Tryz.func83, Tryz.ntmps83
   go_wp2_with fail
   go_quiet (fail)
   go_wp2_with (go_at_call 78; refine (HBk.out _).mono ?_; rintro e w1 ⟨rfl, rfl⟩)
   go_ret3
   exact HF2.out _ _ _ (bDr (Below.refl _ _) _)
 ·simp only [Nat.reducePow] at hc hb HT HF
  rw [hc] at HT HF
  simp only [Nat.reduceSub, Nat.reducePow] at HT HF
  obtain ⟨p, hp⟩ : ∃ p, m % 4 = p := ⟨_, rfl⟩
  have hp4 : p < 4 := by omega
  rw [hp] at HT HF
  have e0 : (m : Int) / 4 = 0 := by omega
  have e1 : (m : Int) % 4 = (p : Int) := by omega
  obtain ⟨lo, hlo⟩ : ∃ lo, (p + 4) / 4 = lo := ⟨_, rfl⟩
  have e2 : ((p : Int) + 4) / 4 = (lo : Int) := by omega
  have hl16 : lo < 2 ^ 64 := by omega
  have HBk := Lib.hid (fun W => ref09_Bucket_any 2 lo (by omega) hl16 W)
  rw [hlo] at HT HF
  have hbk := IntWalk.i64_in
  clear hlo hp
  generalize hk : hiBk (2 : Nat) lo = k at HBk HT HF
  cases hq : (k == ((m : Int) + 1)) with
  | true =>
   have t0 : (k != ((m : Int) + 1)) = false := by rw [bne, hq]; rfl
   have HT2 := Lib.hid (fun lo hi w' h hB => HT.out lo hi w' h (by rw [← hq]; simp) hB)
   clear HF HT hq
   go_enter Tryz.func83, Tryz.ntmps83
   go_wp2_with fail
   go_quiet (fail)
   go_wp2_with (go_at_call 78; refine (HBk.out _).mono ?_; rintro e w1 ⟨rfl, rfl⟩)
   go_ret3
   exact HT2.out _ _ _ rfl (bDr (Below.refl _ _) _)
  | false =>
   have t0 : (k != ((m : Int) + 1)) = true := by rw [bne, hq]; rfl
   have HF2 := Lib.hid (fun lo hi w' hB => HF.out lo hi w' (by rw [← hq]; simp) hB)
   clear HF HT hq
   go_enter Tryz.func83, Tryz.ntmps83
   go_wp2_with fail
   go_quiet (fail)
   go_wp2_with (go_at_call 78; refine (HBk.out _).mono ?_; rintro e w1 ⟨rfl, rfl⟩)
   go_ret3
   exact HF2.out _ _ _ (bDr (Below.refl _ _) _)
 ·simp only [Nat.reducePow] at hc hb HT HF
  rw [hc] at HT HF
  simp only [Nat.reduceSub, Nat.reducePow] at HT HF
  obtain ⟨p, hp⟩ : ∃ p, m % 4 = p := ⟨_, rfl⟩
  have hp4 : p < 4 := by omega
  rw [hp] at HT HF
  have e0 : (m : Int) / 4 = 1 := by omega
  have e1 : (m : Int) % 4 = (p : Int) := by omega
  obtain ⟨lo, hlo⟩ : ∃ lo, (p + 4) / 2 = lo := ⟨_, rfl⟩
  have e2 : ((p : Int) + 4) / 2 = (lo : Int) := by omega
  have hl16 : lo < 2 ^ 64 := by omega
  have HBk := Lib.hid (fun W => ref09_Bucket_any 2 lo (by omega) hl16 W)
  rw [hlo] at HT HF
  have hbk := IntWalk.i64_in
  clear hlo hp
  generalize hk : hiBk (2 : Nat) lo = k at HBk HT HF
  cases hq : (k == ((m : Int) + 1)) with
  | true =>
   have t0 : (k != ((m : Int) + 1)) = false := by rw [bne, hq]; rfl
   have HT2 := Lib.hid (fun lo hi w' h hB => HT.out lo hi w' h (by rw [← hq]; simp) hB)
   clear HF HT hq
   go_enter Tryz.func83, Tryz.ntmps83
   go_wp2_with fail
   go_quiet (fail)
   go_wp2_with (go_at_call 78; refine (HBk.out _).mono ?_; rintro e w1 ⟨rfl, rfl⟩)
   go_ret3
   exact HT2.out _ _ _ rfl (bDr (Below.refl _ _) _)
  | false =>
   have t0 : (k != ((m : Int) + 1)) = true := by rw [bne, hq]; rfl
   have HF2 := Lib.hid (fun lo hi w' hB => HF.out lo hi w' (by rw [← hq]; simp) hB)
   clear HF HT hq
   go_enter Tryz.func83, Tryz.ntmps83
   go_wp2_with fail
   go_quiet (fail)
   go_wp2_with (go_at_call 78; refine (HBk.out _).mono ?_; rintro e w1 ⟨rfl, rfl⟩)
   go_ret3
   exact HF2.out _ _ _ (bDr (Below.refl _ _) _)
 ·simp only [Nat.reducePow] at hc hb HT HF
  rw [hc] at HT HF
  simp only [Nat.reduceSub, Nat.reducePow] at HT HF
  obtain ⟨p, hp⟩ : ∃ p, m % 8 = p := ⟨_, rfl⟩
  have hp4 : p < 8 := by omega
  rw [hp] at HT HF
  have e0 : (m : Int) / 8 = 0 := by omega
  have e1 : (m : Int) % 8 = (p : Int) := by omega
  obtain ⟨lo, hlo⟩ : ∃ lo, (p + 8) / 8 = lo := ⟨_, rfl⟩
  have e2 : ((p : Int) + 8) / 8 = (lo : Int) := by omega
  have hl16 : lo < 2 ^ 64 := by omega
  have HBk := Lib.hid (fun W => ref09_Bucket_any 3 lo (by omega) hl16 W)
  rw [hlo] at HT HF
  have hbk := IntWalk.i64_in
  clear hlo hp
  generalize hk : hiBk (3 : Nat) lo = k at HBk HT HF
  cases hq : (k == ((m : Int) + 1)) with
  | true =>
   have t0 : (k != ((m : Int) + 1)) = false := by rw [bne, hq]; rfl
   have HT2 := Lib.hid (fun lo hi w' h hB => HT.out lo hi w' h (by rw [← hq]; simp) hB)
   clear HF HT hq
   go_enter Tryz.func83, Tryz.ntmps83
   go_wp2_with fail
   go_quiet (fail)
   go_wp2_with (go_at_call 78; refine (HBk.out _).mono ?_; rintro e w1 ⟨rfl, rfl⟩)
   go_ret3
   exact HT2.out _ _ _ rfl (bDr (Below.refl _ _) _)
  | false =>
   have t0 : (k != ((m : Int) + 1)) = true := by rw [bne, hq]; rfl
   have HF2 := Lib.hid (fun lo hi w' hB => HF.out lo hi w' (by rw [← hq]; simp) hB)
   clear HF HT hq
   go_enter Tryz.func83, Tryz.ntmps83
   go_wp2_with fail
   go_quiet (fail)
   go_wp2_with (go_at_call 78; refine (HBk.out _).mono ?_; rintro e w1 ⟨rfl, rfl⟩)
   go_ret3
   exact HF2.out _ _ _ (bDr (Below.refl _ _) _)
 ·simp only [Nat.reducePow] at hc hb HT HF
  rw [hc] at HT HF
  simp only [Nat.reduceSub, Nat.reducePow] at HT HF
  obtain ⟨p, hp⟩ : ∃ p, m % 8 = p := ⟨_, rfl⟩
  have hp4 : p < 8 := by omega
  rw [hp] at HT HF
  have e0 : (m : Int) / 8 = 1 := by omega
  have e1 : (m : Int) % 8 = (p : Int) := by omega
  obtain ⟨lo, hlo⟩ : ∃ lo, (p + 8) / 4 = lo := ⟨_, rfl⟩
  have e2 : ((p : Int) + 8) / 4 = (lo : Int) := by omega
  have hl16 : lo < 2 ^ 64 := by omega
  have HBk := Lib.hid (fun W => ref09_Bucket_any 3 lo (by omega) hl16 W)
  rw [hlo] at HT HF
  have hbk := IntWalk.i64_in
  clear hlo hp
  generalize hk : hiBk (3 : Nat) lo = k at HBk HT HF
  cases hq : (k == ((m : Int) + 1)) with
  | true =>
   have t0 : (k != ((m : Int) + 1)) = false := by rw [bne, hq]; rfl
   have HT2 := Lib.hid (fun lo hi w' h hB => HT.out lo hi w' h (by rw [← hq]; simp) hB)
   clear HF HT hq
   go_enter Tryz.func83, Tryz.ntmps83
   go_wp2_with fail
   go_quiet (fail)
   go_wp2_with (go_at_call 78; refine (HBk.out _).mono ?_; rintro e w1 ⟨rfl, rfl⟩)
   go_ret3
   exact HT2.out _ _ _ rfl (bDr (Below.refl _ _) _)
  | false =>
   have t0 : (k != ((m : Int) + 1)) = true := by rw [bne, hq]; rfl
   have HF2 := Lib.hid (fun lo hi w' hB => HF.out lo hi w' (by rw [← hq]; simp) hB)
   clear HF HT hq
   go_enter Tryz.func83, Tryz.ntmps83
   go_wp2_with fail
   go_quiet (fail)
   go_wp2_with (go_at_call 78; refine (HBk.out _).mono ?_; rintro e w1 ⟨rfl, rfl⟩)
   go_ret3
   exact HF2.out _ _ _ (bDr (Below.refl _ _) _)
 ·simp only [Nat.reducePow] at hc hb HT HF
  rw [hc] at HT HF
  simp only [Nat.reduceSub, Nat.reducePow] at HT HF
  obtain ⟨p, hp⟩ : ∃ p, m % 8 = p := ⟨_, rfl⟩
  have hp4 : p < 8 := by omega
  rw [hp] at HT HF
  have e0 : (m : Int) / 8 = 2 := by omega
  have e1 : (m : Int) % 8 = (p : Int) := by omega
  obtain ⟨lo, hlo⟩ : ∃ lo, (p + 8) / 2 = lo := ⟨_, rfl⟩
  have e2 : ((p : Int) + 8) / 2 = (lo : Int) := by omega
  have hl16 : lo < 2 ^ 64 := by omega
  have HBk := Lib.hid (fun W => ref09_Bucket_any 3 lo (by omega) hl16 W)
  rw [hlo] at HT HF
  have hbk := IntWalk.i64_in
  clear hlo hp
  generalize hk : hiBk (3 : Nat) lo = k at HBk HT HF
  cases hq : (k == ((m : Int) + 1)) with
  | true =>
   have t0 : (k != ((m : Int) + 1)) = false := by rw [bne, hq]; rfl
   have HT2 := Lib.hid (fun lo hi w' h hB => HT.out lo hi w' h (by rw [← hq]; simp) hB)
   clear HF HT hq
   go_enter Tryz.func83, Tryz.ntmps83
   go_wp2_with fail
   go_quiet (fail)
   go_wp2_with (go_at_call 78; refine (HBk.out _).mono ?_; rintro e w1 ⟨rfl, rfl⟩)
   go_ret3
   exact HT2.out _ _ _ rfl (bDr (Below.refl _ _) _)
  | false =>
   have t0 : (k != ((m : Int) + 1)) = true := by rw [bne, hq]; rfl
   have HF2 := Lib.hid (fun lo hi w' hB => HF.out lo hi w' (by rw [← hq]; simp) hB)
   clear HF HT hq
   go_enter Tryz.func83, Tryz.ntmps83
   go_wp2_with fail
   go_quiet (fail)
   go_wp2_with (go_at_call 78; refine (HBk.out _).mono ?_; rintro e w1 ⟨rfl, rfl⟩)
   go_ret3
   exact HF2.out _ _ _ (bDr (Below.refl _ _) _)
theorem ref09_Bounds_any (f n : Int) (hN : I64 n) (w : World) : Calls Tryz.prog 83 #[.int .i64 f, .int .i64 n] w (BdR f n w) := by
 by_cases h : f < 0 ∨ 3 < f ∨ n < 0
 ·exact ref09_Bounds_no f n h w
 obtain ⟨f, rfl⟩ : ∃ m : Nat, f = m := ⟨f.toNat, by omega⟩
 obtain ⟨n, rfl⟩ : ∃ m : Nat, n = m := ⟨n.toNat, by omega⟩
 have hf : f ≤ 3 := by omega
 have hn := hN.2
 rcases Nat.eq_zero_or_pos n with rfl | h1
 ·exact ref09_Bounds_0 f hf w
 by_cases h64 : 64 ≤ (n - 1) / 2 ^ f
 ·refine ref09_Bounds_far f n hf ?_ (by omega) w
  have := (Nat.le_div_iff_mul_le (Nat.two_pow_pos f)).1 h64
  omega
 by_cases hb : f ≤ (n - 1) / 2 ^ f
 ·exact ref09_Bounds_near f n hf h1 hb (by omega) w
 ·exact ref09_Bounds_low f n hf h1 (by omega) w
end Go.Proofs.YtcbbenncdainfaaGreatDoor
namespace Go.Proofs.YtcbbenncdainfaaGreatDoor
open Go Go.RowKit Go.Shelf
def prevAt (l : List (Int × Int)) (k : Nat) : Int := if k = 0 then -1 else (l[k - 1]?.map (·.1)).getD (-1)
theorem prevAt_succ {l : List (Int × Int)} {k : Nat} {x : Int × Int} (h : l[k]? = some x) : prevAt l (k + 1) = x.1 := by simp [prevAt, h]
theorem hist_at {f : Int} {l : List (Int × Int)} {k : Nat} {x : Int × Int} (h : l[k]? = some x) : (foldO (histStep f) (prevAt l k) (l.drop k)).isSome = (!(x.2 == 0 || !boundsB f x.1 || decide (x.1 ≤ prevAt l k)) && (foldO (histStep f) (prevAt l (k + 1)) (l.drop (k + 1))).isSome) := by
 rw [drop_cons' h, foldO_cons, prevAt_succ h]
 unfold histStep
 cases hc : (x.2 == 0 || !boundsB f x.1 || decide (x.1 ≤ prevAt l k)) with
 | true => rfl
 | false => rfl
set_option maxRecDepth 100000 in
set_option maxHeartbeats 2000000 in
theorem ref09_Right_any (f : Int) (a : Option Addr) (len cap : Nat) (l : List (Int × Int)) (w : World) (hL : SlE encB 2 w.heap.size w a len l) (hm : len ≤ maxLen) (hU : Bins l) :
  Calls Tryz.prog 57 #[.agg #[.int .i64 f, .slice a len cap]] w fun e w' => e = .returned (.bool (hiRight f l)) ∧ Below w.heap.size w w' := by
 have hlen := hL.1
 unfold maxLen at hm
 obtain ⟨W0, hW0, hX0, hB0, hs0⟩ := boxes1 w #[.int .i64 f, .slice a len cap] 31
 have HL := Lib.hid (hL.go hB0)
 have HU := Lib.hid hU
 have HN := Lib.hid hlen
 have HB0 := Lib.hid hB0
 have HE : Hid (hiRight f l = (isFineB f && (foldO (histStep f) (prevAt l 0) (l.drop 0)).isSome)) := rfl
 have HFi : Hid (isFineB f = (decide (0 ≤ f) && decide (f ≤ 3))) := rfl
 have hz0 : w.heap.size < W0.heap.size := by omega
 clear hL hB0 hlen hU
 generalize hiRight f l = bR at HE ⊢
 obtain ⟨c0, c1⟩ := cl2 hX0
 clear hX0
 go_enter Tryz.func57, Tryz.ntmps57
 go_wp2_with fail
 go_loopw [3] (fun i wr => ∃ (k : Nat), i = .int .i64 k ∧ k ≤ len ∧ Below W0.heap.size W0 wr ∧ Hid (bR = (isFineB f && (foldO (histStep f) (prevAt l k) (l.drop k)).isSome))) (fun i _ => len - (intOf i).toNat)
 case atStart => exact ⟨0, rfl, Nat.zero_le _, Below.refl _ _, HE.out⟩
 case round =>
  obtain ⟨k, rfl, hk, hB, HS⟩ := hrel
  have hsz := hB.size
  have r0 : wr.cell? ⟨w.heap.size, 0, none⟩ = some (.int .i64 f) := (hB.cell (p := ⟨w.heap.size, 0, none⟩) hz0).trans c0
  have r1 : wr.cell? ⟨w.heap.size, 1, none⟩ = some (.slice a len cap) := (hB.cell (p := ⟨w.heap.size, 1, none⟩) hz0).trans c1
  by_cases hlt : k < len
  ·obtain ⟨x, b, off, hx, rfl, hbb, hc⟩ := HL.out.at (j := k) hlt
   have hkp : ∀ W, Below wr.heap.size wr W → W.cell? ⟨w.heap.size, 0, none⟩ = some (.int .i64 f) ∧ W.cell? ⟨w.heap.size, 1, none⟩ = some (.slice (some ⟨b, off, none⟩) len cap) ∧ W.cell? ⟨b, off + k * 2, none⟩ = some (.int .i64 x.1) ∧ Below wr.heap.size wr W := fun W h =>
    ⟨(h.cell (p := ⟨w.heap.size, 0, none⟩) (Nat.lt_of_lt_of_le hz0 hsz)).trans r0, (h.cell (p := ⟨w.heap.size, 1, none⟩) (Nat.lt_of_lt_of_le hz0 hsz)).trans r1, (h.cell (p := ⟨b, off + k * 2, none⟩) (Nat.lt_of_lt_of_le hbb hsz)).trans ((hB.cell (p := ⟨b, off + k * 2, none⟩) hbb).trans (hc 0 (by omega))), h⟩
   have HKP := Lib.hid hkp
   obtain ⟨q0, q1, q2, qB⟩ := hkp wr (Below.refl _ _)
   obtain ⟨⟨u1, u2⟩, v1, v2⟩ := HU.out x (List.mem_of_getElem? hx)
   have HBd : Hid (∀ W, Calls Tryz.prog 83 #[.int .i64 f, .int .i64 x.1] W (BdR f x.1 W)) := fun W => ref09_Bounds_any f x.1 ⟨u1, u2⟩ W
   have i1 : (k : Int) < (len : Int) := by omega
   have HX := Lib.hid hx
   have HC : Hid (W0.cell? ⟨b, off + k * 2 + 1, none⟩ = some (.int .u64 x.2)) := hc 1 (by omega)
   clear hkp hc hx r0 r1
   go_wp2_with fail
   go_region_held3 (fun w' => w'.cell? ⟨w.heap.size, 0, none⟩ = some (.int .i64 f) ∧ w'.cell? ⟨w.heap.size, 1, none⟩ = some (.slice (some ⟨b, off, none⟩) len cap) ∧ w'.cell? ⟨b, off + k * 2, none⟩ = some (.int .i64 x.1) ∧ Below wr.heap.size wr w')
    (first
     | with_reducible exact HKP.out _ qB.drew
     | (go_split_ands; with_reducible refine HKP.out _ ?_; with_reducible first | exact Below.trans (by assumption) (Below.mono (by assumption) (Below.size (by assumption))) | assumption)
     | go_keep)
    (first | (go_at_call 83; refine (HBd.out _).mono ?_; rintro e w6 ⟨lo, hi, rfl, -, hb6⟩))
   rename_i hHeld
   obtain ⟨q0, q1, q2, qB⟩ := hHeld
   have hBd : Below W0.heap.size W0 w6 := hB.trans (qB.mono hsz)
   have q3 : w6.cell? ⟨b, off + k * 2 + 1, none⟩ = some (.int .u64 x.2) := (hBd.cell (p := ⟨b, off + k * 2 + 1, none⟩) hbb).trans HC.out
   have HNo : Hid ((x.2 == 0 || !boundsB f x.1 || decide (x.1 ≤ prevAt l k)) = true → bR = false) := fun h => by rw [HS.out, hist_at HX.out, h]; simp
   have HYes : Hid ((x.2 == 0 || !boundsB f x.1 || decide (x.1 ≤ prevAt l k)) = false → bR = (isFineB f && (foldO (histStep f) (prevAt l (k + 1)) (l.drop (k + 1))).isSome)) := fun h => by rw [HS.out, hist_at HX.out, h]; rfl
   clear HS HBd HC hb6 HKP
   have HP0 : Hid (boundsB f x.1 = true → 0 ≤ x.1) := fun h => by
    unfold boundsB at h
    split at h
    ·rename_i h2
     simp only [Bool.and_eq_true, decide_eq_true_eq] at h2
     exact h2.2
    ·cases h
   generalize boundsB f x.1 = bo at *
   cases bo with
   | false =>
    have H9 : Hid (bR = false) := HNo.out (by simp)
    clear HNo HYes
    go_wp2_with fail
    go_quiet (fail)
    go_wp2_with fail
    go_ret
    exact ⟨by rw [H9.out]; rfl, HB0.out.trans ((bDr hBd _).mono HB0.out.size)⟩
   | true =>
    by_cases hz : x.2 = 0
    ·have H9 : Hid (bR = false) := HNo.out (by simp [hz])
     have t0 : (x.2 == 0) = true := by rw [hz]; rfl
     clear HNo HYes
     go_wp2_with fail
     go_quiet (fail)
     go_wp2_with fail
     go_ret
     exact ⟨by rw [H9.out]; rfl, HB0.out.trans ((bDr hBd _).mono HB0.out.size)⟩
    have t0 : (x.2 == 0) = false := beq_eq_false_iff_ne.2 hz
    by_cases hk0 : k = 0
    ·subst hk0
     have H9 := Lib.hid (HYes.out (by rw [t0]; simp [prevAt]; have := HP0.out rfl; omega))
     simp only [Nat.zero_mul, Nat.add_zero, Int.natCast_zero] at q2 q3 i1 ⊢
     have i2 : (0 : Int) ≤ 0 := by omega
     clear HNo HYes
     go_wp2_with fail
     go_quiet (fail)
     go_wp2_with fail
     go_roundw
     case rel => exact ⟨1, by go_num, by omega, bDr hBd _, H9.out⟩
     case measure => simp [intOf]; omega
    ·obtain ⟨j, rfl⟩ : ∃ j, k = j + 1 := ⟨k - 1, by omega⟩
     obtain ⟨y, b', off', hy, e1, hbb', hc'⟩ := HL.out.at (j := j) (by omega)
     injection e1 with e1
     injection e1 with e1 e2
     subst e1; subst e2
     have q4 : w6.cell? ⟨b, off + j * 2, none⟩ = some (.int .i64 y.1) := (hBd.cell (p := ⟨b, off + j * 2, none⟩) hbb).trans (hc' 0 (by omega))
     have hpv : prevAt l (j + 1) = y.1 := prevAt_succ hy
     rw [hpv] at HNo HYes
     obtain ⟨⟨y1, y2⟩, -, -⟩ := HU.out y (List.mem_of_getElem? hy)
     have i2 : (0 : Int) < (j : Int) + 1 := by omega
     have i3 : (j : Int) + 1 < (len : Int) := by omega
     have i4 : (j : Int) < (len : Int) := by omega
     clear hc' hy hpv
     by_cases hxy : x.1 ≤ y.1
     ·have t1 : decide (x.1 ≤ y.1) = true := decide_eq_true hxy
      have H9 : Hid (bR = false) := HNo.out (by rw [t1]; simp)
      clear HNo HYes
      go_wp2_with fail
      go_quiet (fail)
      go_wp2_with fail
      go_ret
      exact ⟨by rw [H9.out]; rfl, HB0.out.trans ((bDr hBd _).mono HB0.out.size)⟩
     ·have t1 : decide (x.1 ≤ y.1) = false := decide_eq_false hxy
      have H9 := Lib.hid (HYes.out (by rw [t1, t0]; rfl))
      clear HNo HYes
      go_wp2_with fail
      go_quiet (fail)
      go_wp2_with fail
      go_roundw
      case rel => exact ⟨j + 1 + 1, by go_num, by omega, bDr hBd _, H9.out⟩
      case measure => simp [intOf]; omega
  ·obtain rfl : k = len := by omega
   have H9 : Hid (bR = isFineB f) := by rw [Hid, HS.out, List.drop_of_length_le (by rw [HN.out]; exact Nat.le_refl _)]; simp [foldO_nil]
   by_cases h1 : 0 ≤ f
   ·by_cases h2 : f ≤ 3
    ·have H8 : Hid (bR = true) := by rw [Hid, H9.out, HFi.out, decide_eq_true h1, decide_eq_true h2]; rfl
     go_wp2_with fail
     go_ret
     exact ⟨by rw [H8.out]; rfl, HB0.out.trans (hB.mono HB0.out.size)⟩
    ·have H8 : Hid (bR = false) := by rw [Hid, H9.out, HFi.out, decide_eq_false h2, Bool.and_false]
     go_wp2_with fail
     go_ret
     exact ⟨by rw [H8.out]; rfl, HB0.out.trans (hB.mono HB0.out.size)⟩
   ·have H8 : Hid (bR = false) := by rw [Hid, H9.out, HFi.out, decide_eq_false h1, Bool.false_and]
    go_wp2_with fail
    go_ret
    exact ⟨by rw [H8.out]; rfl, HB0.out.trans (hB.mono HB0.out.size)⟩
end Go.Proofs.YtcbbenncdainfaaGreatDoor
namespace Go.Proofs.YtcbbenncdainfaaGreatDoor
open Go Go.RowKit Go.Shelf
set_option maxRecDepth 100000 in
set_option maxHeartbeats 2000000 in
theorem ref09_Same_any (f1 : Int) (a1 : Option Addr) (len1 cap1 : Nat) (l1 : List (Int × Int)) (f2 : Int) (a2 : Option Addr) (len2 cap2 : Nat) (l2 : List (Int × Int)) (w : World) (h1 : SlE encB 2 w.heap.size w a1 len1 l1) (h2 : SlE encB 2 w.heap.size w a2 len2 l2) (hm : len1 ≤ maxLen) :
  Calls Tryz.prog 43 #[.agg #[.int .i64 f1, .slice a1 len1 cap1], .agg #[.int .i64 f2, .slice a2 len2 cap2]] w fun e w' => e = .returned (.bool (f1 == f2 && l1 == l2)) ∧ Below w.heap.size w w' := by
 have e1 := h1.1
 have e2 := h2.1
 unfold maxLen at hm
 obtain ⟨W0, hW0, hX0, hX1, hB0, hs0⟩ := boxes2 w #[.int .i64 f1, .slice a1 len1 cap1] 31 #[.int .i64 f2, .slice a2 len2 cap2] 31
 have H1 := Lib.hid (h1.go hB0)
 have H2 := Lib.hid (h2.go hB0)
 have HB0 := Lib.hid hB0
 have hz0 : w.heap.size < W0.heap.size := by omega
 have hz1 : w.heap.size + 1 < W0.heap.size := by omega
 obtain ⟨d0, d1⟩ := cl2 hX0
 obtain ⟨g0, g1⟩ := cl2 hX1
 clear hX0 hX1 hB0 h1 h2
 cases hr : (f1 == f2) with
 | false =>
  have t0 : (f1 != f2) = true := by rw [bne, hr]; rfl
  clear hr e1 e2
  go_enter Tryz.func43, Tryz.ntmps43
  go_wp2_with fail
  go_ret
  exact ⟨rfl, HB0.out⟩
 | true =>
  have t0 : (f1 != f2) = false := by rw [bne, hr]; rfl
  rw [Bool.true_and]
  clear hr
  by_cases hl : len1 = len2
  ·subst hl
   have t1 : ((len1 : Int) != (len1 : Int)) = false := by simp
   have E1 := Lib.hid e1
   have E2 := Lib.hid e2
   clear e1 e2
   go_enter Tryz.func43, Tryz.ntmps43
   go_wp2_with fail
   go_loopw [5] (fun i wr => ∃ (k : Nat), i = .int .i64 k ∧ k ≤ len1 ∧ Below W0.heap.size W0 wr ∧ Hid (l1.take k = l2.take k)) (fun i _ => len1 - (intOf i).toNat)
   case atStart => exact ⟨0, rfl, Nat.zero_le _, Below.refl _ _, rfl⟩
   case round =>
    obtain ⟨k, rfl, hk, hB, HF⟩ := hrel
    have r0 : wr.cell? ⟨w.heap.size, 1, none⟩ = some (.slice a1 len1 cap1) := (hB.cell (p := ⟨w.heap.size, 1, none⟩) hz0).trans d1
    have r1 : wr.cell? ⟨w.heap.size + 1, 1, none⟩ = some (.slice a2 len1 cap2) := (hB.cell (p := ⟨w.heap.size + 1, 1, none⟩) hz1).trans g1
    by_cases hlt : k < len1
    ·obtain ⟨x, b1, o1, hx, ea1, hb1, hc1⟩ := (H1.out.below hB).at hlt
     obtain ⟨y, b2, o2, hy, ea2, hb2, hc2⟩ := (H2.out.below hB).at hlt
     subst ea1; subst ea2
     have p0 : wr.cell? ⟨b1, o1 + k * 2, none⟩ = some (.int .i64 x.1) := hc1 0 (by omega)
     have p1 : wr.cell? ⟨b1, o1 + k * 2 + 1, none⟩ = some (.int .u64 x.2) := hc1 1 (by omega)
     have q0 : wr.cell? ⟨b2, o2 + k * 2, none⟩ = some (.int .i64 y.1) := hc2 0 (by omega)
     have q1 : wr.cell? ⟨b2, o2 + k * 2 + 1, none⟩ = some (.int .u64 y.2) := hc2 1 (by omega)
     have i0 : (0 : Int) ≤ (k : Int) := by omega
     have i1 : (k : Int) < (len1 : Int) := by omega
     have HX := Lib.hid hx
     have HY := Lib.hid hy
     obtain ⟨x1, x2⟩ := x
     obtain ⟨y1, y2⟩ := y
     dsimp only at p0 p1 q0 q1
     clear hc1 hc2 hx hy
     have hne : ¬ (x1 = y1 ∧ x2 = y2) → (l1 == l2) = false := fun h => by
      rw [beq_eq_false_iff_ne]
      intro e
      have hx := HX.out
      rw [e, HY.out] at hx
      have h3 := Option.some.inj hx
      injection h3 with h4 h5
      exact h ⟨h4.symm, h5.symm⟩
     have HNe := Lib.hid hne
     clear hne
     by_cases hx1 : x1 = y1
     ·by_cases hx2 : x2 = y2
      ·subst hx1; subst hx2
       clear HNe
       go_wp2_with fail
       go_quiet (fail)
       go_wp2_with fail
       go_roundw
       case rel => exact ⟨k + 1, by go_num, by omega, bDr hB _, by rw [Hid, take_snoc' HX.out, take_snoc' HY.out, HF.out]⟩
       case measure => simp [intOf]; omega
      ·have H9 : Hid ((l1 == l2) = false) := HNe.out (fun h => hx2 h.2)
       have n2 : (x2 == y2) = false := beq_eq_false_iff_ne.2 hx2
       clear HNe
       go_wp2_with fail
       go_quiet (fail)
       go_wp2_with fail
       go_ret
       exact ⟨by rw [H9.out]; rfl, HB0.out.trans ((bDr hB _).mono HB0.out.size)⟩
     ·have H9 : Hid ((l1 == l2) = false) := HNe.out (fun h => hx1 h.1)
      have n1 : (x1 == y1) = false := beq_eq_false_iff_ne.2 hx1
      clear HNe
      go_wp2_with fail
      go_quiet (fail)
      go_wp2_with fail
      go_ret
      exact ⟨by rw [H9.out]; rfl, HB0.out.trans ((bDr hB _).mono HB0.out.size)⟩
    ·obtain rfl : k = len1 := by omega
     go_wp2_with fail
     go_ret
     have h9 := HF.out
     rw [List.take_of_length_le (by rw [← E1.out]; omega), List.take_of_length_le (by rw [← E2.out]; omega)] at h9
     exact ⟨by rw [h9]; simp, HB0.out.trans (hB.mono HB0.out.size)⟩
  ·have t1 : ((len1 : Int) != (len2 : Int)) = true := by rw [bne_iff_ne]; omega
   have hne : Hid ((l1 == l2) = false) := by
    rw [Hid, beq_eq_false_iff_ne]
    intro e
    rw [e] at e1
    omega
   clear e1 e2
   go_enter Tryz.func43, Tryz.ntmps43
   go_wp2_with fail
   go_ret
   exact ⟨by rw [hne.out]; rfl, HB0.out⟩
end Go.Proofs.YtcbbenncdainfaaGreatDoor
namespace Go.Proofs.YtcbbenncdainfaaGreatDoor
open Go Go.RowKit Go.Shelf
theorem ref10_Bottom_any (k : Int) (w : World) : Calls Tryz.prog 22 #[.int .i64 k] w fun e w' => e = .returned (.int .i64 (bottomB k)) ∧ w = w' := by
 cases h1 : (k == 1) with
 | true =>
  go_enter Tryz.func22, Tryz.ntmps22
  go_wp2
  go_ret
  exact ⟨by simp [bottomB, h1], rfl⟩
 | false =>
  cases h2 : (k == 2) with
  | true =>
   go_enter Tryz.func22, Tryz.ntmps22
   go_wp2
   go_ret
   exact ⟨by simp [bottomB, h1, h2], rfl⟩
  | false =>
   cases h3 : (k == 3) with
   | true =>
    go_enter Tryz.func22, Tryz.ntmps22
    go_wp2
    go_ret
    exact ⟨by simp [bottomB, h1, h2, h3], rfl⟩
   | false =>
    go_enter Tryz.func22, Tryz.ntmps22
    go_wp2
    go_ret
    exact ⟨by simp [bottomB, h1, h2, h3], rfl⟩
end Go.Proofs.YtcbbenncdainfaaGreatDoor
namespace Go.Proofs.YtcbbenncdainfaaGreatDoor
open Go Go.RowKit Go.Shelf
set_option maxRecDepth 100000 in
set_option maxHeartbeats 4000000 in
theorem ref10_Same_any (x y : Sk) (s t : SS) (w : World) (hx : s.At w.heap.size w x) (hy : t.At w.heap.size w y) :
  Calls Tryz.prog 13 #[.agg #[.int .i64 x.kind, .int .i64 x.level, .slice s.ea s.el s.ec, .int .i64 x.hb, .string x.hr, .int .i64 x.cr, .int .i64 x.cc, .slice s.ca s.cl s.cc, .int .i64 x.gf, .slice s.ga s.gl s.gc], .agg #[.int .i64 y.kind, .int .i64 y.level, .slice t.ea t.el t.ec, .int .i64 y.hb, .string y.hr, .int .i64 y.cr, .int .i64 y.cc, .slice t.ca t.cl t.cc, .int .i64 y.gf, .slice t.ga t.gl t.gc]] w fun e w' => e = .returned (.bool (skSame x y)) ∧ Below w.heap.size w w' := by
 obtain ⟨W0, hW0, hX0, hX1, hB0, hs0⟩ := boxes2 w #[.int .i64 x.kind, .int .i64 x.level, .slice s.ea s.el s.ec, .int .i64 x.hb, .string x.hr, .int .i64 x.cr, .int .i64 x.cc, .slice s.ca s.cl s.cc, .int .i64 x.gf, .slice s.ga s.gl s.gc] 33 #[.int .i64 y.kind, .int .i64 y.level, .slice t.ea t.el t.ec, .int .i64 y.hb, .string y.hr, .int .i64 y.cr, .int .i64 y.cc, .slice t.ca t.cl t.cc, .int .i64 y.gf, .slice t.ga t.gl t.gc] 33
 have HB0 := Lib.hid hB0
 have HX0 := Lib.hid hX0
 have HX1 := Lib.hid hX1
 obtain ⟨c0, c1, c2, c3, c4, c5, c6, c7, c8, c9⟩ := cl10 hX0
 obtain ⟨d0, d1, d2, d3, d4, d5, d6, d7, d8, d9⟩ := cl10 hX1
 have n1 := eql_hll x.hb y.hb x.hr y.hr
 have n2 := eg_hll
 have gx := hx.go hB0
 have gy := hy.go hB0
 clear hx hy hX0 hX1 hB0
 have hE := Lib.hid (ref06_Numbers_any s.ea s.el s.ec x.e t.ea t.el t.ec y.e W0 gx.e.1 gy.e.1 (Nat.le_trans gx.e.2.1 gx.e.2.2.1))
 have G := Lib.hid (And.intro gx gy)
 clear gx gy
 cases h1 : (x.kind == y.kind) with
 | false =>
  have HR : Hid (skSame x y = false) := by simp [Hid, skSame, h1]
  clear n1
  go_enter Tryz.func13, Tryz.ntmps13
  go_wp2_with fail
  go_ret
  exact ⟨by rw [HR.out]; rfl, HB0.out⟩
 | true =>
 cases h2 : (x.level == y.level) with
 | false =>
  have HR : Hid (skSame x y = false) := by simp [Hid, skSame, h2]
  clear n1
  go_enter Tryz.func13, Tryz.ntmps13
  go_wp2_with fail
  go_ret
  exact ⟨by rw [HR.out]; rfl, HB0.out⟩
 | true =>
 have HR : Hid (skSame x y = ((x.hb == y.hb && x.hr.toList == y.hr.toList) && x.e == y.e && (x.cr == y.cr && x.cc == y.cc && x.cl == y.cl) && (x.gf == y.gf && x.gl == y.gl))) := by simp only [Hid, skSame, h1, h2, Bool.true_and]
 generalize hh : (x.hb == y.hb && x.hr.toList == y.hr.toList) = bh at HR n1
 generalize he : (x.e == y.e) = be at HR hE
 clear hh he
 go_enter Tryz.func13, Tryz.ntmps13
 go_wp2_with fail
 refine hE.out.mono ?_
 rintro e w1 ⟨rfl, hb1⟩
 have hX0' := known hb1 (Nat.le_refl _) HX0.out
 have hX1' := known hb1 (Nat.le_refl _) HX1.out
 obtain ⟨p0, p1, p2, p3, p4, p5, p6, p7, p8, p9⟩ := cl10 hX0'
 obtain ⟨q0, q1, q2, q3, q4, q5, q6, q7, q8, q9⟩ := cl10 hX1'
 have gx1 := G.out.1.go hb1
 have gy1 := G.out.2.go hb1
 have hC := Lib.hid (ref08_Same_any x.cr x.cc s.ca s.cl s.cc x.cl y.cr y.cc t.ca t.cl t.cc y.cl w1 gx1.c.1 gy1.c.1 (Nat.le_trans gx1.c.2.1 gx1.c.2.2.1))
 have G1 := Lib.hid (And.intro gx1 gy1)
 have HX0' := Lib.hid hX0'
 have HX1' := Lib.hid hX1'
 have HB1 := Lib.hid (HB0.out.trans (hb1.mono HB0.out.size))
 clear hW0 hE c0 c1 c2 c3 c4 c5 c6 c7 c8 c9 d0 d1 d2 d3 d4 d5 d6 d7 d8 d9 gx1 gy1 G hX0' hX1' hb1
 cases be with
 | false =>
  clear hC n1
  go_wp2_with fail
  go_ret
  exact ⟨by rw [HR.out]; simp, HB1.out⟩
 | true =>
 cases bh with
 | false =>
  clear hC
  go_wp2_with fail
  go_ret
  exact ⟨by rw [HR.out]; simp, HB1.out⟩
 | true =>
 generalize hc : (x.cr == y.cr && x.cc == y.cc && x.cl == y.cl) = bc at HR hC
 clear hc
 go_wp2_with fail
 refine hC.out.mono ?_
 rintro e w2 ⟨rfl, hb2⟩
 have hX0 := known hb2 (Nat.le_refl _) HX0'.out
 have hX1 := known hb2 (Nat.le_refl _) HX1'.out
 obtain ⟨r0, r1, r2, r3, r4, r5, r6, r7, r8, r9⟩ := cl10 hX0
 obtain ⟨u0, u1, u2, u3, u4, u5, u6, u7, u8, u9⟩ := cl10 hX1
 have gx2 := G1.out.1.go hb2
 have gy2 := G1.out.2.go hb2
 have hH := Lib.hid (ref09_Same_any x.gf s.ga s.gl s.gc x.gl y.gf t.ga t.gl t.gc y.gl w2 gx2.g.1 gy2.g.1 (Nat.le_trans gx2.g.2.1 gx2.g.2.2.1))
 have HB2 := Lib.hid (HB1.out.trans (hb2.mono HB1.out.size))
 clear hC p0 p1 p2 p3 p4 p5 p6 p7 p8 p9 q0 q1 q2 q3 q4 q5 q6 q7 q8 q9 gx2 gy2 G1 hX0 hX1 hb2
 cases bc with
 | false =>
  clear hH
  go_wp2_with fail
  go_ret
  exact ⟨by rw [HR.out]; simp, HB2.out⟩
 | true =>
 go_wp2_with fail
 refine hH.out.mono ?_
 rintro e w3 ⟨rfl, hb3⟩
 clear hH
 go_wp2_with fail
 go_ret
 exact ⟨by rw [HR.out]; simp, HB2.out.trans (hb3.mono HB2.out.size)⟩
end Go.Proofs.YtcbbenncdainfaaGreatDoor
