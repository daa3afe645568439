/- The reference of layer 9: Bounds. The reference of layer 9: Right, Same. The reference of layer 10: Bottom; Same at equal sketches. The reference of layer 10: Right, at the sketches of the program's. The reference of layer 10: Right, at registers. The reference of layer 10: Right, at buckets. -/
import Derived.Test.YthbhmnakmhambaaGreatDoorZXL
import Derived.Test.YthbhmnakmhambaaGreatDoorZRD
import Derived.Test.YthbhmnakmhambaaGreatDoorZQO
namespace Go.Proofs.YthbhmnakmhambaaGreatDoor
open Go Go.RowKit Go.Shelf
def rfLow (f n : Nat) : Nat := if (n - 1) / 2 ^ f < f then ((n - 1) % 2 ^ f + 2 ^ f) / 2 ^ (f - (n - 1) / 2 ^ f) else ((n - 1) % 2 ^ f + 2 ^ f) * 2 ^ ((n - 1) / 2 ^ f - f)
theorem rf_small : ∀ f ∈ [1, 2, 3], ∀ n ∈ List.range 25, 1 ≤ n → (n - 1) / 2 ^ f < f → boundsB ((f : Nat) : Int) ((n : Nat) : Int) = (hiBk ((f : Nat) : Int) (rfLow f n) == ((n : Nat) : Int)) := by decide +kernel
theorem rf_least : ∀ f ∈ [1, 2, 3], ∀ n ∈ List.range 513, 1 ≤ n → boundsB ((f : Nat) : Int) ((n : Nat) : Int) = true → ((rfLow f n : Nat) : Int) = hiLeast f ((n : Nat) : Int) := by decide +kernel
theorem rf_large (f n : Nat) (hf : f ≤ 3) (h1 : 1 ≤ n) (hb : f ≤ (n - 1) / 2 ^ f) (h64 : (n - 1) / 2 ^ f < 64) : boundsB f n = true := by
 have e1 : (((n : Int) - 1) / 2 ^ ((f : Int)).toNat) = (((n - 1) / 2 ^ f : Nat) : Int) := by
  rw [Int.toNat_natCast, show ((n : Int) - 1) = ((n - 1 : Nat) : Int) by omega]; simp
 unfold boundsB
 rw [isFine_nat f hf, e1, decide_eq_true (by omega : (0 : Int) ≤ n), Bool.and_true, if_pos rfl, if_neg (by simp; omega), if_neg (by omega), if_pos (by omega)]
theorem rf_out (f n : Nat) (h1 : 1 ≤ n) (h64 : 64 ≤ (n - 1) / 2 ^ f) : boundsB f n = false := by
 have e1 : (((n : Int) - 1) / 2 ^ ((f : Int)).toNat) = (((n - 1) / 2 ^ f : Nat) : Int) := by
  rw [Int.toNat_natCast, show ((n : Int) - 1) = ((n - 1 : Nat) : Int) by omega]; simp
 unfold boundsB
 split
 ·rw [e1, if_neg (by simp; omega), if_pos (by omega)]
 ·rfl
def BdR (f n : Int) (w : World) (e : Ending) (w' : World) : Prop := ∃ lo hi : Int, e = .returned (.tuple #[.int .u64 lo, .int .u64 hi, .bool (boundsB f n)]) ∧ (boundsB f n = true → 1 ≤ f → lo = hiLeast f.toNat n) ∧ Below w.heap.size w w'
theorem BdR.of {f n lo hi : Int} {w w' : World} {b : Bool} (h1 : boundsB f n = b) (h2 : b = true → 1 ≤ f → lo = hiLeast f.toNat n) (hB : Below w.heap.size w w') : BdR f n w (.returned (.tuple #[.int .u64 lo, .int .u64 hi, .bool b])) w' := ⟨lo, hi, by rw [h1], (by rw [h1]; exact h2), hB⟩
set_option maxHeartbeats 1000000 in
theorem ref09_Bounds_no (f n : Int) (h : f < 0 ∨ 3 < f ∨ n < 0) (w : World) : Calls Tryz.prog 75 #[.int .i64 f, .int .i64 n] w (BdR f n w) := by
 have HB : Hid (boundsB f n = false) := by
  unfold boundsB isFineB
  rw [Hid, if_neg]
  simp
  omega
 have HE : Hid (BdR f n w (.returned (.tuple #[.int .u64 0, .int .u64 0, .bool false])) w) := BdR.of HB.out (fun h => by cases h) (Below.refl _ _)
 by_cases h1 : f < 0
 ·generalize hQ : BdR f n w = Q at HE ⊢
  clear hQ
  go_enter Tryz.func75, Tryz.ntmps75
  go_wp2_with fail
  go_ret3
  exact HE.out
 by_cases h2 : 3 < f
 ·generalize hQ : BdR f n w = Q at HE ⊢
  clear hQ
  go_enter Tryz.func75, Tryz.ntmps75
  go_wp2_with fail
  go_ret3
  exact HE.out
 ·have h3 : n < 0 := by omega
  generalize hQ : BdR f n w = Q at HE ⊢
  clear hQ
  go_enter Tryz.func75, Tryz.ntmps75
  go_wp2_with fail
  go_ret3
  exact HE.out
set_option maxHeartbeats 1000000 in
theorem ref09_Bounds_0 (f : Nat) (hf : f ≤ 3) (w : World) : Calls Tryz.prog 75 #[.int .i64 f, .int .i64 0] w (BdR f 0 w) := by
 have HE : Hid (BdR f 0 w (.returned (.tuple #[.int .u64 0, .int .u64 0, .bool true])) w) := by
  refine BdR.of (by unfold boundsB; rw [isFine_nat f hf]; rfl) (fun _ h => ?_) (Below.refl _ _)
  rcases (by omega : f = 1 ∨ f = 2 ∨ f = 3) with rfl | rfl | rfl <;> decide +kernel
 generalize hQ : BdR f 0 w = Q at HE ⊢
 clear hQ
 rcases (by omega : f = 0 ∨ f = 1 ∨ f = 2 ∨ f = 3) with rfl | rfl | rfl | rfl
 all_goals go_enter Tryz.func75, Tryz.ntmps75
 all_goals go_wp2_with fail
 all_goals go_ret3
 all_goals exact HE.out
set_option maxHeartbeats 1000000 in
theorem ref09_Bounds_far (f n : Nat) (hf : f ≤ 3) (h1 : 64 * 2 ^ f < n) (hn : n < 9223372036854775808) (w : World) : Calls Tryz.prog 75 #[.int .i64 f, .int .i64 n] w (BdR f n w) := by
 have HE : Hid (BdR f n w (.returned (.tuple #[.int .u64 0, .int .u64 0, .bool false])) w) := by
  refine BdR.of (rf_out f n (by omega) ?_) (fun h => by cases h) (Below.refl _ _)
  rw [Nat.le_div_iff_mul_le (Nat.two_pow_pos _)]
  omega
 generalize hQ : BdR f n w = Q at HE ⊢
 clear hQ
 rcases (by omega : f = 0 ∨ f = 1 ∨ f = 2 ∨ f = 3) with rfl | rfl | rfl | rfl
 all_goals simp only [Nat.reducePow, Nat.reduceMul] at h1
 all_goals go_enter Tryz.func75, Tryz.ntmps75
 all_goals go_wp2_with fail
 all_goals go_ret3
 all_goals exact HE.out
set_option maxHeartbeats 2000000 in
theorem ref09_Bounds_near (f n : Nat) (hf : f ≤ 3) (h1 : 1 ≤ n) (hb : f ≤ (n - 1) / 2 ^ f) (h64 : (n - 1) / 2 ^ f < 64) (w : World) : Calls Tryz.prog 75 #[.int .i64 f, .int .i64 n] w (BdR f n w) := by
 have HOk := rf_large f n hf h1 hb h64
 have hle : n ≤ 512 := by
  have h2 : n - 1 < 64 * 2 ^ f := (Nat.div_lt_iff_lt_mul (Nat.two_pow_pos _)).1 h64
  have h3 : 2 ^ f ≤ 2 ^ 3 := Nat.pow_le_pow_right (by omega) hf
  omega
 have HE : Hid (∀ (lo hi : Int) w', lo = rfLow f n → Below w.heap.size w w' → BdR f n w (.returned (.tuple #[.int .u64 lo, .int .u64 hi, .bool true])) w') := fun lo hi w' hlo hB => by
  refine BdR.of HOk (fun _ h => ?_) hB
  have hf1 : 1 ≤ f := by omega
  rw [hlo, Int.toNat_natCast]
  exact rf_least f (by simp; omega) n (List.mem_range.2 (by omega)) h1 HOk
 have hlow : rfLow f n = ((n - 1) % 2 ^ f + 2 ^ f) * 2 ^ ((n - 1) / 2 ^ f - f) := by unfold rfLow; rw [if_neg (by omega)]
 have hsm : ((n - 1) % 2 ^ f + 2 ^ f) * 2 ^ ((n - 1) / 2 ^ f - f) < 2 ^ 64 := by
  have g1 := Nat.mod_lt (n - 1) (Nat.two_pow_pos f)
  have g2 : (n - 1) % 2 ^ f + 2 ^ f < 2 ^ (f + 1) := by rw [Nat.pow_succ]; omega
  have g3 : ((n - 1) % 2 ^ f + 2 ^ f) * 2 ^ ((n - 1) / 2 ^ f - f) < 2 ^ (f + 1) * 2 ^ ((n - 1) / 2 ^ f - f) := Nat.mul_lt_mul_of_pos_right g2 (Nat.two_pow_pos _)
  rw [← Nat.pow_add] at g3
  exact Nat.lt_of_lt_of_le g3 (Nat.pow_le_pow_right (by omega) (by omega))
 generalize hQ : BdR f n w = Q at HE ⊢
 clear hQ HOk
 rw [hlow] at HE
 clear hlow
 obtain ⟨m, rfl⟩ : ∃ m, n = m + 1 := ⟨n - 1, by omega⟩
 simp only [Nat.add_sub_cancel] at *
 rcases (by omega : f = 0 ∨ f = 1 ∨ f = 2 ∨ f = 3) with rfl | rfl | rfl | rfl
 ·simp only [Nat.pow_zero, Nat.div_one, Nat.mod_one, Nat.sub_zero, Nat.zero_add, Nat.one_mul] at *
  have e4 : IntKind.u64.wrap (2 ^ m) = ((2 ^ m : Nat) : Int) := by
   have e : (2 : Int) ^ m = ((2 ^ m : Nat) : Int) := by simp
   rw [e]
   generalize 2 ^ m = q at hsm
   exact IntWalk.u64_in _ (by omega)
  have HE4 := Lib.hid e4
  clear e4
  go_enter Tryz.func75, Tryz.ntmps75
  go_wp2_with fail
  go_quiet (fail)
  go_wp2_with fail
  go_quiet (fail)
  go_wp2_with fail
  go_ret3
  exact HE.out _ _ _ HE4.out (bDr (bDr (Below.refl _ _) _) _)
 ·simp only [Nat.reducePow] at *
  obtain ⟨c, hc⟩ : ∃ c, m / 2 = c + 1 := ⟨m / 2 - 1, by omega⟩
  obtain ⟨p, hp⟩ : ∃ p, m % 2 = p := ⟨_, rfl⟩
  rw [hc, hp, Nat.add_sub_cancel] at HE hsm
  have e4 : IntKind.u64.wrap (((m : Int) % 2 + 2) * 2 ^ (m / 2 - 1)) = (((p + 2) * 2 ^ c : Nat) : Int) := by
   rw [show m / 2 - 1 = c by omega, show (m : Int) % 2 = (p : Int) by omega]
   have e : ((p : Int) + 2) * 2 ^ c = (((p + 2) * 2 ^ c : Nat) : Int) := by simp
   rw [e]
   exact IntWalk.u64_in _ (by omega)
  have HE4 := Lib.hid e4
  clear e4
  go_enter Tryz.func75, Tryz.ntmps75
  go_wp2_with fail
  go_quiet (fail)
  go_wp2_with fail
  go_quiet (fail)
  go_wp2_with fail
  go_ret3
  exact HE.out _ _ _ HE4.out (bDr (bDr (Below.refl _ _) _) _)
 ·simp only [Nat.reducePow] at *
  obtain ⟨c, hc⟩ : ∃ c, m / 4 = c + 2 := ⟨m / 4 - 2, by omega⟩
  obtain ⟨p, hp⟩ : ∃ p, m % 4 = p := ⟨_, rfl⟩
  rw [hc, hp, Nat.add_sub_cancel] at HE hsm
  have e4 : IntKind.u64.wrap (((m : Int) % 4 + 4) * 2 ^ (m / 4 - 2)) = (((p + 4) * 2 ^ c : Nat) : Int) := by
   rw [show m / 4 - 2 = c by omega, show (m : Int) % 4 = (p : Int) by omega]
   have e : ((p : Int) + 4) * 2 ^ c = (((p + 4) * 2 ^ c : Nat) : Int) := by simp
   rw [e]
   exact IntWalk.u64_in _ (by omega)
  have HE4 := Lib.hid e4
  clear e4
  go_enter Tryz.func75, Tryz.ntmps75
  go_wp2_with fail
  go_quiet (fail)
  go_wp2_with fail
  go_quiet (fail)
  go_wp2_with fail
  go_ret3
  exact HE.out _ _ _ HE4.out (bDr (bDr (Below.refl _ _) _) _)
 ·simp only [Nat.reducePow] at *
  obtain ⟨c, hc⟩ : ∃ c, m / 8 = c + 3 := ⟨m / 8 - 3, by omega⟩
  obtain ⟨p, hp⟩ : ∃ p, m % 8 = p := ⟨_, rfl⟩
  rw [hc, hp, Nat.add_sub_cancel] at HE hsm
  have e4 : IntKind.u64.wrap (((m : Int) % 8 + 8) * 2 ^ (m / 8 - 3)) = (((p + 8) * 2 ^ c : Nat) : Int) := by
   rw [show m / 8 - 3 = c by omega, show (m : Int) % 8 = (p : Int) by omega]
   have e : ((p : Int) + 8) * 2 ^ c = (((p + 8) * 2 ^ c : Nat) : Int) := by simp
   rw [e]
   exact IntWalk.u64_in _ (by omega)
  have HE4 := Lib.hid e4
  clear e4
  go_enter Tryz.func75, Tryz.ntmps75
  go_wp2_with fail
  go_quiet (fail)
  go_wp2_with fail
  go_quiet (fail)
  go_wp2_with fail
  go_ret3
  exact HE.out _ _ _ HE4.out (bDr (bDr (Below.refl _ _) _) _)
set_option maxHeartbeats 2000000 in
theorem ref09_Bounds_low (f n : Nat) (hf : f ≤ 3) (h1 : 1 ≤ n) (hb : (n - 1) / 2 ^ f < f) (w : World) : Calls Tryz.prog 75 #[.int .i64 f, .int .i64 n] w (BdR f n w) := by
 have hf1 : 1 ≤ f := Nat.lt_of_le_of_lt (Nat.zero_le _) hb
 have hle : n < 25 := by
  have h2 : n - 1 < f * 2 ^ f := (Nat.div_lt_iff_lt_mul (Nat.two_pow_pos _)).1 hb
  have h3 : f * 2 ^ f ≤ 3 * 2 ^ 3 := Nat.mul_le_mul hf (Nat.pow_le_pow_right (by omega) hf)
  omega
 have HOk : Hid (boundsB f n = (hiBk f (rfLow f n) == (n : Int))) := rf_small f (by simp; omega) n (List.mem_range.2 hle) h1 hb
 have HT : Hid (∀ (lo hi : Int) w', lo = rfLow f n → (hiBk f (rfLow f n) == (n : Int)) = true → Below w.heap.size w w' → BdR f n w (.returned (.tuple #[.int .u64 lo, .int .u64 hi, .bool true])) w') := fun lo hi w' hlo hq hB => by
  have hok := HOk.out.trans hq
  refine BdR.of hok (fun _ h => ?_) hB
  rw [hlo, Int.toNat_natCast]
  exact rf_least f (by simp; omega) n (List.mem_range.2 (by omega)) h1 hok
 have HF : Hid (∀ (lo hi : Int) w', (hiBk f (rfLow f n) == (n : Int)) = false → Below w.heap.size w w' → BdR f n w (.returned (.tuple #[.int .u64 lo, .int .u64 hi, .bool false])) w') := fun lo hi w' hq hB => BdR.of (HOk.out.trans hq) (fun h => by cases h) hB
 have hlow : rfLow f n = ((n - 1) % 2 ^ f + 2 ^ f) / 2 ^ (f - (n - 1) / 2 ^ f) := by unfold rfLow; rw [if_pos hb]
 generalize hQ : BdR f n w = Q at HT HF ⊢
 clear hQ HOk
 rw [hlow] at HT HF
 clear hlow
 obtain ⟨m, rfl⟩ : ∃ m, n = m + 1 := ⟨n - 1, by omega⟩
 simp only [Nat.add_sub_cancel] at *
 have hcases : (f = 1 ∧ m / 2 ^ f = 0) ∨ (f = 2 ∧ m / 2 ^ f = 0) ∨ (f = 2 ∧ m / 2 ^ f = 1) ∨ (f = 3 ∧ m / 2 ^ f = 0) ∨ (f = 3 ∧ m / 2 ^ f = 1) ∨ (f = 3 ∧ m / 2 ^ f = 2) := by
  rcases (by omega : f = 1 ∨ f = 2 ∨ f = 3) with rfl | rfl | rfl
  ·exact .inl ⟨rfl, by omega⟩
  ·rcases (by omega : m / 2 ^ 2 = 0 ∨ m / 2 ^ 2 = 1) with h | h
   ·exact .inr (.inl ⟨rfl, h⟩)
   ·exact .inr (.inr (.inl ⟨rfl, h⟩))
  ·rcases (by omega : m / 2 ^ 3 = 0 ∨ m / 2 ^ 3 = 1 ∨ m / 2 ^ 3 = 2) with h | h | h
   ·exact .inr (.inr (.inr (.inl ⟨rfl, h⟩)))
   ·exact .inr (.inr (.inr (.inr (.inl ⟨rfl, h⟩))))
   ·exact .inr (.inr (.inr (.inr (.inr ⟨rfl, h⟩))))
 rcases hcases with ⟨rfl, hc⟩ | ⟨rfl, hc⟩ | ⟨rfl, hc⟩ | ⟨rfl, hc⟩ | ⟨rfl, hc⟩ | ⟨rfl, hc⟩
 ·simp only [Nat.reducePow] at hc hb HT HF
  rw [hc] at HT HF
  simp only [Nat.reduceSub, Nat.reducePow] at HT HF
  obtain ⟨p, hp⟩ : ∃ p, m % 2 = p := ⟨_, rfl⟩
  have hp4 : p < 2 := by omega
  rw [hp] at HT HF
  have e0 : (m : Int) / 2 = 0 := by omega
  have e1 : (m : Int) % 2 = (p : Int) := by omega
  obtain ⟨lo, hlo⟩ : ∃ lo, (p + 2) / 2 = lo := ⟨_, rfl⟩
  have e2 : ((p : Int) + 2) / 2 = (lo : Int) := by omega
  have hl16 : lo < 2 ^ 64 := by omega
  have HBk := Lib.hid (fun W => ref09_Bucket_any 1 lo (by omega) hl16 W)
  rw [hlo] at HT HF
  have hbk := IntWalk.i64_in
  clear hlo hp
  generalize hk : hiBk (1 : Nat) lo = k at HBk HT HF
  cases hq : (k == ((m : Int) + 1)) with
  | true =>
   have t0 : (k != ((m : Int) + 1)) = false := by rw [bne, hq]; rfl
   have HT2 := Lib.hid (fun lo hi w' h hB => HT.out lo hi w' h (by rw [← hq]; simp) hB)
   clear HF HT hq
   go_enter Tryz.func75, Tryz.ntmps75
   go_wp2_with fail
   go_quiet (fail)
   go_wp2_with (go_at_call 109; refine (HBk.out _).mono ?_; rintro e w1 ⟨rfl, rfl⟩)
   go_ret3
   exact HT2.out _ _ _ rfl (bDr (Below.refl _ _) _)
  | false =>
   have t0 : (k != ((m : Int) + 1)) = true := by rw [bne, hq]; rfl
   have HF2 := Lib.hid (fun lo hi w' hB => HF.out lo hi w' (by rw [← hq]; simp) hB)
   clear HF HT hq
   go_enter Tryz.func75, Tryz.ntmps75
   go_wp2_with fail
   go_quiet (fail)
   go_wp2_with (go_at_call 109; refine (HBk.out _).mono ?_; rintro e w1 ⟨rfl, rfl⟩)
   go_ret3
   exact HF2.out _ _ _ (bDr (Below.refl _ _) _)
 ·simp only [Nat.reducePow] at hc hb HT HF
  rw [hc] at HT HF
  simp only [Nat.reduceSub, Nat.reducePow] at HT HF
  obtain ⟨p, hp⟩ : ∃ p, m % 4 = p := ⟨_, rfl⟩
  have hp4 : p < 4 := by omega
  rw [hp] at HT HF
  have e0 : (m : Int) / 4 = 0 := by omega
  have e1 : (m : Int) % 4 = (p : Int) := by omega
  obtain ⟨lo, hlo⟩ : ∃ lo, (p + 4) / 4 = lo := ⟨_, rfl⟩
  have e2 : ((p : Int) + 4) / 4 = (lo : Int) := by omega
  have hl16 : lo < 2 ^ 64 := by omega
  have HBk := Lib.hid (fun W => ref09_Bucket_any 2 lo (by omega) hl16 W)
  rw [hlo] at HT HF
  have hbk := IntWalk.i64_in
  clear hlo hp
  generalize hk : hiBk (2 : Nat) lo = k at HBk HT HF
  cases hq : (k == ((m : Int) + 1)) with
  | true =>
   have t0 : (k != ((m : Int) + 1)) = false := by rw [bne, hq]; rfl
   have HT2 := Lib.hid (fun lo hi w' h hB => HT.out lo hi w' h (by rw [← hq]; simp) hB)
   clear HF HT hq
   go_enter Tryz.func75, Tryz.ntmps75
   go_wp2_with fail
   go_quiet (fail)
   go_wp2_with (go_at_call 109; refine (HBk.out _).mono ?_; rintro e w1 ⟨rfl, rfl⟩)
   go_ret3
   exact HT2.out _ _ _ rfl (bDr (Below.refl _ _) _)
  | false =>
   have t0 : (k != ((m : Int) + 1)) = true := by rw [bne, hq]; rfl
   have HF2 := Lib.hid (fun lo hi w' hB => HF.out lo hi w' (by rw [← hq]; simp) hB)
   clear HF HT hq
   go_enter Tryz.func75, Tryz.ntmps75
   go_wp2_with fail
   go_quiet (fail)
   go_wp2_with (go_at_call 109; refine (HBk.out _).mono ?_; rintro e w1 ⟨rfl, rfl⟩)
   go_ret3
   exact HF2.out _ _ _ (bDr (Below.refl _ _) _)
 ·simp only [Nat.reducePow] at hc hb HT HF
  rw [hc] at HT HF
  simp only [Nat.reduceSub, Nat.reducePow] at HT HF
  obtain ⟨p, hp⟩ : ∃ p, m % 4 = p := ⟨_, rfl⟩
  have hp4 : p < 4 := by omega
  rw [hp] at HT HF
  have e0 : (m : Int) / 4 = 1 := by omega
  have e1 : (m : Int) % 4 = (p : Int) := by omega
  obtain ⟨lo, hlo⟩ : ∃ lo, (p + 4) / 2 = lo := ⟨_, rfl⟩
  have e2 : ((p : Int) + 4) / 2 = (lo : Int) := by omega
  have hl16 : lo < 2 ^ 64 := by omega
  have HBk := Lib.hid (fun W => ref09_Bucket_any 2 lo (by omega) hl16 W)
  rw [hlo] at HT HF
  have hbk := IntWalk.i64_in
  clear hlo hp
  generalize hk : hiBk (2 : Nat) lo = k at HBk HT HF
  cases hq : (k == ((m : Int) + 1)) with
  | true =>
   have t0 : (k != ((m : Int) + 1)) = false := by rw [bne, hq]; rfl
   have HT2 := Lib.hid (fun lo hi w' h hB => HT.out lo hi w' h (by rw [← hq]; simp) hB)
   clear HF HT hq
   go_enter Tryz.func75, Tryz.ntmps75
   go_wp2_with fail
   go_quiet (fail)
   go_wp2_with (go_at_call 109; refine (HBk.out _).mono ?_; rintro e w1 ⟨rfl, rfl⟩)
   go_ret3
   exact HT2.out _ _ _ rfl (bDr (Below.refl _ _) _)
  | false =>
   have t0 : (k != ((m : Int) + 1)) = true := by rw [bne, hq]; rfl
   have HF2 := Lib.hid (fun lo hi w' hB => HF.out lo hi w' (by rw [← hq]; simp) hB)
   clear HF HT hq
   go_enter Tryz.func75, Tryz.ntmps75
   go_wp2_with fail
   go_quiet (fail)
   go_wp2_with (go_at_call 109; refine (HBk.out _).mono ?_; rintro e w1 ⟨rfl, rfl⟩)
   go_ret3
   exact HF2.out _ _ _ (bDr (Below.refl _ _) _)
 ·simp only [Nat.reducePow] at hc hb HT HF
  rw [hc] at HT HF
  simp only [Nat.reduceSub, Nat.reducePow] at HT HF
  obtain ⟨p, hp⟩ : ∃ p, m % 8 = p := ⟨_, rfl⟩
  have hp4 : p < 8 := by omega
  rw [hp] at HT HF
  have e0 : (m : Int) / 8 = 0 := by omega
  have e1 : (m : Int) % 8 = (p : Int) := by omega
  obtain ⟨lo, hlo⟩ : ∃ lo, (p + 8) / 8 = lo := ⟨_, rfl⟩
  have e2 : ((p : Int) + 8) / 8 = (lo : Int) := by omega
  have hl16 : lo < 2 ^ 64 := by omega
  have HBk := Lib.hid (fun W => ref09_Bucket_any 3 lo (by omega) hl16 W)
  rw [hlo] at HT HF
  have hbk := IntWalk.i64_in
  clear hlo hp
  generalize hk : hiBk (3 : Nat) lo = k at HBk HT HF
  cases hq : (k == ((m : Int) + 1)) with
  | true =>
   have t0 : (k != ((m : Int) + 1)) = false := by rw [bne, hq]; rfl
   have HT2 := Lib.hid (fun lo hi w' h hB => HT.out lo hi w' h (by rw [← hq]; simp) hB)
   clear HF HT hq
   go_enter Tryz.func75, Tryz.ntmps75
   go_wp2_with fail
   go_quiet (fail)
   go_wp2_with (go_at_call 109; refine (HBk.out _).mono ?_; rintro e w1 ⟨rfl, rfl⟩)
   go_ret3
   exact HT2.out _ _ _ rfl (bDr (Below.refl _ _) _)
  | false =>
   have t0 : (k != ((m : Int) + 1)) = true := by rw [bne, hq]; rfl
   have HF2 := Lib.hid (fun lo hi w' hB => HF.out lo hi w' (by rw [← hq]; simp) hB)
   clear HF HT hq
   go_enter Tryz.func75, Tryz.ntmps75
   go_wp2_with fail
   go_quiet (fail)
   go_wp2_with (go_at_call 109; refine (HBk.out _).mono ?_; rintro e w1 ⟨rfl, rfl⟩)
   go_ret3
   exact HF2.out _ _ _ (bDr (Below.refl _ _) _)
 ·simp only [Nat.reducePow] at hc hb HT HF
  rw [hc] at HT HF
  simp only [Nat.reduceSub, Nat.reducePow] at HT HF
  obtain ⟨p, hp⟩ : ∃ p, m % 8 = p := ⟨_, rfl⟩
  have hp4 : p < 8 := by omega
  rw [hp] at HT HF
  have e0 : (m : Int) / 8 = 1 := by omega
  have e1 : (m : Int) % 8 = (p : Int) := by omega
  obtain ⟨lo, hlo⟩ : ∃ lo, (p + 8) / 4 = lo := ⟨_, rfl⟩
  have e2 : ((p : Int) + 8) / 4 = (lo : Int) := by omega
  have hl16 : lo < 2 ^ 64 := by omega
  have HBk := Lib.hid (fun W => ref09_Bucket_any 3 lo (by omega) hl16 W)
  rw [hlo] at HT HF
  have hbk := IntWalk.i64_in
  clear hlo hp
  generalize hk : hiBk (3 : Nat) lo = k at HBk HT HF
  cases hq : (k == ((m : Int) + 1)) with
  | true =>
   have t0 : (k != ((m : Int) + 1)) = false := by rw [bne, hq]; rfl
   have HT2 := Lib.hid (fun lo hi w' h hB => HT.out lo hi w' h (by rw [← hq]; simp) hB)
   clear HF HT hq
   go_enter Tryz.func75, Tryz.ntmps75
   go_wp2_with fail
   go_quiet (fail)
   go_wp2_with (go_at_call 109; refine (HBk.out _).mono ?_; rintro e w1 ⟨rfl, rfl⟩)
   go_ret3
   exact HT2.out _ _ _ rfl (bDr (Below.refl _ _) _)
  | false =>
   have t0 : (k != ((m : Int) + 1)) = true := by rw [bne, hq]; rfl
   have HF2 := Lib.hid (fun lo hi w' hB => HF.out lo hi w' (by rw [← hq]; simp) hB)
   clear HF HT hq
   go_enter Tryz.func75, Tryz.ntmps75
   go_wp2_with fail
   go_quiet (fail)
   go_wp2_with (go_at_call 109; refine (HBk.out _).mono ?_; rintro e w1 ⟨rfl, rfl⟩)
   go_ret3
   exact HF2.out _ _ _ (bDr (Below.refl _ _) _)
 ·simp only [Nat.reducePow] at hc hb HT HF
  rw [hc] at HT HF
  simp only [Nat.reduceSub, Nat.reducePow] at HT HF
  obtain ⟨p, hp⟩ : ∃ p, m % 8 = p := ⟨_, rfl⟩
  have hp4 : p < 8 := by omega
  rw [hp] at HT HF
  have e0 : (m : Int) / 8 = 2 := by omega
  have e1 : (m : Int) % 8 = (p : Int) := by omega
  obtain ⟨lo, hlo⟩ : ∃ lo, (p + 8) / 2 = lo := ⟨_, rfl⟩
  have e2 : ((p : Int) + 8) / 2 = (lo : Int) := by omega
  have hl16 : lo < 2 ^ 64 := by omega
  have HBk := Lib.hid (fun W => ref09_Bucket_any 3 lo (by omega) hl16 W)
  rw [hlo] at HT HF
  have hbk := IntWalk.i64_in
  clear hlo hp
  generalize hk : hiBk (3 : Nat) lo = k at HBk HT HF
  cases hq : (k == ((m : Int) + 1)) with
  | true =>
   have t0 : (k != ((m : Int) + 1)) = false := by rw [bne, hq]; rfl
   have HT2 := Lib.hid (fun lo hi w' h hB => HT.out lo hi w' h (by rw [← hq]; simp) hB)
   clear HF HT hq
   go_enter Tryz.func75, Tryz.ntmps75
   go_wp2_with fail
   go_quiet (fail)
   go_wp2_with (go_at_call 109; refine (HBk.out _).mono ?_; rintro e w1 ⟨rfl, rfl⟩)
   go_ret3
   exact HT2.out _ _ _ rfl (bDr (Below.refl _ _) _)
  | false =>
   have t0 : (k != ((m : Int) + 1)) = true := by rw [bne, hq]; rfl
   have HF2 := Lib.hid (fun lo hi w' hB => HF.out lo hi w' (by rw [← hq]; simp) hB)
   clear HF HT hq
   go_enter Tryz.func75, Tryz.ntmps75
   go_wp2_with fail
   go_quiet (fail)
   go_wp2_with (go_at_call 109; refine (HBk.out _).mono ?_; rintro e w1 ⟨rfl, rfl⟩)
   go_ret3
   exact HF2.out _ _ _ (bDr (Below.refl _ _) _)
theorem ref09_Bounds_any (f n : Int) (hN : I64 n) (w : World) : Calls Tryz.prog 75 #[.int .i64 f, .int .i64 n] w (BdR f n w) := by
 by_cases h : f < 0 ∨ 3 < f ∨ n < 0
 ·exact ref09_Bounds_no f n h w
 obtain ⟨f, rfl⟩ : ∃ m : Nat, f = m := ⟨f.toNat, by omega⟩
 obtain ⟨n, rfl⟩ : ∃ m : Nat, n = m := ⟨n.toNat, by omega⟩
 have hf : f ≤ 3 := by omega
 have hn := hN.2
 rcases Nat.eq_zero_or_pos n with rfl | h1
 ·exact ref09_Bounds_0 f hf w
 by_cases h64 : 64 ≤ (n - 1) / 2 ^ f
 ·refine ref09_Bounds_far f n hf ?_ (by omega) w
  have := (Nat.le_div_iff_mul_le (Nat.two_pow_pos f)).1 h64
  omega
 by_cases hb : f ≤ (n - 1) / 2 ^ f
 ·exact ref09_Bounds_near f n hf h1 hb (by omega) w
 ·exact ref09_Bounds_low f n hf h1 (by omega) w
end Go.Proofs.YthbhmnakmhambaaGreatDoor
namespace Go.Proofs.YthbhmnakmhambaaGreatDoor
open Go Go.RowKit Go.Shelf
def prevAt (l : List (Int × Int)) (k : Nat) : Int := if k = 0 then -1 else (l[k - 1]?.map (·.1)).getD (-1)
theorem prevAt_succ {l : List (Int × Int)} {k : Nat} {x : Int × Int} (h : l[k]? = some x) : prevAt l (k + 1) = x.1 := by simp [prevAt, h]
theorem hist_at {f : Int} {l : List (Int × Int)} {k : Nat} {x : Int × Int} (h : l[k]? = some x) : (foldO (histStep f) (prevAt l k) (l.drop k)).isSome = (!(x.2 == 0 || !boundsB f x.1 || decide (x.1 ≤ prevAt l k)) && (foldO (histStep f) (prevAt l (k + 1)) (l.drop (k + 1))).isSome) := by
 rw [drop_cons' h, foldO_cons, prevAt_succ h]
 unfold histStep
 cases hc : (x.2 == 0 || !boundsB f x.1 || decide (x.1 ≤ prevAt l k)) with
 | true => rfl
 | false => rfl
set_option maxRecDepth 100000 in
set_option maxHeartbeats 2000000 in
theorem ref09_Right_any (f : Int) (a : Option Addr) (len cap : Nat) (l : List (Int × Int)) (w : World) (hL : SlE encB 2 w.heap.size w a len l) (hm : len ≤ maxLen) (hU : Bins l) :
  Calls Tryz.prog 41 #[.agg #[.int .i64 f, .slice a len cap]] w fun e w' => e = .returned (.bool (hiRight f l)) ∧ Below w.heap.size w w' := by
 have hlen := hL.1
 unfold maxLen at hm
 obtain ⟨W0, hW0, hX0, hB0, hs0⟩ := boxes1 w #[.int .i64 f, .slice a len cap] 37
 have HL := Lib.hid (hL.go hB0)
 have HU := Lib.hid hU
 have HN := Lib.hid hlen
 have HB0 := Lib.hid hB0
 have HE : Hid (hiRight f l = (isFineB f && (foldO (histStep f) (prevAt l 0) (l.drop 0)).isSome)) := rfl
 have HFi : Hid (isFineB f = (decide (0 ≤ f) && decide (f ≤ 3))) := rfl
 have hz0 : w.heap.size < W0.heap.size := by omega
 clear hL hB0 hlen hU
 generalize hiRight f l = bR at HE ⊢
 obtain ⟨c0, c1⟩ := cl2 hX0
 clear hX0
 go_enter Tryz.func41, Tryz.ntmps41
 go_wp2_with fail
 go_loopw [3] (fun i wr => ∃ (k : Nat), i = .int .i64 k ∧ k ≤ len ∧ Below W0.heap.size W0 wr ∧ Hid (bR = (isFineB f && (foldO (histStep f) (prevAt l k) (l.drop k)).isSome))) (fun i _ => len - (intOf i).toNat)
 case atStart => exact ⟨0, rfl, Nat.zero_le _, Below.refl _ _, HE.out⟩
 case round =>
  obtain ⟨k, rfl, hk, hB, HS⟩ := hrel
  have hsz := hB.size
  have r0 : wr.cell? ⟨w.heap.size, 0, none⟩ = some (.int .i64 f) := (hB.cell (p := ⟨w.heap.size, 0, none⟩) hz0).trans c0
  have r1 : wr.cell? ⟨w.heap.size, 1, none⟩ = some (.slice a len cap) := (hB.cell (p := ⟨w.heap.size, 1, none⟩) hz0).trans c1
  by_cases hlt : k < len
  ·obtain ⟨x, b, off, hx, rfl, hbb, hc⟩ := HL.out.at (j := k) hlt
   have hkp : ∀ W, Below wr.heap.size wr W → W.cell? ⟨w.heap.size, 0, none⟩ = some (.int .i64 f) ∧ W.cell? ⟨w.heap.size, 1, none⟩ = some (.slice (some ⟨b, off, none⟩) len cap) ∧ W.cell? ⟨b, off + k * 2, none⟩ = some (.int .i64 x.1) ∧ Below wr.heap.size wr W := fun W h =>
    ⟨(h.cell (p := ⟨w.heap.size, 0, none⟩) (Nat.lt_of_lt_of_le hz0 hsz)).trans r0, (h.cell (p := ⟨w.heap.size, 1, none⟩) (Nat.lt_of_lt_of_le hz0 hsz)).trans r1, (h.cell (p := ⟨b, off + k * 2, none⟩) (Nat.lt_of_lt_of_le hbb hsz)).trans ((hB.cell (p := ⟨b, off + k * 2, none⟩) hbb).trans (hc 0 (by omega))), h⟩
   have HKP := Lib.hid hkp
   obtain ⟨q0, q1, q2, qB⟩ := hkp wr (Below.refl _ _)
   obtain ⟨⟨u1, u2⟩, v1, v2⟩ := HU.out x (List.mem_of_getElem? hx)
   have HBd : Hid (∀ W, Calls Tryz.prog 75 #[.int .i64 f, .int .i64 x.1] W (BdR f x.1 W)) := fun W => ref09_Bounds_any f x.1 ⟨u1, u2⟩ W
   have i1 : (k : Int) < (len : Int) := by omega
   have HX := Lib.hid hx
   have HC : Hid (W0.cell? ⟨b, off + k * 2 + 1, none⟩ = some (.int .u64 x.2)) := hc 1 (by omega)
   clear hkp hc hx r0 r1
   go_wp2_with fail
   go_region_held3 (fun w' => w'.cell? ⟨w.heap.size, 0, none⟩ = some (.int .i64 f) ∧ w'.cell? ⟨w.heap.size, 1, none⟩ = some (.slice (some ⟨b, off, none⟩) len cap) ∧ w'.cell? ⟨b, off + k * 2, none⟩ = some (.int .i64 x.1) ∧ Below wr.heap.size wr w')
    (first
     | with_reducible exact HKP.out _ qB.drew
     | (go_split_ands; with_reducible refine HKP.out _ ?_; with_reducible first | exact Below.trans (by assumption) (Below.mono (by assumption) (Below.size (by assumption))) | assumption)
     | go_keep)
    (first | (go_at_call 75; refine (HBd.out _).mono ?_; rintro e w6 ⟨lo, hi, rfl, -, hb6⟩))
   rename_i hHeld
   obtain ⟨q0, q1, q2, qB⟩ := hHeld
   have hBd : Below W0.heap.size W0 w6 := hB.trans (qB.mono hsz)
   have q3 : w6.cell? ⟨b, off + k * 2 + 1, none⟩ = some (.int .u64 x.2) := (hBd.cell (p := ⟨b, off + k * 2 + 1, none⟩) hbb).trans HC.out
   have HNo : Hid ((x.2 == 0 || !boundsB f x.1 || decide (x.1 ≤ prevAt l k)) = true → bR = false) := fun h => by rw [HS.out, hist_at HX.out, h]; simp
   have HYes : Hid ((x.2 == 0 || !boundsB f x.1 || decide (x.1 ≤ prevAt l k)) = false → bR = (isFineB f && (foldO (histStep f) (prevAt l (k + 1)) (l.drop (k + 1))).isSome)) := fun h => by rw [HS.out, hist_at HX.out, h]; rfl
   clear HS HBd HC hb6 HKP
   have HP0 : Hid (boundsB f x.1 = true → 0 ≤ x.1) := fun h => by
    unfold boundsB at h
    split at h
    ·rename_i h2
     simp only [Bool.and_eq_true, decide_eq_true_eq] at h2
     exact h2.2
    ·cases h
   generalize boundsB f x.1 = bo at *
   cases bo with
   | false =>
    have H9 : Hid (bR = false) := HNo.out (by simp)
    clear HNo HYes
    go_wp2_with fail
    go_quiet (fail)
    go_wp2_with fail
    go_ret
    exact ⟨by rw [H9.out]; rfl, HB0.out.trans ((bDr hBd _).mono HB0.out.size)⟩
   | true =>
    by_cases hz : x.2 = 0
    ·have H9 : Hid (bR = false) := HNo.out (by simp [hz])
     have t0 : (x.2 == 0) = true := by rw [hz]; rfl
     clear HNo HYes
     go_wp2_with fail
     go_quiet (fail)
     go_wp2_with fail
     go_ret
     exact ⟨by rw [H9.out]; rfl, HB0.out.trans ((bDr hBd _).mono HB0.out.size)⟩
    have t0 : (x.2 == 0) = false := beq_eq_false_iff_ne.2 hz
    by_cases hk0 : k = 0
    ·subst hk0
     have H9 := Lib.hid (HYes.out (by rw [t0]; simp [prevAt]; have := HP0.out rfl; omega))
     simp only [Nat.zero_mul, Nat.add_zero, Int.natCast_zero] at q2 q3 i1 ⊢
     have i2 : (0 : Int) ≤ 0 := by omega
     clear HNo HYes
     go_wp2_with fail
     go_quiet (fail)
     go_wp2_with fail
     go_roundw
     case rel => exact ⟨1, by go_num, by omega, bDr hBd _, H9.out⟩
     case measure => simp [intOf]; omega
    ·obtain ⟨j, rfl⟩ : ∃ j, k = j + 1 := ⟨k - 1, by omega⟩
     obtain ⟨y, b', off', hy, e1, hbb', hc'⟩ := HL.out.at (j := j) (by omega)
     injection e1 with e1
     injection e1 with e1 e2
     subst e1; subst e2
     have q4 : w6.cell? ⟨b, off + j * 2, none⟩ = some (.int .i64 y.1) := (hBd.cell (p := ⟨b, off + j * 2, none⟩) hbb).trans (hc' 0 (by omega))
     have hpv : prevAt l (j + 1) = y.1 := prevAt_succ hy
     rw [hpv] at HNo HYes
     obtain ⟨⟨y1, y2⟩, -, -⟩ := HU.out y (List.mem_of_getElem? hy)
     have i2 : (0 : Int) < (j : Int) + 1 := by omega
     have i3 : (j : Int) + 1 < (len : Int) := by omega
     have i4 : (j : Int) < (len : Int) := by omega
     clear hc' hy hpv
     by_cases hxy : x.1 ≤ y.1
     ·have t1 : decide (x.1 ≤ y.1) = true := decide_eq_true hxy
      have H9 : Hid (bR = false) := HNo.out (by rw [t1]; simp)
      clear HNo HYes
      go_wp2_with fail
      go_quiet (fail)
      go_wp2_with fail
      go_ret
      exact ⟨by rw [H9.out]; rfl, HB0.out.trans ((bDr hBd _).mono HB0.out.size)⟩
     ·have t1 : decide (x.1 ≤ y.1) = false := decide_eq_false hxy
      have H9 := Lib.hid (HYes.out (by rw [t1, t0]; rfl))
      clear HNo HYes
      go_wp2_with fail
      go_quiet (fail)
      go_wp2_with fail
      go_roundw
      case rel => exact ⟨j + 1 + 1, by go_num, by omega, bDr hBd _, H9.out⟩
      case measure => simp [intOf]; omega
  ·obtain rfl : k = len := by omega
   have H9 : Hid (bR = isFineB f) := by rw [Hid, HS.out, List.drop_of_length_le (by rw [HN.out]; exact Nat.le_refl _)]; simp [foldO_nil]
   by_cases h1 : 0 ≤ f
   ·by_cases h2 : f ≤ 3
    ·have H8 : Hid (bR = true) := by rw [Hid, H9.out, HFi.out, decide_eq_true h1, decide_eq_true h2]; rfl
     go_wp2_with fail
     go_ret
     exact ⟨by rw [H8.out]; rfl, HB0.out.trans (hB.mono HB0.out.size)⟩
    ·have H8 : Hid (bR = false) := by rw [Hid, H9.out, HFi.out, decide_eq_false h2, Bool.and_false]
     go_wp2_with fail
     go_ret
     exact ⟨by rw [H8.out]; rfl, HB0.out.trans (hB.mono HB0.out.size)⟩
   ·have H8 : Hid (bR = false) := by rw [Hid, H9.out, HFi.out, decide_eq_false h1, Bool.false_and]
    go_wp2_with fail
    go_ret
    exact ⟨by rw [H8.out]; rfl, HB0.out.trans (hB.mono HB0.out.size)⟩
end Go.Proofs.YthbhmnakmhambaaGreatDoor
namespace Go.Proofs.YthbhmnakmhambaaGreatDoor
open Go Go.RowKit Go.Shelf
theorem ref10_Bottom_any (k : Int) (w : World) : Calls Tryz.prog 37 #[.int .i64 k] w fun e w' => e = .returned (.int .i64 (bottomB k)) ∧ w = w' := by
 cases h1 : (k == 1) with
 | true =>
  go_enter Tryz.func37, Tryz.ntmps37
  go_wp2
  go_ret
  exact ⟨by simp [bottomB, h1], rfl⟩
 | false =>
  cases h2 : (k == 2) with
  | true =>
   go_enter Tryz.func37, Tryz.ntmps37
   go_wp2
   go_ret
   exact ⟨by simp [bottomB, h1, h2], rfl⟩
  | false =>
   cases h3 : (k == 3) with
   | true =>
    go_enter Tryz.func37, Tryz.ntmps37
    go_wp2
    go_ret
    exact ⟨by simp [bottomB, h1, h2, h3], rfl⟩
   | false =>
    go_enter Tryz.func37, Tryz.ntmps37
    go_wp2
    go_ret
    exact ⟨by simp [bottomB, h1, h2, h3], rfl⟩
end Go.Proofs.YthbhmnakmhambaaGreatDoor
namespace Go.Proofs.YthbhmnakmhambaaGreatDoor
open Go Go.RowKit Go.Shelf
set_option maxRecDepth 100000 in
set_option maxHeartbeats 4000000 in
theorem ref10_Right_num (l : List Int) (x : Sk) (s : SS) (w : World) (hx : x = ⟨1, 0, l, 0, ⟨#[]⟩, 0, 0, [], 0, []⟩) (hA : s.At w.heap.size w x) (hR : exRight l = true) (hU : U64s l) :
  Calls Tryz.prog 13 #[.agg #[.int .i64 x.kind, .int .i64 x.level, .slice s.ea s.el s.ec, .int .i64 x.hb, .string x.hr, .int .i64 x.cr, .int .i64 x.cc, .slice s.ca s.cl s.cc, .int .i64 x.gf, .slice s.ga s.gl s.gc]] w fun e w' => e = .returned (.bool true) ∧ Below w.heap.size w w' := by
 subst hx
 dsimp only
 obtain ⟨W0, hW0, hX0, hB0, hs0⟩ := boxes1 w #[.int .i64 1, .int .i64 0, .slice s.ea s.el s.ec, .int .i64 0, .string ⟨#[]⟩, .int .i64 0, .int .i64 0, .slice s.ca s.cl s.cc, .int .i64 0, .slice s.ga s.gl s.gc] 39
 have HA := Lib.hid (hA.go hB0)
 have HB0 := Lib.hid hB0
 have HBT : Hid (∀ W, Calls Tryz.prog 37 #[.int .i64 1] W fun e w' => e = .returned (.int .i64 4) ∧ w' = W) := fun W => (ref10_Bottom_any 1 W).mono fun e w' ⟨h1, h2⟩ => ⟨h1, h2.symm⟩
 obtain ⟨d0, d1, d2, d3, d4, d5, d6, d7, d8, d9⟩ := cl10 hX0
 clear hX0 hB0 hA
 go_enter Tryz.func13, Tryz.ntmps13
 go_wp2_with fail
 go_quiet ((go_at_call 37; exact Calls.quiet_of_same (HBT.out _)))
 obtain ⟨Wd, hWd⟩ : ∃ Wd, W0.drewN nq = Wd := ⟨_, rfl⟩
 have hbd : Below W0.heap.size W0 Wd := by rw [← hWd]; exact bDr (Below.refl _ _) _
 rw [hWd]
 obtain ⟨W1, hW1, hX1, hB1, hs1⟩ := boxes1 Wd #[.int .i64 1, .int .i64 0, .slice none 0 0, .int .i64 0, .string ⟨#[]⟩, .int .i64 0, .int .i64 0, .slice none 0 0, .int .i64 0, .slice none 0 0] 39
 obtain ⟨V, hV⟩ : ∃ V, W1.setCell ⟨Wd.heap.size, 2, none⟩ (.slice s.ea s.el s.ec) = V := ⟨_, rfl⟩
 have hXV : V.heap[Wd.heap.size]? = some (.cells #[.int .i64 1, .int .i64 0, .slice s.ea s.el s.ec, .int .i64 0, .string ⟨#[]⟩, .int .i64 0, .int .i64 0, .slice none 0 0, .int .i64 0, .slice none 0 0] 39 (0, 0)) := by rw [← hV]; exact hSk hX1 _
 have hBV : Below Wd.heap.size Wd V := by rw [← hV]; exact hB1.setCell (p := ⟨Wd.heap.size, 2, none⟩) (Nat.le_refl _) _
 have hb0 : Below W0.heap.size W0 W1 := hbd.trans (hB1.mono hbd.size)
 have hb1 : Below W0.heap.size W0 V := hbd.trans (hBV.mono hbd.size)
 have hz0 : w.heap.size < W0.heap.size := by omega
 have hsd := hbd.size
 have HRt : Hid (Calls Tryz.prog 38 #[.agg #[.slice s.ea s.el s.ec]] V fun e w' => e = .returned (.bool true) ∧ Below V.heap.size V w') := by
  have h := ref06_Right_any s.ea s.el s.ec l V (HA.out.go hb1).e.1 (Nat.le_trans HA.out.e.2.1 HA.out.e.2.2.1) hU
  rw [hR] at h
  exact h
 obtain ⟨c0, c1, c2, c3, c4, c5, c6, c7, c8, c9⟩ := cl10 hX1
 obtain ⟨f0, f1, f2, f3, f4, f5, f6, f7, f8, f9⟩ := cz10 hX1
 have e1 : W1.setCell ⟨Wd.heap.size, 1, none⟩ (.int .i64 0) = W1 := set_same hX1 rfl
 have e2 : W1.setCell ⟨Wd.heap.size, 2, none⟩ (.slice none 0 0) = W1 := set_same hX1 rfl
 have e3 : W1.setCell ⟨Wd.heap.size, 3, none⟩ (.int .i64 0) = W1 := set_same hX1 rfl
 have e4 : W1.setCell ⟨Wd.heap.size, 4, none⟩ (.string ⟨#[]⟩) = W1 := set_same hX1 rfl
 have e5 : W1.setCell ⟨Wd.heap.size, 5, none⟩ (.int .i64 0) = W1 := set_same hX1 rfl
 have e6 : W1.setCell ⟨Wd.heap.size, 6, none⟩ (.int .i64 0) = W1 := set_same hX1 rfl
 have e7 : W1.setCell ⟨Wd.heap.size, 7, none⟩ (.slice none 0 0) = W1 := set_same hX1 rfl
 have e8 : W1.setCell ⟨Wd.heap.size, 8, none⟩ (.int .i64 0) = W1 := set_same hX1 rfl
 have e9 : W1.setCell ⟨Wd.heap.size, 9, none⟩ (.slice none 0 0) = W1 := set_same hX1 rfl
 have p0 := (hbd.cell (p := ⟨w.heap.size, 0, none⟩) hz0).trans d0
 have p1 := (hbd.cell (p := ⟨w.heap.size, 1, none⟩) hz0).trans d1
 have a0 := (hb0.cell (p := ⟨w.heap.size, 0, none⟩) hz0).trans d0
 have a1 := (hb0.cell (p := ⟨w.heap.size, 1, none⟩) hz0).trans d1
 have a2 := (hb0.cell (p := ⟨w.heap.size, 2, none⟩) hz0).trans d2
 have b2 := (hb1.cell (p := ⟨w.heap.size, 2, none⟩) hz0).trans d2
 have HB1 := Lib.hid hb1
 have HXV := Lib.hid hXV
 clear hX1 hXV hBV hb0 hb1 hU
 go_wp2_with fail
 refine HRt.out.mono ?_
 rintro e w2 ⟨rfl, hb2⟩
 have hb02 : Below W0.heap.size W0 w2 := HB1.out.trans (hb2.mono HB1.out.size)
 have hXw := (hb2.block _ (Array.getElem?_eq_some_iff.1 HXV.out).1).trans HXV.out
 have k0 := (hb02.cell (p := ⟨w.heap.size, 0, none⟩) hz0).trans d0
 have k1 := (hb02.cell (p := ⟨w.heap.size, 1, none⟩) hz0).trans d1
 have k2 := (hb02.cell (p := ⟨w.heap.size, 2, none⟩) hz0).trans d2
 have k3 := (hb02.cell (p := ⟨w.heap.size, 3, none⟩) hz0).trans d3
 have k4 := (hb02.cell (p := ⟨w.heap.size, 4, none⟩) hz0).trans d4
 have k5 := (hb02.cell (p := ⟨w.heap.size, 5, none⟩) hz0).trans d5
 have k6 := (hb02.cell (p := ⟨w.heap.size, 6, none⟩) hz0).trans d6
 have k7 := (hb02.cell (p := ⟨w.heap.size, 7, none⟩) hz0).trans d7
 have k8 := (hb02.cell (p := ⟨w.heap.size, 8, none⟩) hz0).trans d8
 have k9 := (hb02.cell (p := ⟨w.heap.size, 9, none⟩) hz0).trans d9
 obtain ⟨m0, m1, m2, m3, m4, m5, m6, m7, m8, m9⟩ := cl10 hXw
 have HS := Lib.hid (ref10_Same_eq ⟨1, 0, l, 0, ⟨#[]⟩, 0, 0, [], 0, []⟩ s ⟨s.ea, s.el, s.ec, none, 0, 0, none, 0, 0⟩ w2 (HA.out.go hb02) ⟨(HA.out.go hb02).e, slC_nil, slC_nil⟩)
 clear hXw
 go_wp2_with fail
 refine HS.out.mono ?_
 rintro e w3 ⟨rfl, hb3⟩
 have hb03 := hb02.trans (hb3.mono hb02.size)
 go_wp2_with fail
 go_ret
 exact ⟨rfl, HB0.out.trans (hb03.mono HB0.out.size)⟩
end Go.Proofs.YthbhmnakmhambaaGreatDoor
namespace Go.Proofs.YthbhmnakmhambaaGreatDoor
open Go Go.RowKit Go.Shelf
set_option maxRecDepth 100000 in
set_option maxHeartbeats 4000000 in
theorem ref10_Right_reg (L : Nat) (hL1 : 1 ≤ L) (hL4 : L ≤ 4) (r : ByteArray) (x : Sk) (s : SS) (w : World) (hx : x = ⟨1, L, [], 8 - (L : Int), r, 0, 0, [], 0, []⟩) (hA : s.At w.heap.size w x) (hR : hlRight (8 - (L : Int)) r = true) :
  Calls Tryz.prog 13 #[.agg #[.int .i64 x.kind, .int .i64 x.level, .slice s.ea s.el s.ec, .int .i64 x.hb, .string x.hr, .int .i64 x.cr, .int .i64 x.cc, .slice s.ca s.cl s.cc, .int .i64 x.gf, .slice s.ga s.gl s.gc]] w fun e w' => e = .returned (.bool true) ∧ Below w.heap.size w w' := by
 subst hx
 dsimp only
 obtain ⟨W0, hW0, hX0, hB0, hs0⟩ := boxes1 w #[.int .i64 1, .int .i64 L, .slice s.ea s.el s.ec, .int .i64 (8 - (L : Int)), .string r, .int .i64 0, .int .i64 0, .slice s.ca s.cl s.cc, .int .i64 0, .slice s.ga s.gl s.gc] 39
 have HA := Lib.hid (hA.go hB0)
 have HB0 := Lib.hid hB0
 have HBT : Hid (∀ W, Calls Tryz.prog 37 #[.int .i64 1] W fun e w' => e = .returned (.int .i64 4) ∧ w' = W) := fun W => (ref10_Bottom_any 1 W).mono fun e w' ⟨h1, h2⟩ => ⟨h1, h2.symm⟩
 obtain ⟨d0, d1, d2, d3, d4, d5, d6, d7, d8, d9⟩ := cl10 hX0
 clear hX0 hB0 hA
 have t0 : ((L : Int) == 0) = false := by rw [beq_eq_false_iff_ne]; omega
 have t2 : ¬ (4 : Int) < (L : Int) := by omega
 have t3 : ¬ (L : Int) < 0 := by omega
 go_enter Tryz.func13, Tryz.ntmps13
 go_wp2_with fail
 go_quiet ((go_at_call 37; exact Calls.quiet_of_same (HBT.out _)))
 obtain ⟨Wd, hWd⟩ : ∃ Wd, W0.drewN nq = Wd := ⟨_, rfl⟩
 have hbd : Below W0.heap.size W0 Wd := by rw [← hWd]; exact bDr (Below.refl _ _) _
 rw [hWd]
 obtain ⟨W1, hW1, hX1, hB1, hs1⟩ := boxes1 Wd #[.int .i64 1, .int .i64 L, .slice none 0 0, .int .i64 0, .string ⟨#[]⟩, .int .i64 0, .int .i64 0, .slice none 0 0, .int .i64 0, .slice none 0 0] 39
 obtain ⟨V, hV⟩ : ∃ V, (W1.setCell ⟨Wd.heap.size, 3, none⟩ (.int .i64 (8 - (L : Int)))).setCell ⟨Wd.heap.size, 4, none⟩ (.string r) = V := ⟨_, rfl⟩
 have hXV : V.heap[Wd.heap.size]? = some (.cells #[.int .i64 1, .int .i64 L, .slice none 0 0, .int .i64 (8 - (L : Int)), .string r, .int .i64 0, .int .i64 0, .slice none 0 0, .int .i64 0, .slice none 0 0] 39 (0, 0)) := by rw [← hV]; exact hSk (hSk hX1 _) _
 have hBV : Below Wd.heap.size Wd V := by rw [← hV]; exact (hB1.setCell (p := ⟨Wd.heap.size, 3, none⟩) (Nat.le_refl _) _).setCell (p := ⟨Wd.heap.size, 4, none⟩) (Nat.le_refl _) _
 have hb0 : Below W0.heap.size W0 W1 := hbd.trans (hB1.mono hbd.size)
 have hb1 : Below W0.heap.size W0 V := hbd.trans (hBV.mono hbd.size)
 have hz0 : w.heap.size < W0.heap.size := by omega
 have hsd := hbd.size
 have HRt : Hid (Calls Tryz.prog 39 #[.agg #[.int .i64 (8 - (L : Int)), .string r]] V fun e w' => e = .returned (.bool true) ∧ Below V.heap.size V w') := by
  have h := ref07_Right_any (8 - (L : Int)) r V
  rw [hR] at h
  exact h
 obtain ⟨c0, c1, c2, c3, c4, c5, c6, c7, c8, c9⟩ := cl10 hX1
 obtain ⟨f0, f1, f2, f3, f4, f5, f6, f7, f8, f9⟩ := cz10 hX1
 have e1 : W1.setCell ⟨Wd.heap.size, 1, none⟩ (.int .i64 L) = W1 := set_same hX1 rfl
 have e2 : W1.setCell ⟨Wd.heap.size, 2, none⟩ (.slice none 0 0) = W1 := set_same hX1 rfl
 have e3 : W1.setCell ⟨Wd.heap.size, 3, none⟩ (.int .i64 0) = W1 := set_same hX1 rfl
 have e4 : W1.setCell ⟨Wd.heap.size, 4, none⟩ (.string ⟨#[]⟩) = W1 := set_same hX1 rfl
 have e5 : W1.setCell ⟨Wd.heap.size, 5, none⟩ (.int .i64 0) = W1 := set_same hX1 rfl
 have e6 : W1.setCell ⟨Wd.heap.size, 6, none⟩ (.int .i64 0) = W1 := set_same hX1 rfl
 have e7 : W1.setCell ⟨Wd.heap.size, 7, none⟩ (.slice none 0 0) = W1 := set_same hX1 rfl
 have e8 : W1.setCell ⟨Wd.heap.size, 8, none⟩ (.int .i64 0) = W1 := set_same hX1 rfl
 have e9 : W1.setCell ⟨Wd.heap.size, 9, none⟩ (.slice none 0 0) = W1 := set_same hX1 rfl
 have p0 := (hbd.cell (p := ⟨w.heap.size, 0, none⟩) hz0).trans d0
 have p1 := (hbd.cell (p := ⟨w.heap.size, 1, none⟩) hz0).trans d1
 have a0 := (hb0.cell (p := ⟨w.heap.size, 0, none⟩) hz0).trans d0
 have a1 := (hb0.cell (p := ⟨w.heap.size, 1, none⟩) hz0).trans d1
 have a2 := (hb0.cell (p := ⟨w.heap.size, 2, none⟩) hz0).trans d2
 have b0 := (hb1.cell (p := ⟨w.heap.size, 0, none⟩) hz0).trans d0
 have b1 := (hb1.cell (p := ⟨w.heap.size, 1, none⟩) hz0).trans d1
 have b3 := (hb1.cell (p := ⟨w.heap.size, 3, none⟩) hz0).trans d3
 have b4 := (hb1.cell (p := ⟨w.heap.size, 4, none⟩) hz0).trans d4
 have a3 := (hb0.cell (p := ⟨w.heap.size, 3, none⟩) hz0).trans d3
 have a4 := (hb0.cell (p := ⟨w.heap.size, 4, none⟩) hz0).trans d4
 have HB1 := Lib.hid hb1
 have HXV := Lib.hid hXV
 clear hX1 hXV hBV hb0 hb1
 go_wp2_with fail
 refine HRt.out.mono ?_
 rintro e w2 ⟨rfl, hb2⟩
 have hb02 : Below W0.heap.size W0 w2 := HB1.out.trans (hb2.mono HB1.out.size)
 have hXw := (hb2.block _ (Array.getElem?_eq_some_iff.1 HXV.out).1).trans HXV.out
 have k0 := (hb02.cell (p := ⟨w.heap.size, 0, none⟩) hz0).trans d0
 have k1 := (hb02.cell (p := ⟨w.heap.size, 1, none⟩) hz0).trans d1
 have k2 := (hb02.cell (p := ⟨w.heap.size, 2, none⟩) hz0).trans d2
 have k3 := (hb02.cell (p := ⟨w.heap.size, 3, none⟩) hz0).trans d3
 have k4 := (hb02.cell (p := ⟨w.heap.size, 4, none⟩) hz0).trans d4
 have k5 := (hb02.cell (p := ⟨w.heap.size, 5, none⟩) hz0).trans d5
 have k6 := (hb02.cell (p := ⟨w.heap.size, 6, none⟩) hz0).trans d6
 have k7 := (hb02.cell (p := ⟨w.heap.size, 7, none⟩) hz0).trans d7
 have k8 := (hb02.cell (p := ⟨w.heap.size, 8, none⟩) hz0).trans d8
 have k9 := (hb02.cell (p := ⟨w.heap.size, 9, none⟩) hz0).trans d9
 obtain ⟨m0, m1, m2, m3, m4, m5, m6, m7, m8, m9⟩ := cl10 hXw
 have HS := Lib.hid (ref10_Same_eq ⟨1, L, [], 8 - (L : Int), r, 0, 0, [], 0, []⟩ s ⟨none, 0, 0, none, 0, 0, none, 0, 0⟩ w2 (HA.out.go hb02) ⟨slC_nil, slC_nil, slC_nil⟩)
 clear hXw
 go_wp2_with fail
 refine HS.out.mono ?_
 rintro e w3 ⟨rfl, hb3⟩
 have hb03 := hb02.trans (hb3.mono hb02.size)
 go_wp2_with fail
 go_ret
 exact ⟨rfl, HB0.out.trans (hb03.mono HB0.out.size)⟩
end Go.Proofs.YthbhmnakmhambaaGreatDoor
namespace Go.Proofs.YthbhmnakmhambaaGreatDoor
open Go Go.RowKit Go.Shelf
set_option maxRecDepth 100000 in
set_option maxHeartbeats 4000000 in
theorem ref10_Right_bkt (L : Nat) (hL4 : L ≤ 3) (l : List (Int × Int)) (x : Sk) (s : SS) (w : World) (hx : x = ⟨3, L, [], 0, ⟨#[]⟩, 0, 0, [], 3 - (L : Int), l⟩) (hA : s.At w.heap.size w x) (hR : hiRight (3 - (L : Int)) l = true) (hU : Bins l) :
  Calls Tryz.prog 13 #[.agg #[.int .i64 x.kind, .int .i64 x.level, .slice s.ea s.el s.ec, .int .i64 x.hb, .string x.hr, .int .i64 x.cr, .int .i64 x.cc, .slice s.ca s.cl s.cc, .int .i64 x.gf, .slice s.ga s.gl s.gc]] w fun e w' => e = .returned (.bool true) ∧ Below w.heap.size w w' := by
 subst hx
 dsimp only
 obtain ⟨W0, hW0, hX0, hB0, hs0⟩ := boxes1 w #[.int .i64 3, .int .i64 L, .slice s.ea s.el s.ec, .int .i64 0, .string ⟨#[]⟩, .int .i64 0, .int .i64 0, .slice s.ca s.cl s.cc, .int .i64 (3 - (L : Int)), .slice s.ga s.gl s.gc] 39
 have HA := Lib.hid (hA.go hB0)
 have HB0 := Lib.hid hB0
 have HBT : Hid (∀ W, Calls Tryz.prog 37 #[.int .i64 3] W fun e w' => e = .returned (.int .i64 3) ∧ w' = W) := fun W => (ref10_Bottom_any 3 W).mono fun e w' ⟨h1, h2⟩ => ⟨h1, h2.symm⟩
 obtain ⟨d0, d1, d2, d3, d4, d5, d6, d7, d8, d9⟩ := cl10 hX0
 clear hX0 hB0 hA
 have t2 : ¬ (3 : Int) < (L : Int) := by omega
 have t3 : ¬ (L : Int) < 0 := by omega
 go_enter Tryz.func13, Tryz.ntmps13
 go_wp2_with fail
 go_quiet ((go_at_call 37; exact Calls.quiet_of_same (HBT.out _)))
 obtain ⟨Wd, hWd⟩ : ∃ Wd, W0.drewN nq = Wd := ⟨_, rfl⟩
 have hbd : Below W0.heap.size W0 Wd := by rw [← hWd]; exact bDr (Below.refl _ _) _
 rw [hWd]
 obtain ⟨W1, hW1, hX1, hB1, hs1⟩ := boxes1 Wd #[.int .i64 3, .int .i64 L, .slice none 0 0, .int .i64 0, .string ⟨#[]⟩, .int .i64 0, .int .i64 0, .slice none 0 0, .int .i64 0, .slice none 0 0] 39
 obtain ⟨V, hV⟩ : ∃ V, (W1.setCell ⟨Wd.heap.size, 8, none⟩ (.int .i64 (3 - (L : Int)))).setCell ⟨Wd.heap.size, 9, none⟩ (.slice s.ga s.gl s.gc) = V := ⟨_, rfl⟩
 have hXV : V.heap[Wd.heap.size]? = some (.cells #[.int .i64 3, .int .i64 L, .slice none 0 0, .int .i64 0, .string ⟨#[]⟩, .int .i64 0, .int .i64 0, .slice none 0 0, .int .i64 (3 - (L : Int)), .slice s.ga s.gl s.gc] 39 (0, 0)) := by rw [← hV]; exact hSk (hSk hX1 _) _
 have hBV : Below Wd.heap.size Wd V := by rw [← hV]; exact (hB1.setCell (p := ⟨Wd.heap.size, 8, none⟩) (Nat.le_refl _) _).setCell (p := ⟨Wd.heap.size, 9, none⟩) (Nat.le_refl _) _
 have hb0 : Below W0.heap.size W0 W1 := hbd.trans (hB1.mono hbd.size)
 have hb1 : Below W0.heap.size W0 V := hbd.trans (hBV.mono hbd.size)
 have hz0 : w.heap.size < W0.heap.size := by omega
 have hsd := hbd.size
 have HRt : Hid (Calls Tryz.prog 41 #[.agg #[.int .i64 (3 - (L : Int)), .slice s.ga s.gl s.gc]] V fun e w' => e = .returned (.bool true) ∧ Below V.heap.size V w') := by
  have h := ref09_Right_any (3 - (L : Int)) s.ga s.gl s.gc l V (HA.out.go hb1).g.1 (Nat.le_trans HA.out.g.2.1 HA.out.g.2.2.1) hU
  rw [hR] at h
  exact h
 obtain ⟨c0, c1, c2, c3, c4, c5, c6, c7, c8, c9⟩ := cl10 hX1
 obtain ⟨f0, f1, f2, f3, f4, f5, f6, f7, f8, f9⟩ := cz10 hX1
 have e1 : W1.setCell ⟨Wd.heap.size, 1, none⟩ (.int .i64 L) = W1 := set_same hX1 rfl
 have e2 : W1.setCell ⟨Wd.heap.size, 2, none⟩ (.slice none 0 0) = W1 := set_same hX1 rfl
 have e3 : W1.setCell ⟨Wd.heap.size, 3, none⟩ (.int .i64 0) = W1 := set_same hX1 rfl
 have e4 : W1.setCell ⟨Wd.heap.size, 4, none⟩ (.string ⟨#[]⟩) = W1 := set_same hX1 rfl
 have e5 : W1.setCell ⟨Wd.heap.size, 5, none⟩ (.int .i64 0) = W1 := set_same hX1 rfl
 have e6 : W1.setCell ⟨Wd.heap.size, 6, none⟩ (.int .i64 0) = W1 := set_same hX1 rfl
 have e7 : W1.setCell ⟨Wd.heap.size, 7, none⟩ (.slice none 0 0) = W1 := set_same hX1 rfl
 have e8 : W1.setCell ⟨Wd.heap.size, 8, none⟩ (.int .i64 0) = W1 := set_same hX1 rfl
 have e9 : W1.setCell ⟨Wd.heap.size, 9, none⟩ (.slice none 0 0) = W1 := set_same hX1 rfl
 have p0 := (hbd.cell (p := ⟨w.heap.size, 0, none⟩) hz0).trans d0
 have p1 := (hbd.cell (p := ⟨w.heap.size, 1, none⟩) hz0).trans d1
 have a0 := (hb0.cell (p := ⟨w.heap.size, 0, none⟩) hz0).trans d0
 have a1 := (hb0.cell (p := ⟨w.heap.size, 1, none⟩) hz0).trans d1
 have a2 := (hb0.cell (p := ⟨w.heap.size, 2, none⟩) hz0).trans d2
 have b0 := (hb1.cell (p := ⟨w.heap.size, 0, none⟩) hz0).trans d0
 have b1 := (hb1.cell (p := ⟨w.heap.size, 1, none⟩) hz0).trans d1
 have b8 := (hb1.cell (p := ⟨w.heap.size, 8, none⟩) hz0).trans d8
 have b9 := (hb1.cell (p := ⟨w.heap.size, 9, none⟩) hz0).trans d9
 have a8 := (hb0.cell (p := ⟨w.heap.size, 8, none⟩) hz0).trans d8
 have a9 := (hb0.cell (p := ⟨w.heap.size, 9, none⟩) hz0).trans d9
 have HB1 := Lib.hid hb1
 have HXV := Lib.hid hXV
 clear hX1 hXV hBV hb0 hb1 hU
 go_wp2_with fail
 refine HRt.out.mono ?_
 rintro e w2 ⟨rfl, hb2⟩
 have hb02 : Below W0.heap.size W0 w2 := HB1.out.trans (hb2.mono HB1.out.size)
 have hXw := (hb2.block _ (Array.getElem?_eq_some_iff.1 HXV.out).1).trans HXV.out
 have k0 := (hb02.cell (p := ⟨w.heap.size, 0, none⟩) hz0).trans d0
 have k1 := (hb02.cell (p := ⟨w.heap.size, 1, none⟩) hz0).trans d1
 have k2 := (hb02.cell (p := ⟨w.heap.size, 2, none⟩) hz0).trans d2
 have k3 := (hb02.cell (p := ⟨w.heap.size, 3, none⟩) hz0).trans d3
 have k4 := (hb02.cell (p := ⟨w.heap.size, 4, none⟩) hz0).trans d4
 have k5 := (hb02.cell (p := ⟨w.heap.size, 5, none⟩) hz0).trans d5
 have k6 := (hb02.cell (p := ⟨w.heap.size, 6, none⟩) hz0).trans d6
 have k7 := (hb02.cell (p := ⟨w.heap.size, 7, none⟩) hz0).trans d7
 have k8 := (hb02.cell (p := ⟨w.heap.size, 8, none⟩) hz0).trans d8
 have k9 := (hb02.cell (p := ⟨w.heap.size, 9, none⟩) hz0).trans d9
 obtain ⟨m0, m1, m2, m3, m4, m5, m6, m7, m8, m9⟩ := cl10 hXw
 have HS := Lib.hid (ref10_Same_eq ⟨3, L, [], 0, ⟨#[]⟩, 0, 0, [], 3 - (L : Int), l⟩ s ⟨none, 0, 0, none, 0, 0, s.ga, s.gl, s.gc⟩ w2 (HA.out.go hb02) ⟨slC_nil, slC_nil, (HA.out.go hb02).g⟩)
 clear hXw
 go_wp2_with fail
 refine HS.out.mono ?_
 rintro e w3 ⟨rfl, hb3⟩
 have hb03 := hb02.trans (hb3.mono hb02.size)
 go_wp2_with fail
 go_ret
 exact ⟨rfl, HB0.out.trans (hb03.mono HB0.out.size)⟩
end Go.Proofs.YthbhmnakmhambaaGreatDoor
