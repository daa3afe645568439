/- Packages cms, hll, hist: shapes; cms.Right; hist.Bounds. Packages hist, cms: Bounds whole, Right. Package hll: ranks, Right. -/
import Derived.Laws.BitsAllLaws
import Derived.Test.YtcbbenncdainfaaGreatDoorYX8
namespace Go.Proofs.YtcbbenncdainfaaGreatDoor
open Go Go.RowKit
theorem isBits_any (n : Int) (w : World) : Calls Tryz.prog 103 #[.int .i64 n] w fun e w' => e = .returned (.bool (isBitsB n)) ∧ w = w' := by
 by_cases h1 : 3 ≤ n
 ·go_enter Tryz.func103, Tryz.ntmps103
  go_wp2
  go_ret
  exact ⟨by simp [isBitsB, h1], rfl⟩
 ·go_enter Tryz.func103, Tryz.ntmps103
  go_wp2
  go_ret
  exact ⟨by simp [isBitsB]; omega, rfl⟩
theorem isFine_any (n : Int) (w : World) : Calls Tryz.prog 105 #[.int .i64 n] w fun e w' => e = .returned (.bool (isFineB n)) ∧ w = w' := by
 by_cases h1 : 0 ≤ n
 ·go_enter Tryz.func105, Tryz.ntmps105
  go_wp2
  go_ret
  exact ⟨by simp [isFineB, h1], rfl⟩
 ·go_enter Tryz.func105, Tryz.ntmps105
  go_wp2
  go_ret
  exact ⟨by simp [isFineB]; omega, rfl⟩
theorem isShape_any (r c : Int) (w : World) : Calls Tryz.prog 94 #[.int .i64 r, .int .i64 c] w fun e w' => e = .returned (.bool (isShapeB r c)) ∧ w = w' := by
 by_cases h1 : r < 1
 ·go_enter Tryz.func94, Tryz.ntmps94
  go_wp2
  go_ret
  exact ⟨by simp [isShapeB]; omega, rfl⟩
 by_cases h2 : 4 < r
 ·go_enter Tryz.func94, Tryz.ntmps94
  go_wp2
  go_ret
  exact ⟨by simp [isShapeB]; omega, rfl⟩
 by_cases h3 : 4 ≤ c
 ·by_cases h4 : c ≤ 32
  ·go_enter Tryz.func94, Tryz.ntmps94
   go_wp2
   go_ret
   exact ⟨by simp [isShapeB, h3, h4]; omega, rfl⟩
  ·go_enter Tryz.func94, Tryz.ntmps94
   go_wp2
   go_ret
   exact ⟨by simp [isShapeB]; intros; omega, rfl⟩
 ·go_enter Tryz.func94, Tryz.ntmps94
  go_wp2
  go_ret
  exact ⟨by simp [isShapeB]; intros; omega, rfl⟩
theorem Bottom_any (k : Int) (w : World) : Calls Tryz.prog 21 #[.int .i64 k] w fun e w' => e = .returned (.int .i64 (bottomB k)) ∧ w = w' := by
 cases h1 : (k == 1) with
 | true =>
  go_enter Tryz.func21, Tryz.ntmps21
  go_wp2
  go_ret
  exact ⟨by simp [bottomB, h1], rfl⟩
 | false =>
  cases h2 : (k == 2) with
  | true =>
   go_enter Tryz.func21, Tryz.ntmps21
   go_wp2
   go_ret
   exact ⟨by simp [bottomB, h1, h2], rfl⟩
  | false =>
   cases h3 : (k == 3) with
   | true =>
    go_enter Tryz.func21, Tryz.ntmps21
    go_wp2
    go_ret
    exact ⟨by simp [bottomB, h1, h2, h3], rfl⟩
   | false =>
    go_enter Tryz.func21, Tryz.ntmps21
    go_wp2
    go_ret
    exact ⟨by simp [bottomB, h1, h2, h3], rfl⟩
def BdPost (b : Bool) (w : World) (e : Ending) (w' : World) : Prop := ∃ lo hi : Int, e = .returned (.tuple #[.int .u64 lo, .int .u64 hi, .bool b]) ∧ Below w.heap.size w w'
theorem bd_none (fine n : Int) (w : World) (hb : boundsB fine n = false) (h : isFineB fine = false ∨ n < 0) : Calls Tryz.prog 106 #[.int .i64 fine, .int .i64 n] w (BdPost (boundsB fine n) w) := by
 rw [hb]
 clear hb
 rcases h with h | h
 ·go_enter Tryz.func106, Tryz.ntmps106
  go_wp2_with fail
  refine wp_scope_once 0 rfl ?_
  go_wp2_with (go_at_call 105; refine (isFine_any _ _).mono ?_; rintro e w' ⟨rfl, rfl⟩)
  first | rw [jump_ret] | (go_step3; refine And.intro (rfl : (0 : Nat) = 0) ?_; go_wp2_with fail; go_wp2_with fail; rw [Exit.noGoto_ret]) | (go_step3; go_wp2_with fail; rw [jump_ret])
  go_ret3
  exact ⟨_, _, rfl, Below.refl _ _⟩
 ·cases hf : isFineB fine with
  | true =>
   go_enter Tryz.func106, Tryz.ntmps106
   go_wp2_with fail
   refine wp_scope_once 0 rfl ?_
   go_wp2_with (go_at_call 105; refine (isFine_any _ _).mono ?_; rintro e w' ⟨rfl, rfl⟩)
   first | rw [jump_ret] | (go_step3; refine And.intro (rfl : (0 : Nat) = 0) ?_; go_wp2_with fail; go_wp2_with fail; rw [Exit.noGoto_ret]) | (go_step3; go_wp2_with fail; rw [jump_ret])
   go_ret3
   exact ⟨_, _, rfl, Below.refl _ _⟩
  | false =>
   go_enter Tryz.func106, Tryz.ntmps106
   go_wp2_with fail
   refine wp_scope_once 0 rfl ?_
   go_wp2_with (go_at_call 105; refine (isFine_any _ _).mono ?_; rintro e w' ⟨rfl, rfl⟩)
   first | rw [jump_ret] | (go_step3; refine And.intro (rfl : (0 : Nat) = 0) ?_; go_wp2_with fail; go_wp2_with fail; rw [Exit.noGoto_ret]) | (go_step3; go_wp2_with fail; rw [jump_ret])
   go_ret3
   exact ⟨_, _, rfl, Below.refl _ _⟩
set_option maxHeartbeats 1000000 in
theorem bd_zero0 (w : World) : Calls Tryz.prog 106 #[.int .i64 0, .int .i64 0] w (BdPost true w) := by
 have hF : isFineB 0 = true := rfl
 go_enter Tryz.func106, Tryz.ntmps106
 go_wp2_with fail
 refine wp_scope_once 0 rfl ?_
 go_wp2_with (go_at_call 105; refine (isFine_any _ _).mono ?_; rintro e w' ⟨rfl, rfl⟩)
 first | rw [jump_ret] | (go_step3; refine And.intro (rfl : (0 : Nat) = 0) ?_; go_wp2_with fail; go_wp2_with fail; rw [Exit.noGoto_ret]) | (go_step3; go_wp2_with fail; rw [jump_ret])
 go_ret3
 exact ⟨_, _, rfl, Below.refl _ _⟩
set_option maxHeartbeats 1000000 in
theorem bd_far0 (n : Int) (w : World) (h1 : 1 ≤ n) (h2 : n ≤ 9223372036854775807) (h3 : 64 ≤ (n - 1)) : Calls Tryz.prog 106 #[.int .i64 0, .int .i64 n] w (BdPost false w) := by
 have t0 : (n == 0) = false := by rw [beq_eq_false_iff_ne]; omega
 have hF : isFineB 0 = true := rfl
 go_enter Tryz.func106, Tryz.ntmps106
 go_wp2_with fail
 refine wp_scope_once 0 rfl ?_
 go_wp2_with (go_at_call 105; refine (isFine_any _ _).mono ?_; rintro e w' ⟨rfl, rfl⟩)
 go_quiet (fail)
 go_wp2_with fail
 first | rw [jump_ret] | (go_step3; refine And.intro (rfl : (0 : Nat) = 0) ?_; go_wp2_with fail; go_wp2_with fail; rw [Exit.noGoto_ret]) | (go_step3; go_wp2_with fail; rw [jump_ret])
 go_ret3
 exact ⟨_, _, rfl, bDr (Below.refl _ _) _⟩
set_option maxHeartbeats 1000000 in
theorem bd_near0 (n : Int) (w : World) (h1 : 1 ≤ n) (h2 : n ≤ 9223372036854775807) (h3 : (n - 1) < 64) (_h4 : 0 ≤ (n - 1)) : Calls Tryz.prog 106 #[.int .i64 0, .int .i64 n] w (BdPost true w) := by
 have t0 : (n == 0) = false := by rw [beq_eq_false_iff_ne]; omega
 have hF : isFineB 0 = true := rfl
 go_enter Tryz.func106, Tryz.ntmps106
 go_wp2_with fail
 refine wp_scope_once 0 rfl ?_
 go_wp2_with (go_at_call 105; refine (isFine_any _ _).mono ?_; rintro e w' ⟨rfl, rfl⟩)
 go_quiet (fail)
 go_wp2_with fail
 go_quiet (fail)
 go_wp2_with fail
 first | rw [jump_ret] | (go_step3; refine And.intro (rfl : (0 : Nat) = 0) ?_; go_wp2_with fail; go_wp2_with fail; rw [Exit.noGoto_ret]) | (go_step3; go_wp2_with fail; rw [jump_ret])
 go_ret3
 exact ⟨_, _, rfl, bDr (bDr (Below.refl _ _) _) _⟩
set_option maxHeartbeats 1000000 in
theorem bd_zero1 (w : World) : Calls Tryz.prog 106 #[.int .i64 1, .int .i64 0] w (BdPost true w) := by
 have hF : isFineB 1 = true := rfl
 go_enter Tryz.func106, Tryz.ntmps106
 go_wp2_with fail
 refine wp_scope_once 0 rfl ?_
 go_wp2_with (go_at_call 105; refine (isFine_any _ _).mono ?_; rintro e w' ⟨rfl, rfl⟩)
 first | rw [jump_ret] | (go_step3; refine And.intro (rfl : (0 : Nat) = 0) ?_; go_wp2_with fail; go_wp2_with fail; rw [Exit.noGoto_ret]) | (go_step3; go_wp2_with fail; rw [jump_ret])
 go_ret3
 exact ⟨_, _, rfl, Below.refl _ _⟩
set_option maxHeartbeats 1000000 in
theorem bd_far1 (n : Int) (w : World) (h1 : 1 ≤ n) (h2 : n ≤ 9223372036854775807) (h3 : 64 ≤ (n - 1) / 2) : Calls Tryz.prog 106 #[.int .i64 1, .int .i64 n] w (BdPost false w) := by
 have t0 : (n == 0) = false := by rw [beq_eq_false_iff_ne]; omega
 have hF : isFineB 1 = true := rfl
 go_enter Tryz.func106, Tryz.ntmps106
 go_wp2_with fail
 refine wp_scope_once 0 rfl ?_
 go_wp2_with (go_at_call 105; refine (isFine_any _ _).mono ?_; rintro e w' ⟨rfl, rfl⟩)
 go_quiet (fail)
 go_wp2_with fail
 first | rw [jump_ret] | (go_step3; refine And.intro (rfl : (0 : Nat) = 0) ?_; go_wp2_with fail; go_wp2_with fail; rw [Exit.noGoto_ret]) | (go_step3; go_wp2_with fail; rw [jump_ret])
 go_ret3
 exact ⟨_, _, rfl, bDr (Below.refl _ _) _⟩
set_option maxHeartbeats 1000000 in
theorem bd_near1 (n : Int) (w : World) (h1 : 1 ≤ n) (h2 : n ≤ 9223372036854775807) (h3 : (n - 1) / 2 < 64) (h4 : 1 ≤ (n - 1) / 2) : Calls Tryz.prog 106 #[.int .i64 1, .int .i64 n] w (BdPost true w) := by
 have t0 : (n == 0) = false := by rw [beq_eq_false_iff_ne]; omega
 have hF : isFineB 1 = true := rfl
 go_enter Tryz.func106, Tryz.ntmps106
 go_wp2_with fail
 refine wp_scope_once 0 rfl ?_
 go_wp2_with (go_at_call 105; refine (isFine_any _ _).mono ?_; rintro e w' ⟨rfl, rfl⟩)
 go_quiet (fail)
 go_wp2_with fail
 go_quiet (fail)
 go_wp2_with fail
 first | rw [jump_ret] | (go_step3; refine And.intro (rfl : (0 : Nat) = 0) ?_; go_wp2_with fail; go_wp2_with fail; rw [Exit.noGoto_ret]) | (go_step3; go_wp2_with fail; rw [jump_ret])
 go_ret3
 exact ⟨_, _, rfl, bDr (bDr (Below.refl _ _) _) _⟩
set_option maxHeartbeats 1000000 in
theorem bd_zero2 (w : World) : Calls Tryz.prog 106 #[.int .i64 2, .int .i64 0] w (BdPost true w) := by
 have hF : isFineB 2 = true := rfl
 go_enter Tryz.func106, Tryz.ntmps106
 go_wp2_with fail
 refine wp_scope_once 0 rfl ?_
 go_wp2_with (go_at_call 105; refine (isFine_any _ _).mono ?_; rintro e w' ⟨rfl, rfl⟩)
 first | rw [jump_ret] | (go_step3; refine And.intro (rfl : (0 : Nat) = 0) ?_; go_wp2_with fail; go_wp2_with fail; rw [Exit.noGoto_ret]) | (go_step3; go_wp2_with fail; rw [jump_ret])
 go_ret3
 exact ⟨_, _, rfl, Below.refl _ _⟩
set_option maxHeartbeats 1000000 in
theorem bd_far2 (n : Int) (w : World) (h1 : 1 ≤ n) (h2 : n ≤ 9223372036854775807) (h3 : 64 ≤ (n - 1) / 4) : Calls Tryz.prog 106 #[.int .i64 2, .int .i64 n] w (BdPost false w) := by
 have t0 : (n == 0) = false := by rw [beq_eq_false_iff_ne]; omega
 have hF : isFineB 2 = true := rfl
 go_enter Tryz.func106, Tryz.ntmps106
 go_wp2_with fail
 refine wp_scope_once 0 rfl ?_
 go_wp2_with (go_at_call 105; refine (isFine_any _ _).mono ?_; rintro e w' ⟨rfl, rfl⟩)
 go_quiet (fail)
 go_wp2_with fail
 first | rw [jump_ret] | (go_step3; refine And.intro (rfl : (0 : Nat) = 0) ?_; go_wp2_with fail; go_wp2_with fail; rw [Exit.noGoto_ret]) | (go_step3; go_wp2_with fail; rw [jump_ret])
 go_ret3
 exact ⟨_, _, rfl, bDr (Below.refl _ _) _⟩
set_option maxHeartbeats 1000000 in
theorem bd_near2 (n : Int) (w : World) (h1 : 1 ≤ n) (h2 : n ≤ 9223372036854775807) (h3 : (n - 1) / 4 < 64) (h4 : 2 ≤ (n - 1) / 4) : Calls Tryz.prog 106 #[.int .i64 2, .int .i64 n] w (BdPost true w) := by
 have t0 : (n == 0) = false := by rw [beq_eq_false_iff_ne]; omega
 have hF : isFineB 2 = true := rfl
 go_enter Tryz.func106, Tryz.ntmps106
 go_wp2_with fail
 refine wp_scope_once 0 rfl ?_
 go_wp2_with (go_at_call 105; refine (isFine_any _ _).mono ?_; rintro e w' ⟨rfl, rfl⟩)
 go_quiet (fail)
 go_wp2_with fail
 go_quiet (fail)
 go_wp2_with fail
 first | rw [jump_ret] | (go_step3; refine And.intro (rfl : (0 : Nat) = 0) ?_; go_wp2_with fail; go_wp2_with fail; rw [Exit.noGoto_ret]) | (go_step3; go_wp2_with fail; rw [jump_ret])
 go_ret3
 exact ⟨_, _, rfl, bDr (bDr (Below.refl _ _) _) _⟩
set_option maxHeartbeats 1000000 in
theorem bd_zero3 (w : World) : Calls Tryz.prog 106 #[.int .i64 3, .int .i64 0] w (BdPost true w) := by
 have hF : isFineB 3 = true := rfl
 go_enter Tryz.func106, Tryz.ntmps106
 go_wp2_with fail
 refine wp_scope_once 0 rfl ?_
 go_wp2_with (go_at_call 105; refine (isFine_any _ _).mono ?_; rintro e w' ⟨rfl, rfl⟩)
 first | rw [jump_ret] | (go_step3; refine And.intro (rfl : (0 : Nat) = 0) ?_; go_wp2_with fail; go_wp2_with fail; rw [Exit.noGoto_ret]) | (go_step3; go_wp2_with fail; rw [jump_ret])
 go_ret3
 exact ⟨_, _, rfl, Below.refl _ _⟩
set_option maxHeartbeats 1000000 in
theorem bd_far3 (n : Int) (w : World) (h1 : 1 ≤ n) (h2 : n ≤ 9223372036854775807) (h3 : 64 ≤ (n - 1) / 8) : Calls Tryz.prog 106 #[.int .i64 3, .int .i64 n] w (BdPost false w) := by
 have t0 : (n == 0) = false := by rw [beq_eq_false_iff_ne]; omega
 have hF : isFineB 3 = true := rfl
 go_enter Tryz.func106, Tryz.ntmps106
 go_wp2_with fail
 refine wp_scope_once 0 rfl ?_
 go_wp2_with (go_at_call 105; refine (isFine_any _ _).mono ?_; rintro e w' ⟨rfl, rfl⟩)
 go_quiet (fail)
 go_wp2_with fail
 first | rw [jump_ret] | (go_step3; refine And.intro (rfl : (0 : Nat) = 0) ?_; go_wp2_with fail; go_wp2_with fail; rw [Exit.noGoto_ret]) | (go_step3; go_wp2_with fail; rw [jump_ret])
 go_ret3
 exact ⟨_, _, rfl, bDr (Below.refl _ _) _⟩
set_option maxHeartbeats 1000000 in
theorem bd_near3 (n : Int) (w : World) (h1 : 1 ≤ n) (h2 : n ≤ 9223372036854775807) (h3 : (n - 1) / 8 < 64) (h4 : 3 ≤ (n - 1) / 8) : Calls Tryz.prog 106 #[.int .i64 3, .int .i64 n] w (BdPost true w) := by
 have t0 : (n == 0) = false := by rw [beq_eq_false_iff_ne]; omega
 have hF : isFineB 3 = true := rfl
 go_enter Tryz.func106, Tryz.ntmps106
 go_wp2_with fail
 refine wp_scope_once 0 rfl ?_
 go_wp2_with (go_at_call 105; refine (isFine_any _ _).mono ?_; rintro e w' ⟨rfl, rfl⟩)
 go_quiet (fail)
 go_wp2_with fail
 go_quiet (fail)
 go_wp2_with fail
 first | rw [jump_ret] | (go_step3; refine And.intro (rfl : (0 : Nat) = 0) ?_; go_wp2_with fail; go_wp2_with fail; rw [Exit.noGoto_ret]) | (go_step3; go_wp2_with fail; rw [jump_ret])
 go_ret3
 exact ⟨_, _, rfl, bDr (bDr (Below.refl _ _) _) _⟩
set_option maxHeartbeats 1000000 in
theorem bd_low10 (n : Int) (w : World) (h1 : 1 ≤ n) (h2 : n ≤ 9223372036854775807) (h3 : (n - 1) / 2 = 0) (c : Bool) (hc : (bits .and .i64 (bits .and .i64 (n - 1) 1) 1 == 0) = c) : Calls Tryz.prog 106 #[.int .i64 1, .int .i64 n] w (BdPost c w) := by
 have t0 : (n == 0) = false := by rw [beq_eq_false_iff_ne]; omega
 have hF : isFineB 1 = true := rfl
 cases c
 ·go_enter Tryz.func106, Tryz.ntmps106
  go_wp2_with fail
  refine wp_scope_once 0 rfl ?_
  go_wp2_with (go_at_call 105; refine (isFine_any _ _).mono ?_; rintro e w' ⟨rfl, rfl⟩)
  go_quiet (fail)
  go_wp2_with fail
  first | rw [jump_ret] | (go_step3; refine And.intro (rfl : (0 : Nat) = 0) ?_; go_wp2_with fail; go_wp2_with fail; rw [Exit.noGoto_ret]) | (go_step3; go_wp2_with fail; rw [jump_ret])
  go_ret3
  exact ⟨_, _, rfl, bDr (Below.refl _ _) _⟩
 ·go_enter Tryz.func106, Tryz.ntmps106
  go_wp2_with fail
  refine wp_scope_once 0 rfl ?_
  go_wp2_with (go_at_call 105; refine (isFine_any _ _).mono ?_; rintro e w' ⟨rfl, rfl⟩)
  go_quiet (fail)
  go_wp2_with fail
  first | rw [jump_ret] | (go_step3; refine And.intro (rfl : (0 : Nat) = 0) ?_; go_wp2_with fail; go_wp2_with fail; rw [Exit.noGoto_ret]) | (go_step3; go_wp2_with fail; rw [jump_ret])
  go_ret3
  exact ⟨_, _, rfl, bDr (Below.refl _ _) _⟩
set_option maxHeartbeats 1000000 in
theorem bd_low20 (n : Int) (w : World) (h1 : 1 ≤ n) (h2 : n ≤ 9223372036854775807) (h3 : (n - 1) / 4 = 0) (c : Bool) (hc : (bits .and .i64 (bits .and .i64 (n - 1) 3) 3 == 0) = c) : Calls Tryz.prog 106 #[.int .i64 2, .int .i64 n] w (BdPost c w) := by
 have t0 : (n == 0) = false := by rw [beq_eq_false_iff_ne]; omega
 have hF : isFineB 2 = true := rfl
 cases c
 ·go_enter Tryz.func106, Tryz.ntmps106
  go_wp2_with fail
  refine wp_scope_once 0 rfl ?_
  go_wp2_with (go_at_call 105; refine (isFine_any _ _).mono ?_; rintro e w' ⟨rfl, rfl⟩)
  go_quiet (fail)
  go_wp2_with fail
  first | rw [jump_ret] | (go_step3; refine And.intro (rfl : (0 : Nat) = 0) ?_; go_wp2_with fail; go_wp2_with fail; rw [Exit.noGoto_ret]) | (go_step3; go_wp2_with fail; rw [jump_ret])
  go_ret3
  exact ⟨_, _, rfl, bDr (Below.refl _ _) _⟩
 ·go_enter Tryz.func106, Tryz.ntmps106
  go_wp2_with fail
  refine wp_scope_once 0 rfl ?_
  go_wp2_with (go_at_call 105; refine (isFine_any _ _).mono ?_; rintro e w' ⟨rfl, rfl⟩)
  go_quiet (fail)
  go_wp2_with fail
  first | rw [jump_ret] | (go_step3; refine And.intro (rfl : (0 : Nat) = 0) ?_; go_wp2_with fail; go_wp2_with fail; rw [Exit.noGoto_ret]) | (go_step3; go_wp2_with fail; rw [jump_ret])
  go_ret3
  exact ⟨_, _, rfl, bDr (Below.refl _ _) _⟩
set_option maxHeartbeats 1000000 in
theorem bd_low21 (n : Int) (w : World) (h1 : 1 ≤ n) (h2 : n ≤ 9223372036854775807) (h3 : (n - 1) / 4 = 1) (c : Bool) (hc : (bits .and .i64 (bits .and .i64 (n - 1) 3) 1 == 0) = c) : Calls Tryz.prog 106 #[.int .i64 2, .int .i64 n] w (BdPost c w) := by
 have t0 : (n == 0) = false := by rw [beq_eq_false_iff_ne]; omega
 have hF : isFineB 2 = true := rfl
 cases c
 ·go_enter Tryz.func106, Tryz.ntmps106
  go_wp2_with fail
  refine wp_scope_once 0 rfl ?_
  go_wp2_with (go_at_call 105; refine (isFine_any _ _).mono ?_; rintro e w' ⟨rfl, rfl⟩)
  go_quiet (fail)
  go_wp2_with fail
  first | rw [jump_ret] | (go_step3; refine And.intro (rfl : (0 : Nat) = 0) ?_; go_wp2_with fail; go_wp2_with fail; rw [Exit.noGoto_ret]) | (go_step3; go_wp2_with fail; rw [jump_ret])
  go_ret3
  exact ⟨_, _, rfl, bDr (Below.refl _ _) _⟩
 ·go_enter Tryz.func106, Tryz.ntmps106
  go_wp2_with fail
  refine wp_scope_once 0 rfl ?_
  go_wp2_with (go_at_call 105; refine (isFine_any _ _).mono ?_; rintro e w' ⟨rfl, rfl⟩)
  go_quiet (fail)
  go_wp2_with fail
  first | rw [jump_ret] | (go_step3; refine And.intro (rfl : (0 : Nat) = 0) ?_; go_wp2_with fail; go_wp2_with fail; rw [Exit.noGoto_ret]) | (go_step3; go_wp2_with fail; rw [jump_ret])
  go_ret3
  exact ⟨_, _, rfl, bDr (Below.refl _ _) _⟩
set_option maxHeartbeats 1000000 in
theorem bd_low30 (n : Int) (w : World) (h1 : 1 ≤ n) (h2 : n ≤ 9223372036854775807) (h3 : (n - 1) / 8 = 0) (c : Bool) (hc : (bits .and .i64 (bits .and .i64 (n - 1) 7) 7 == 0) = c) : Calls Tryz.prog 106 #[.int .i64 3, .int .i64 n] w (BdPost c w) := by
 have t0 : (n == 0) = false := by rw [beq_eq_false_iff_ne]; omega
 have hF : isFineB 3 = true := rfl
 cases c
 ·go_enter Tryz.func106, Tryz.ntmps106
  go_wp2_with fail
  refine wp_scope_once 0 rfl ?_
  go_wp2_with (go_at_call 105; refine (isFine_any _ _).mono ?_; rintro e w' ⟨rfl, rfl⟩)
  go_quiet (fail)
  go_wp2_with fail
  first | rw [jump_ret] | (go_step3; refine And.intro (rfl : (0 : Nat) = 0) ?_; go_wp2_with fail; go_wp2_with fail; rw [Exit.noGoto_ret]) | (go_step3; go_wp2_with fail; rw [jump_ret])
  go_ret3
  exact ⟨_, _, rfl, bDr (Below.refl _ _) _⟩
 ·go_enter Tryz.func106, Tryz.ntmps106
  go_wp2_with fail
  refine wp_scope_once 0 rfl ?_
  go_wp2_with (go_at_call 105; refine (isFine_any _ _).mono ?_; rintro e w' ⟨rfl, rfl⟩)
  go_quiet (fail)
  go_wp2_with fail
  first | rw [jump_ret] | (go_step3; refine And.intro (rfl : (0 : Nat) = 0) ?_; go_wp2_with fail; go_wp2_with fail; rw [Exit.noGoto_ret]) | (go_step3; go_wp2_with fail; rw [jump_ret])
  go_ret3
  exact ⟨_, _, rfl, bDr (Below.refl _ _) _⟩
set_option maxHeartbeats 1000000 in
theorem bd_low31 (n : Int) (w : World) (h1 : 1 ≤ n) (h2 : n ≤ 9223372036854775807) (h3 : (n - 1) / 8 = 1) (c : Bool) (hc : (bits .and .i64 (bits .and .i64 (n - 1) 7) 3 == 0) = c) : Calls Tryz.prog 106 #[.int .i64 3, .int .i64 n] w (BdPost c w) := by
 have t0 : (n == 0) = false := by rw [beq_eq_false_iff_ne]; omega
 have hF : isFineB 3 = true := rfl
 cases c
 ·go_enter Tryz.func106, Tryz.ntmps106
  go_wp2_with fail
  refine wp_scope_once 0 rfl ?_
  go_wp2_with (go_at_call 105; refine (isFine_any _ _).mono ?_; rintro e w' ⟨rfl, rfl⟩)
  go_quiet (fail)
  go_wp2_with fail
  first | rw [jump_ret] | (go_step3; refine And.intro (rfl : (0 : Nat) = 0) ?_; go_wp2_with fail; go_wp2_with fail; rw [Exit.noGoto_ret]) | (go_step3; go_wp2_with fail; rw [jump_ret])
  go_ret3
  exact ⟨_, _, rfl, bDr (Below.refl _ _) _⟩
 ·go_enter Tryz.func106, Tryz.ntmps106
  go_wp2_with fail
  refine wp_scope_once 0 rfl ?_
  go_wp2_with (go_at_call 105; refine (isFine_any _ _).mono ?_; rintro e w' ⟨rfl, rfl⟩)
  go_quiet (fail)
  go_wp2_with fail
  first | rw [jump_ret] | (go_step3; refine And.intro (rfl : (0 : Nat) = 0) ?_; go_wp2_with fail; go_wp2_with fail; rw [Exit.noGoto_ret]) | (go_step3; go_wp2_with fail; rw [jump_ret])
  go_ret3
  exact ⟨_, _, rfl, bDr (Below.refl _ _) _⟩
set_option maxHeartbeats 1000000 in
theorem bd_low32 (n : Int) (w : World) (h1 : 1 ≤ n) (h2 : n ≤ 9223372036854775807) (h3 : (n - 1) / 8 = 2) (c : Bool) (hc : (bits .and .i64 (bits .and .i64 (n - 1) 7) 1 == 0) = c) : Calls Tryz.prog 106 #[.int .i64 3, .int .i64 n] w (BdPost c w) := by
 have t0 : (n == 0) = false := by rw [beq_eq_false_iff_ne]; omega
 have hF : isFineB 3 = true := rfl
 cases c
 ·go_enter Tryz.func106, Tryz.ntmps106
  go_wp2_with fail
  refine wp_scope_once 0 rfl ?_
  go_wp2_with (go_at_call 105; refine (isFine_any _ _).mono ?_; rintro e w' ⟨rfl, rfl⟩)
  go_quiet (fail)
  go_wp2_with fail
  first | rw [jump_ret] | (go_step3; refine And.intro (rfl : (0 : Nat) = 0) ?_; go_wp2_with fail; go_wp2_with fail; rw [Exit.noGoto_ret]) | (go_step3; go_wp2_with fail; rw [jump_ret])
  go_ret3
  exact ⟨_, _, rfl, bDr (Below.refl _ _) _⟩
 ·go_enter Tryz.func106, Tryz.ntmps106
  go_wp2_with fail
  refine wp_scope_once 0 rfl ?_
  go_wp2_with (go_at_call 105; refine (isFine_any _ _).mono ?_; rintro e w' ⟨rfl, rfl⟩)
  go_quiet (fail)
  go_wp2_with fail
  first | rw [jump_ret] | (go_step3; refine And.intro (rfl : (0 : Nat) = 0) ?_; go_wp2_with fail; go_wp2_with fail; rw [Exit.noGoto_ret]) | (go_step3; go_wp2_with fail; rw [jump_ret])
  go_ret3
  exact ⟨_, _, rfl, bDr (Below.refl _ _) _⟩
end Go.Proofs.YtcbbenncdainfaaGreatDoor
namespace Go.Proofs.YtcbbenncdainfaaGreatDoor
open Go Go.RowKit
theorem boundsB_at (fine n : Int) (h0 : 1 ≤ n) (hf : isFineB fine = true) : boundsB fine n = (if 64 ≤ (n - 1) / 2 ^ fine.toNat then false else if fine ≤ (n - 1) / 2 ^ fine.toNat then true
   else bits .and .i64 (bits .and .i64 (n - 1) (2 ^ fine.toNat - 1)) (2 ^ (fine - (n - 1) / 2 ^ fine.toNat).toNat - 1) == 0) := by
 unfold boundsB
 have h1 : decide (0 ≤ n) = true := decide_eq_true (by omega)
 have h2 : (n == 0) = false := beq_eq_false_iff_ne.2 (by omega)
 rw [hf, h1, h2]
 rfl
theorem Bounds_any (fine n : Int) (hn : n ≤ 9223372036854775807) (w : World) : Calls Tryz.prog 106 #[.int .i64 fine, .int .i64 n] w (BdPost (boundsB fine n) w) := by
 cases hf : isFineB fine with
 | false => exact bd_none fine n w (by simp [boundsB, hf]) (.inl hf)
 | true =>
  by_cases h0 : n < 0
  ·exact bd_none fine n w (by simp [boundsB]; intros; omega) (.inr h0)
  by_cases hz : n = 0
  ·subst hz
   have hb : boundsB fine 0 = true := by simp [boundsB, hf]
   rw [hb]
   have hr : 0 ≤ fine ∧ fine ≤ 3 := by simpa [isFineB] using hf
   rcases (by omega : fine = 0 ∨ fine = 1 ∨ fine = 2 ∨ fine = 3) with rfl | rfl | rfl | rfl
   ·exact bd_zero0 w
   ·exact bd_zero1 w
   ·exact bd_zero2 w
   ·exact bd_zero3 w
  have hr : 0 ≤ fine ∧ fine ≤ 3 := by simpa [isFineB] using hf
  rw [boundsB_at fine n (by omega) hf]
  rcases (by omega : fine = 0 ∨ fine = 1 ∨ fine = 2 ∨ fine = 3) with rfl | rfl | rfl | rfl
  ·rw [show (2 : Int) ^ (0 : Int).toNat = 1 from rfl, Int.ediv_one]
   by_cases h1 : 64 ≤ n - 1
   ·rw [if_pos h1]; exact bd_far0 n w (by omega) hn h1
   ·rw [if_neg h1, if_pos (by omega)]; exact bd_near0 n w (by omega) hn (by omega) (by omega)
  ·rw [show (2 : Int) ^ (1 : Int).toNat = 2 from rfl]
   by_cases h1 : 64 ≤ (n - 1) / 2
   ·rw [if_pos h1]; exact bd_far1 n w (by omega) hn h1
   rw [if_neg h1]
   by_cases h2 : 1 ≤ (n - 1) / 2
   ·rw [if_pos h2]; exact bd_near1 n w (by omega) hn (by omega) h2
   rw [if_neg h2]
   have e : (n - 1) / 2 = 0 := by omega
   rw [e]
   exact bd_low10 n w (by omega) hn e _ rfl
  ·rw [show (2 : Int) ^ (2 : Int).toNat = 4 from rfl]
   by_cases h1 : 64 ≤ (n - 1) / 4
   ·rw [if_pos h1]; exact bd_far2 n w (by omega) hn h1
   rw [if_neg h1]
   by_cases h2 : 2 ≤ (n - 1) / 4
   ·rw [if_pos h2]; exact bd_near2 n w (by omega) hn (by omega) h2
   rw [if_neg h2]
   rcases (by omega : (n - 1) / 4 = 0 ∨ (n - 1) / 4 = 1) with e | e <;> rw [e]
   ·exact bd_low20 n w (by omega) hn e _ rfl
   ·exact bd_low21 n w (by omega) hn e _ rfl
  ·rw [show (2 : Int) ^ (3 : Int).toNat = 8 from rfl]
   by_cases h1 : 64 ≤ (n - 1) / 8
   ·rw [if_pos h1]; exact bd_far3 n w (by omega) hn h1
   rw [if_neg h1]
   by_cases h2 : 3 ≤ (n - 1) / 8
   ·rw [if_pos h2]; exact bd_near3 n w (by omega) hn (by omega) h2
   rw [if_neg h2]
   rcases (by omega : (n - 1) / 8 = 0 ∨ (n - 1) / 8 = 1 ∨ (n - 1) / 8 = 2) with e | e | e <;> rw [e]
   ·exact bd_low30 n w (by omega) hn e _ rfl
   ·exact bd_low31 n w (by omega) hn e _ rfl
   ·exact bd_low32 n w (by omega) hn e _ rfl
theorem cms_Right_any (r c : Int) (l : List Int) (a : Option Addr) (len cap : Nat) (w : World) (hL : len = l.length) :
  Calls Tryz.prog 97 #[.agg #[.int .i64 r, .int .i64 c, .slice a len cap]] w fun e w' => e = .returned (.bool (cmRight r c l)) ∧ Below w.heap.size w w' := by
 have hB0 : Below w.heap.size w (w.alloc (.cells #[.int .i64 r, .int .i64 c, .slice a len cap] 28)) := (Below.refl _ w).alloc (Nat.le_refl _) _
 have HL := Lib.hid hL
 clear hL
 have hs := fun w => isShape_any r c w
 cases h1 : isShapeB r c with
 | false =>
  rw [h1] at hs
  have H1 := Lib.hid h1
  clear h1
  go_enter Tryz.func97, Tryz.ntmps97
  go_wp2_with (go_at_call 94; refine (hs _).mono ?_; rintro e w' ⟨rfl, rfl⟩)
  go_ret
  exact ⟨by simp [cmRight, H1.out], hB0⟩
 | true =>
  rw [h1] at hs
  have hr : (1 ≤ r ∧ r ≤ 4) ∧ 4 ≤ c ∧ c ≤ 32 := by simp [isShapeB] at h1; omega
  obtain ⟨⟨r1, r2⟩, r3, r4⟩ := hr
  have hm1 : r * c ≤ 4 * 32 := Int.mul_le_mul r2 r4 (by omega) (by omega)
  have hm0 : 0 ≤ r * c := Int.mul_nonneg (by omega) (by omega)
  have hw : IntKind.i64.wrap (r * c) = r * c := IntWalk.i64_in _ (by omega)
  have H1 := Lib.hid h1
  clear h1
  go_enter Tryz.func97, Tryz.ntmps97
  go_wp2_with (go_at_call 94; refine (hs _).mono ?_; rintro e w' ⟨rfl, rfl⟩)
  go_ret
  exact ⟨by simp [cmRight, H1.out, ← HL.out], hB0⟩
set_option maxRecDepth 100000 in
set_option maxHeartbeats 2000000 in
theorem hist_Right_any (fine : Int) (l : List (Int × Int)) (a : Option Addr) (len cap : Nat) (w : World) (hL : SlE encB 2 w.heap.size w a len l) (hm : len ≤ maxLen) (hb : ∀ b ∈ l, b.1 ≤ 9223372036854775807) :
  Calls Tryz.prog 98 #[.agg #[.int .i64 fine, .slice a len cap]] w fun e w' => e = .returned (.bool (hiRight fine l)) ∧ Below w.heap.size w w' := by
 unfold maxLen at hm
 obtain ⟨W0, hW0, hX0, hB0, hs0⟩ := boxes1 w #[.int .i64 fine, .slice a len cap] 31
 obtain ⟨c0, c1⟩ := cl2 hX0
 have hz0 : w.heap.size < W0.heap.size := by omega
 have HL := Lib.hid hL.1
 have hg := hL.below hB0
 have hs := fun w => isFine_any fine w
 have HBD := Lib.hid hb
 clear hL hX0 hs0 hb
 cases hf : isFineB fine with
 | false =>
  rw [hf] at hs
  have HF := Lib.hid hf
  clear hf hg
  go_enter Tryz.func98, Tryz.ntmps98
  go_wp2_with (go_at_call 105; refine (hs _).mono ?_; rintro e w' ⟨rfl, rfl⟩)
  go_ret
  exact ⟨by simp [hiRight, HF.out], hB0⟩
 | true =>
  rw [hf] at hs
  have HR : Hid (hiRight fine l = (foldO (histStep fine) (-1) l).isSome) := by simp [Hid, hiRight, hf]
  clear hf
  go_enter Tryz.func98, Tryz.ntmps98
  go_wp2_with (go_at_call 105; refine (hs _).mono ?_; rintro e w' ⟨rfl, rfl⟩)
  clear hW0 hs
  go_loopw [3, 16] (fun la i wr => ∃ (k : Nat) (last : Int), i = .int .i64 k ∧ la = .int .i64 last ∧ k ≤ len ∧ Below W0.heap.size W0 wr ∧ Hid (foldO (histStep fine) (-1) (l.take k) = some last)) (fun _ i _ => len - (intOf i).toNat)
  case atStart => exact ⟨0, -1, rfl, rfl, Nat.zero_le _, Below.refl _ _, rfl⟩
  case round =>
   obtain ⟨k, last, rfl, rfl, hk, hB, HF⟩ := hrel
   have hzB := hB.size
   by_cases hlt : k < len
   ·obtain ⟨x, b1, o1, hx, ea, hb1, p0, p1⟩ := bin_cells (hg.below (hB.mono hB0.size)) hlt
    subst ea
    have hxm : x.1 ≤ 9223372036854775807 := HBD.out x (List.mem_of_getElem? hx)
    have HS := Lib.hid (foldO_step hx HF.out)
    obtain ⟨x1, x2⟩ := x
    dsimp only at p0 p1 hxm
    have e0 : wr.cell? ⟨w.heap.size, 0, none⟩ = some (.int .i64 fine) := (hB.cell (p := ⟨w.heap.size, 0, none⟩) hz0).trans c0
    obtain ⟨W2, hW2, hX2, hB2, hs2⟩ := boxes1 wr #[.int .i64 x1, .int .u64 x2] 123
    have r0 : W2.cell? ⟨wr.heap.size, 0, none⟩ = some (.int .i64 x1) := cCc hX2 0
    have f0 : W2.cell? ⟨w.heap.size, 0, none⟩ = some (.int .i64 fine) := (hB2.cell (p := ⟨w.heap.size, 0, none⟩) (by show w.heap.size < _; omega)).trans e0
    have hbd := Bounds_any fine x1 hxm W2
    clear hx hg c0 c1 e0
    go_wp2_with fail
    refine hbd.mono ?_
    rintro e w3 ⟨lo, hi, rfl, hb3⟩
    have hX3 := known hb3 (Nat.le_refl _) hX2
    obtain ⟨s0, s1⟩ := cl2 hX3
    have hBB : Below W0.heap.size W0 w3 := hB.trans ((hB2.mono hzB).trans (hb3.mono (by omega)))
    have HS' : Hid (∀ bb, ((x2 == 0) || !boundsB fine x1 || decide (x1 ≤ last)) = bb → foldO (histStep fine) (-1) (l.take (k + 1)) = if bb then none else some x1) := fun bb h => by rw [HS.out, ← h]; rfl
    clear hW2 hX2 hX3 r0 f0 hbd hs2 HS
    have hret : Hid (∀ bb, ((x2 == 0) || !boundsB fine x1 || decide (x1 ≤ last)) = bb → bb = true → hiRight fine l = false) := fun bb h1 h2 => by
     rw [HR.out, foldO_none (k := k + 1) (by rw [HS'.out bb h1, h2]; rfl)]; rfl
    cases h1 : (x2 == 0) with
    | true =>
     have h9 := hret.out true (by rw [h1]; rfl) rfl
     have H9 := Lib.hid h9
     clear h9
     go_wp2_with fail
     go_ret
     exact ⟨by rw [H9.out]; rfl, hB0.trans (hBB.mono hB0.size)⟩
    | false =>
     cases h2 : boundsB fine x1 with
     | false =>
      have h9 := hret.out true (by rw [h1, h2]; rfl) rfl
      have H9 := Lib.hid h9
      clear h9
      go_wp2_with fail
      go_ret
      exact ⟨by rw [H9.out]; rfl, hB0.trans (hBB.mono hB0.size)⟩
     | true =>
      by_cases h3 : x1 ≤ last
      ·have h9 := hret.out true (by rw [h1, h2, decide_eq_true h3]; rfl) rfl
       have H9 := Lib.hid h9
       clear h9
       go_wp2_with fail
       go_ret
       exact ⟨by rw [H9.out]; rfl, hB0.trans (hBB.mono hB0.size)⟩
      ·have H8 := Lib.hid (HS'.out false (by rw [h1, h2, decide_eq_false h3]; rfl))
       go_wp2_with fail
       go_roundw
       case rel => exact ⟨k + 1, x1, by go_num, rfl, by omega, hBB, H8.out⟩
       case measure => simp [intOf]; omega
   ·obtain rfl : k = len := by omega
    clear hg
    go_wp2_with fail
    go_ret
    have h9 := HF.out
    rw [List.take_of_length_le (by rw [← HL.out]; omega)] at h9
    exact ⟨by rw [HR.out, h9]; rfl, hB0.trans (hB.mono hB0.size)⟩
end Go.Proofs.YtcbbenncdainfaaGreatDoor
namespace Go.Proofs.YtcbbenncdainfaaGreatDoor
open Go Go.RowKit Go.Shelf
attribute [local go_sem] Oper.semAt_some
theorem ranks_any (s : ByteArray) (w : World) :
  Calls Tryz.prog 104 #[.string s] w fun e w' => e = .returned (.func (.func 110) #[] #[.pointer (some ⟨w.heap.size, 0, none⟩)]) ∧ w' = w.alloc (.cells #[.string s] 9) := by
 go_enter Tryz.func104, Tryz.ntmps104
 go_wp2
 go_ret
 exact ⟨rfl, rfl⟩
theorem wp_range_set {α : Type} {P : Program} {g : Operand} {ps : Array Tmp} {assign body : Code} {Q : Exit → Act → World → Prop} {a : Act} {w : World} (s : Nat) (val : α → Value)
  {gf : Nat} {lb : Array Value} (hg : a.eval g = .func (.func gf) #[] lb) (eg : ∀ args w, (callFunc gf args).run P w = .ok (.enter gf args) w)
  {encs : α → Array Value} {n₀ : Nat} {xs : List α} {N : Nat} {w0 : World} (hseq : SeqStopsK Fence.wide 8 P gf lb encs (Below n₀) (fun ys => ys = xs) (fun pre => pre <+: xs) N w0)
  (hn₀ : n₀ ≤ w.heap.size) (hb0 : Below w0.heap.size w0 w) (hps : ∀ x, (encs x).size = ps.size)
  (I : List α → World → Prop) (Ix : Code → List α → World → Prop) (hI : OwnFrom w.heap.size I) (hIx : ∀ c, OwnFrom w.heap.size (Ix c)) (h0 : I [] w)
  (hassign : ∀ (l : Nat) (pre : List α) (x : α) (W : World) (K : Act → World → Prop), I pre W →
   (I pre W → K { tmps := ((ps.zip (encs x)).foldl (fun t (p, v) => t.setIfInBounds p v) a.tmps).setIfInBounds s (val x), defers := [] } W) →
   assign.wpIn (Fence.wide.inRound l) 7 P (Exit.then K (fun _ _ _ => False)) { tmps := (ps.zip (encs x)).foldl (fun t (p, v) => t.setIfInBounds p v) a.tmps, defers := [] } W)
  (hbody : ∀ (l : Nat) (pre : List α) (x : α) (W : World), I pre W → pre.length < N →
   body.wpIn (Fence.wide.inRound l) 7 P (ownPostG w.heap.size (Below n₀) I Ix (pre ++ [x]) W) { tmps := ((ps.zip (encs x)).foldl (fun t (p, v) => t.setIfInBounds p v) a.tmps).setIfInBounds s (val x), defers := [] } W)
  (hdone : ∀ (D : Nat) (W : World), w.heap.size ≤ D → I xs W → W.heap[D]? = some (.deferred (some [])) → Q .normal { a with defers := { target := .collected D, args := #[] } :: a.defers } W)
  (hstop : ∀ (D : Nat) (c : Code) (pre : List α) (W : World), w.heap.size ≤ D → pre <+: xs → Ix c pre W → W.heap[D]? = some (.deferred (some [])) → c.wp P Q { a with defers := { target := .collected D, args := #[] } :: a.defers } W) :
  (Code.rangeFunc g ps assign body).wp P Q a w :=
 wp_range hg eg hseq hn₀ hb0 hps I Ix hI hIx h0
  (fun x a' _ => a' = { tmps := ((ps.zip (encs x)).foldl (fun t (p, v) => t.setIfInBounds p v) a.tmps).setIfInBounds s (val x), defers := [] }) (fun _ _ => ownFrom_pure _ _)
  (fun l pre x W K hi hK => hassign l pre x W K hi (fun hi' => hK _ _ (KeepsFrom.refl _ _) (Below.refl _ _) hi' rfl))
  (fun l pre x a' W hi hax hlt => by subst hax; exact hbody l pre x W hi hlt) hdone hstop
def octs (s : ByteArray) : List (Nat × UInt8) := (List.range s.size).map fun i => (i, s.data.toList.getD i 0)
def okRegs (b : Int) (l : List (Nat × UInt8)) : Bool := l.all fun p => !decide (65 - b < (p.2.toNat : Int))
theorem okRegs_append (b : Int) (l m : List (Nat × UInt8)) : okRegs b (l ++ m) = (okRegs b l && okRegs b m) := List.all_append
theorem okRegs_one (b : Int) (x : Nat × UInt8) : okRegs b [x] = !decide (65 - b < (x.2.toNat : Int)) := by simp [okRegs]
theorem octs_all (b : Int) (s : ByteArray) : okRegs b (octs s) = regsOk b s := by
 have h : s.data.toList = (octs s).map (·.2) := by
  apply List.ext_getElem?
  intro i
  by_cases hi : i < s.size
  ·simp [octs, hi]
  ·simp [octs, hi]
 unfold regsOk okRegs
 rw [h, List.all_map]
 rfl
theorem octs_len (s : ByteArray) : (octs s).length = s.size := by simp [octs]
theorem octs_at (s : ByteArray) (k : Nat) (h : k < s.size) : (octs s)[k]? = some (k, s[k]'h) := by
 simp [octs, h]
 rfl
set_option maxRecDepth 100000 in
set_option maxHeartbeats 1000000 in
theorem ranks1 (l Bs n₀ : Nat) (s : ByteArray) (hreach : s.size < 4294967281) (J Jx : List (Nat × UInt8) → World → Prop)
  (hY : ∀ pre x W, J pre W → pre.length < (octs s).length → YieldAt Fence.wide 7 Tryz.prog l #[.int .i64 x.1, .int .u8 x.2.toNat] W fun e W' =>
   (e = .returned (.bool true) ∧ J (pre ++ [x]) W' ∧ Below n₀ W W') ∨ (e = .returned (.bool false) ∧ Jx (pre ++ [x]) W'))
  (W : World) (hn₀ : Bs < n₀) (hBs : W.cell? ⟨Bs, 0, none⟩ = some (.string s)) (h0 : J [] W) :
  CallsIn Fence.wide 8 Tryz.prog 110 #[.func (.yield l) #[] #[], .pointer (some ⟨Bs, 0, none⟩)] W fun e W' => (∃ v, e = .returned v) ∧
   ((∃ ys, ys = octs s ∧ J ys W') ∨ (∃ pre, pre <+: octs s ∧ Jx pre W')) := by
 have hol := octs_len s
 refine callsIn_of_wp Tryz.func110 rfl trivial ?_ rfl
 simp only [Tryz.ntmps110, List.size_toArray, List.length_cons, List.length_nil, Nat.reduceAdd, Nat.reduceSub, Array.replicate_succ, Array.replicate_zero, List.push_toArray, List.append_toArray, List.nil_append, List.cons_append]
 have HO := Lib.hid hol
 clear hol
 gi_wp2
 gi_loopw [3, 6] (fun _ i wr => ∃ k : Nat, k ≤ s.size ∧ i = .int .i64 k ∧ J ((octs s).take k) wr ∧ Below n₀ W wr) (fun _ i _ => s.size - (intOf i).toNat)
 case atStart => exact ⟨0, Nat.zero_le _, rfl, h0, Below.refl _ _⟩
 case round =>
  obtain ⟨k, hk, rfl, hJs, hnx⟩ := hrel
  by_cases hlt : k < s.size
  ·have hx := octs_at s k hlt
   obtain ⟨fn, tmps, assign, body, hy, hR⟩ := hY _ (k, s[k]'hlt) _ hJs (by rw [List.length_take, HO.out]; omega)
   have HX := Lib.hid hx
   have c0 : wr.cell? ⟨Bs, 0, none⟩ = some (.string s) := (hnx.cell (p := ⟨Bs, 0, none⟩) hn₀).trans hBs
   clear hx
   gi_wp2
   refine hR.mono ?_
   rintro e W3 (⟨rfl, hJ3, hk3⟩ | ⟨rfl, hJx3⟩)
   ·gi_wp2
    go_roundw
    case rel => exact ⟨k + 1, by omega, by simp, by rw [take_snoc' HX.out]; exact hJ3, hnx.trans hk3⟩
    case measure => simp [intOf]; omega
   ·gi_wp2
    refine bodyPost_ret (results_none rfl _ _ _) rfl ?_
    exact ⟨⟨_, rfl⟩, .inr ⟨_, by have h := List.take_prefix (k + 1) (octs s); rwa [take_snoc' HX.out] at h, hJx3⟩⟩
  ·obtain rfl : k = s.size := by omega
   gi_wp2
   go_end0
   exact ⟨⟨_, rfl⟩, .inl ⟨_, List.take_of_length_le (by rw [HO.out]; omega), hJs⟩⟩
theorem ranks_seq (Bs n₀ : Nat) (s : ByteArray) (hreach : s.size < 4294967281) (w : World) (hBs : Bs < w.heap.size) (hlt : Bs < n₀) (hc : w.cell? ⟨Bs, 0, none⟩ = some (.string s)) :
  SeqStopsK Fence.wide 8 Tryz.prog 110 #[.pointer (some ⟨Bs, 0, none⟩)] (fun x : Nat × UInt8 => #[.int .i64 x.1, .int .u8 x.2.toNat]) (Below n₀) (fun ys => ys = octs s) (fun pre => pre <+: octs s) (octs s).length w := fun l J Jx W hW _ _ hY h0 =>
 ranks1 l Bs n₀ s hreach J Jx hY W hlt ((hW.cell (p := ⟨Bs, 0, none⟩) hBs).trans hc) h0
set_option maxRecDepth 100000 in
set_option maxHeartbeats 2000000 in
theorem hll_Right_mid (b : Int) (s : ByteArray) (w : World) (hb1 : 3 ≤ b) (hb2 : b ≤ 8) (hs : (s.size : Int) = 2 ^ b.toNat) :
  Calls Tryz.prog 96 #[.agg #[.int .i64 b, .string s]] w fun e w' => e = .returned (.bool (regsOk b s)) ∧ Below w.heap.size w w' := by
 obtain ⟨W0, hW0, hX0, hB0, hs0⟩ := boxes1 w #[.int .i64 b, .string s] 26
 obtain ⟨c0, c1⟩ := cl2 hX0
 refine calls_marks Tryz.func96 rfl ?_
 simp only [Tryz.ntmps96, List.size_toArray, List.length_cons, List.length_nil, Nat.reduceAdd, Nat.reduceSub, Array.replicate_succ, Array.replicate_zero, List.push_toArray, List.append_toArray, List.nil_append, List.cons_append]
 have hib : ∀ w, Calls Tryz.prog 103 #[.int .i64 b] w fun e w' => e = .returned (.bool true) ∧ w' = w := fun w => (isBits_any b w).mono fun e w' ⟨h1, h2⟩ => ⟨by rw [h1]; simp [isBitsB, hb1, hb2], h2.symm⟩
 have hs256 : s.size ≤ 256 := by
  have h1 : (2 : Int) ^ b.toNat ≤ 2 ^ 8 := by
   have : (2 : Nat) ^ b.toNat ≤ 2 ^ 8 := Nat.pow_le_pow_right (by omega) (by omega)
   exact_mod_cast this
  omega
 have hw : IntKind.i64.wrap (2 ^ b.toNat) = (s.size : Int) := by rw [← hs]; exact IntWalk.i64_in _ (by omega)
 have t0 : ((s.size : Int) != (s.size : Int)) = false := by simp
 have HIB := Lib.hid hib
 clear hs hib
 go_wp2_with fail
 go_step3
 go_wp2_with fail
 go_quiet ((go_at_call 103; exact Calls.quiet_of_same (HIB.out _)))
 go_wp2_with fail
 go_step3
 have hBn : Below w.heap.size w (W0.drewN nq) := bDr hB0 nq
 obtain ⟨Wa, hWa, hXa, hBa, hsa⟩ := boxes1 (W0.drewN nq) #[.bool true] 4
 have hz : (W0.drewN nq).heap.size = w.heap.size + 1 := hs0
 rw [hz] at hXa hBa hsa
 have hXb : Wa.heap[w.heap.size]? = some (.cells #[.int .i64 b, .string s] 26 (0, 0)) := (hBa.block _ (by omega)).trans hX0
 have ca : Wa.cell? ⟨w.heap.size, 1, none⟩ = some (.string s) := cCc hXb 1
 obtain ⟨W1, hW1, hX2, hB1, hs1⟩ := boxes1 Wa #[.string s] 9
 rw [hsa] at hX2 hB1 hs1
 have hX3 := (hB1.block _ (by omega)).trans hXb
 have hX1 := (hB1.block _ (by omega)).trans hXa
 have hBw : Below w.heap.size w W1 := (hBn.trans (hBa.mono (by omega))).trans (hB1.mono (by omega))
 have HW := Lib.hid hW1
 have hsa' : w.heap.size + 1 + 1 ≤ Wa.heap.size := by omega
 rw [hWa]
 clear hW0 hX0 hs0 hW1 hWa hz hXa hXb
 go_wp2_with fail
 refine (ranks_any _ _).mono ?_
 rintro e w' ⟨rfl, rfl⟩
 rw [hsa, HW.out]
 clear hsa hsa' ca
 go_wp2_with fail
 have hcs : W1.cell? ⟨w.heap.size + 1 + 1, 0, none⟩ = some (.string s) := cCc hX2 0
 clear c0 c1 HW
 refine wp_range_set 5 (fun x : Nat × UInt8 => .int .u8 x.2.toNat) (gf := 110) (lb := #[.pointer (some ⟨w.heap.size + 1 + 1, 0, none⟩)]) rfl (enters_of Tryz.func110 (by kernel_rfl) rfl)
  (ranks_seq (w.heap.size + 1 + 1) W1.heap.size s (by omega) W1 (by omega) (by omega) hcs) (Nat.le_refl _) (Below.refl _ _) (fun _ => rfl)
  (fun pre W => Below W1.heap.size W1 W ∧ okRegs b pre = true)
  (fun c pre W => Boxed W (w.heap.size + 1) 4 (.bool false) ∧ (c = .exit 0 ∧ okRegs b pre = false) ∧ Below w.heap.size w W)
  ((ownFrom_below (Nat.le_refl _) (Nat.le_refl _)).and (ownFrom_pure _ _))
  (fun c => (ownBox _ _ _ _).and ((ownFrom_pure _ _).and (ownFrom_below (Nat.le_refl _) (by omega))))
  ⟨Below.refl _ _, rfl⟩ ?assign ?body ?done ?stop
 case assign =>
  rintro l pre x W K hI hK
  simp only [List.zip_toArray, List.zip_cons_cons, List.zip_nil_right, List.size_toArray, List.foldl_toArray', List.foldl_cons, List.foldl_nil, List.setIfInBounds_toArray, List.set_cons_succ, List.set_cons_zero] at hK ⊢
  gi_wp2
  exact hI
 case body =>
  rintro l pre x W ⟨hB, hg⟩ hlt
  simp only [List.zip_toArray, List.zip_cons_cons, List.zip_nil_right, List.size_toArray, List.foldl_toArray', List.foldl_cons, List.foldl_nil, List.setIfInBounds_toArray, List.set_cons_succ, List.set_cons_zero]
  have hXw := (hB.block _ (by omega)).trans hX3
  have hXv := (hB.block _ (by omega)).trans hX1
  have c0 : W.cell? ⟨w.heap.size, 0, none⟩ = some (.int .i64 b) := cCc hXw 0
  have c1 : W.cell? ⟨w.heap.size + 1, 0, none⟩ = some (.bool true) := cCc hXv 0
  have c2 : W.frozen? ⟨w.heap.size + 1, 0, none⟩ = false := cFz hXv 0
  have hb1' : Boxed W (w.heap.size + 1) 4 (.bool true) := hXv
  have hBB : Below w.heap.size w W := hBw.trans (hB.mono hBw.size)
  have HG := Lib.hid hg
  have hx := UInt8.toNat_lt x.2
  have hwx : wrap64 (x.2.toNat : Int) = (x.2.toNat : Int) := by unfold wrap64; omega
  clear hg hXw hXv hX1 hX2 hX3 hs1
  by_cases ht : 65 - b < (x.2.toNat : Int)
  ·gi_wp2_with fail
   exact ⟨(KeepsOthers.setCell _ _ _).from _, hb1'.set _, ⟨rfl, by rw [okRegs_append, HG.out, okRegs_one, decide_eq_true ht]; rfl⟩, hBB.setCell (p := ⟨w.heap.size + 1, 0, none⟩) (Nat.le_succ _) _⟩
  ·gi_wp2_with fail
   exact ⟨KeepsFrom.refl _ _, Below.refl _ _, hB, by rw [okRegs_append, HG.out, okRegs_one, decide_eq_false (by omega)]; rfl⟩
 case done =>
  rintro D W hD ⟨hB, hg⟩ hK
  have hXv := (hB.block _ (by omega)).trans hX1
  have c1 : W.cell? ⟨w.heap.size + 1, 0, none⟩ = some (.bool true) := cCc hXv 0
  have hBB : Below w.heap.size w W := hBw.trans (hB.mono hBw.size)
  have hDs : w.heap.size ≤ D := by omega
  clear hX1 hX2 hX3 hs1 hXv
  go_wp2_with fail
  refine marks_ret1 hK (results_tmp rfl _ _ _) ⟨by rw [← octs_all, hg]; rfl, bPutD hBB hDs hK⟩
 case stop =>
  rintro D c pre W hD hp ⟨hb1', ⟨rfl, hg⟩, hB⟩ hK
  have c3 := hb1'.cell
  have hDs : w.heap.size ≤ D := by omega
  clear hX1 hX2 hX3 hs1
  go_wp2_with fail
  have h9 : regsOk b s = false := by
   rw [← octs_all]
   obtain ⟨t, ht⟩ := hp
   rw [← ht, okRegs_append, hg]; rfl
  refine marks_ret1 hK (results_tmp rfl _ _ _) ⟨by rw [h9]; rfl, bPutD hB hDs hK⟩
set_option maxRecDepth 100000 in
set_option maxHeartbeats 2000000 in
theorem hll_Right_any (b : Int) (s : ByteArray) (w : World) :
  Calls Tryz.prog 96 #[.agg #[.int .i64 b, .string s]] w fun e w' => e = .returned (.bool (hlRight b s)) ∧ Below w.heap.size w w' := by
 cases hb : isBitsB b with
 | true =>
  have hr : 3 ≤ b ∧ b ≤ 8 := by simpa [isBitsB] using hb
  by_cases hs : (s.size : Int) = 2 ^ b.toNat
  ·refine (hll_Right_mid b s w hr.1 hr.2 hs).mono ?_
   rintro e w' ⟨rfl, h⟩
   have h2 : ((s.size : Int) == 2 ^ b.toNat) = true := beq_iff_eq.2 hs
   exact ⟨by simp only [hlRight, hb, h2, Bool.true_and], h⟩
  ·obtain ⟨W0, hW0, hX0, hB0, hs0⟩ := boxes1 w #[.int .i64 b, .string s] 26
   obtain ⟨c0, c1⟩ := cl2 hX0
   have hib : ∀ w, Calls Tryz.prog 103 #[.int .i64 b] w fun e w' => e = .returned (.bool true) ∧ w' = w := fun w => (isBits_any b w).mono fun e w' ⟨h1, h2⟩ => ⟨by rw [h1, hb], h2.symm⟩
   have HIB := Lib.hid hib
   have hp : (2 : Int) ^ b.toNat ≤ 256 := by
    have : (2 : Nat) ^ b.toNat ≤ 2 ^ 8 := Nat.pow_le_pow_right (by omega) (by omega)
    exact_mod_cast this
   have hp0 : (0 : Int) ≤ 2 ^ b.toNat := by
    have : (0 : Nat) ≤ 2 ^ b.toNat := Nat.zero_le _
    exact_mod_cast this
   generalize hq : (2 : Int) ^ b.toNat = q at hs hp hp0
   have hw : IntKind.i64.wrap (2 ^ b.toNat) = q := by rw [hq]; exact IntWalk.i64_in _ (by omega)
   have t0 : ((s.size : Int) != q) = true := by rw [bne_iff_ne]; exact hs
   have HR : Hid (hlRight b s = false) := by
    have h2 : ((s.size : Int) == 2 ^ b.toNat) = false := by rw [hq, beq_eq_false_iff_ne]; exact hs
    simp only [Hid, hlRight, h2, Bool.and_false, Bool.false_and]
   obtain ⟨hr1, hr2⟩ := hr
   clear hb hib hq hs hX0 hs0
   refine calls_marks Tryz.func96 rfl ?_
   simp only [Tryz.ntmps96, List.size_toArray, List.length_cons, List.length_nil, Nat.reduceAdd, Nat.reduceSub, Array.replicate_succ, Array.replicate_zero, List.push_toArray, List.append_toArray, List.nil_append, List.cons_append]
   go_wp2_with fail
   go_step3
   go_wp2_with fail
   go_quiet ((go_at_call 103; exact Calls.quiet_of_same (HIB.out _)))
   go_wp2_with fail
   exact marks_ret0 (results_tmp rfl _ _ _) rfl ⟨by rw [HR.out]; rfl, bDr hB0 _⟩
 | false =>
  obtain ⟨W0, hW0, hX0, hB0, hs0⟩ := boxes1 w #[.int .i64 b, .string s] 26
  have c0 : W0.cell? ⟨w.heap.size, 0, none⟩ = some (.int .i64 b) := cCc hX0 0
  have hib : ∀ w, Calls Tryz.prog 103 #[.int .i64 b] w fun e w' => e = .returned (.bool false) ∧ w' = w := fun w => (isBits_any b w).mono fun e w' ⟨h1, h2⟩ => ⟨by rw [h1, hb], h2.symm⟩
  have HIB := Lib.hid hib
  have HR : Hid (hlRight b s = false) := by simp only [Hid, hlRight, hb, Bool.false_and]
  clear hb hib hX0 hs0
  refine calls_marks Tryz.func96 rfl ?_
  simp only [Tryz.ntmps96, List.size_toArray, List.length_cons, List.length_nil, Nat.reduceAdd, Nat.reduceSub, Array.replicate_succ, Array.replicate_zero, List.push_toArray, List.append_toArray, List.nil_append, List.cons_append]
  go_wp2_with fail
  go_step3
  go_wp2_with fail
  go_quiet ((go_at_call 103; exact Calls.quiet_of_same (HIB.out _)))
  go_wp2_with fail
  exact marks_ret0 (results_tmp rfl _ _ _) rfl ⟨by rw [HR.out]; rfl, bDr hB0 _⟩
end Go.Proofs.YtcbbenncdainfaaGreatDoor
