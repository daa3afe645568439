/- Packages cms, hll, hist: shapes; cms.Right; hist.Bounds. Packages hist, cms: Bounds whole, Right. -/
import Derived.Test.YtjpnbkdhmjgdgaaDoorX8
import Derived.Laws.BitsAllLaws
namespace Go.Proofs.YtjpnbkdhmjgdgaaDoor
open Go Go.RowKit

theorem isBits_any (n : Int) (w : World) : Calls Tryd.prog 60 #[.int .i64 n] w fun e w' => e = .returned (.bool (isBitsB n)) ∧ w = w' := by
  by_cases h1 : 3 ≤ n
  · go_enter Tryd.func60, Tryd.ntmps60
    go_wp2
    go_ret
    exact ⟨by simp [isBitsB, h1], rfl⟩
  · go_enter Tryd.func60, Tryd.ntmps60
    go_wp2
    go_ret
    exact ⟨by simp [isBitsB]; omega, rfl⟩
theorem isFine_any (n : Int) (w : World) : Calls Tryd.prog 63 #[.int .i64 n] w fun e w' => e = .returned (.bool (isFineB n)) ∧ w = w' := by
  by_cases h1 : 0 ≤ n
  · go_enter Tryd.func63, Tryd.ntmps63
    go_wp2
    go_ret
    exact ⟨by simp [isFineB, h1], rfl⟩
  · go_enter Tryd.func63, Tryd.ntmps63
    go_wp2
    go_ret
    exact ⟨by simp [isFineB]; omega, rfl⟩
theorem isShape_any (r c : Int) (w : World) : Calls Tryd.prog 62 #[.int .i64 r, .int .i64 c] w fun e w' => e = .returned (.bool (isShapeB r c)) ∧ w = w' := by
  by_cases h1 : r < 1
  · go_enter Tryd.func62, Tryd.ntmps62
    go_wp2
    go_ret
    exact ⟨by simp [isShapeB]; omega, rfl⟩
  by_cases h2 : 4 < r
  · go_enter Tryd.func62, Tryd.ntmps62
    go_wp2
    go_ret
    exact ⟨by simp [isShapeB]; omega, rfl⟩
  by_cases h3 : 4 ≤ c
  · by_cases h4 : c ≤ 32
    · go_enter Tryd.func62, Tryd.ntmps62
      go_wp2
      go_ret
      exact ⟨by simp [isShapeB, h3, h4]; omega, rfl⟩
    · go_enter Tryd.func62, Tryd.ntmps62
      go_wp2
      go_ret
      exact ⟨by simp [isShapeB]; intros; omega, rfl⟩
  · go_enter Tryd.func62, Tryd.ntmps62
    go_wp2
    go_ret
    exact ⟨by simp [isShapeB]; intros; omega, rfl⟩
theorem Bottom_any (k : Int) (w : World) : Calls Tryd.prog 34 #[.int .i64 k] w fun e w' => e = .returned (.int .i64 (bottomB k)) ∧ w = w' := by
  cases h1 : (k == 1) with
  | true =>
    go_enter Tryd.func34, Tryd.ntmps34
    go_wp2
    go_ret
    exact ⟨by simp [bottomB, h1], rfl⟩
  | false =>
    cases h2 : (k == 2) with
    | true =>
      go_enter Tryd.func34, Tryd.ntmps34
      go_wp2
      go_ret
      exact ⟨by simp [bottomB, h1, h2], rfl⟩
    | false =>
      cases h3 : (k == 3) with
      | true =>
        go_enter Tryd.func34, Tryd.ntmps34
        go_wp2
        go_ret
        exact ⟨by simp [bottomB, h1, h2, h3], rfl⟩
      | false =>
        go_enter Tryd.func34, Tryd.ntmps34
        go_wp2
        go_ret
        exact ⟨by simp [bottomB, h1, h2, h3], rfl⟩

/-- What Bounds hands back; the two bounds are not told here. -/
def BdPost (b : Bool) (w : World) (e : Ending) (w' : World) : Prop := ∃ lo hi : Int, e = .returned (.tuple #[.int .u64 lo, .int .u64 hi, .bool b]) ∧ Below w.heap.size w w'
theorem bd_none (fine n : Int) (w : World) (hb : boundsB fine n = false) (h : isFineB fine = false ∨ n < 0) : Calls Tryd.prog 64 #[.int .i64 fine, .int .i64 n] w (BdPost (boundsB fine n) w) := by
  rw [hb]
  clear hb
  rcases h with h | h
  · go_enter Tryd.func64, Tryd.ntmps64
    go_wp2_with fail
    refine wp_scope_once 0 rfl ?_
    go_wp2_with (go_at_call 63; refine (isFine_any _ _).mono ?_; rintro e w' ⟨rfl, rfl⟩)
    first | rw [jump_ret] | (go_step3; refine And.intro (rfl : (0 : Nat) = 0) ?_; go_wp2_with fail; go_wp2_with fail; rw [Exit.noGoto_ret]) | (go_step3; go_wp2_with fail; rw [jump_ret])
    go_ret3
    exact ⟨_, _, rfl, Below.refl _ _⟩
  · cases hf : isFineB fine with
    | true =>
      go_enter Tryd.func64, Tryd.ntmps64
      go_wp2_with fail
      refine wp_scope_once 0 rfl ?_
      go_wp2_with (go_at_call 63; refine (isFine_any _ _).mono ?_; rintro e w' ⟨rfl, rfl⟩)
      first | rw [jump_ret] | (go_step3; refine And.intro (rfl : (0 : Nat) = 0) ?_; go_wp2_with fail; go_wp2_with fail; rw [Exit.noGoto_ret]) | (go_step3; go_wp2_with fail; rw [jump_ret])
      go_ret3
      exact ⟨_, _, rfl, Below.refl _ _⟩
    | false =>
      go_enter Tryd.func64, Tryd.ntmps64
      go_wp2_with fail
      refine wp_scope_once 0 rfl ?_
      go_wp2_with (go_at_call 63; refine (isFine_any _ _).mono ?_; rintro e w' ⟨rfl, rfl⟩)
      first | rw [jump_ret] | (go_step3; refine And.intro (rfl : (0 : Nat) = 0) ?_; go_wp2_with fail; go_wp2_with fail; rw [Exit.noGoto_ret]) | (go_step3; go_wp2_with fail; rw [jump_ret])
      go_ret3
      exact ⟨_, _, rfl, Below.refl _ _⟩
set_option maxHeartbeats 1000000 in
theorem bd_zero0 (w : World) : Calls Tryd.prog 64 #[.int .i64 0, .int .i64 0] w (BdPost true w) := by
  have hF : isFineB 0 = true := rfl
  go_enter Tryd.func64, Tryd.ntmps64
  go_wp2_with fail
  refine wp_scope_once 0 rfl ?_
  go_wp2_with (go_at_call 63; refine (isFine_any _ _).mono ?_; rintro e w' ⟨rfl, rfl⟩)
  first | rw [jump_ret] | (go_step3; refine And.intro (rfl : (0 : Nat) = 0) ?_; go_wp2_with fail; go_wp2_with fail; rw [Exit.noGoto_ret]) | (go_step3; go_wp2_with fail; rw [jump_ret])
  go_ret3
  exact ⟨_, _, rfl, Below.refl _ _⟩
set_option maxHeartbeats 1000000 in
theorem bd_far0 (n : Int) (w : World) (h1 : 1 ≤ n) (h2 : n ≤ 9223372036854775807) (h3 : 64 ≤ (n - 1)) : Calls Tryd.prog 64 #[.int .i64 0, .int .i64 n] w (BdPost false w) := by
  have t0 : (n == 0) = false := by rw [beq_eq_false_iff_ne]; omega
  have hF : isFineB 0 = true := rfl
  go_enter Tryd.func64, Tryd.ntmps64
  go_wp2_with fail
  refine wp_scope_once 0 rfl ?_
  go_wp2_with (go_at_call 63; refine (isFine_any _ _).mono ?_; rintro e w' ⟨rfl, rfl⟩)
  go_quiet (fail)
  go_wp2_with fail
  first | rw [jump_ret] | (go_step3; refine And.intro (rfl : (0 : Nat) = 0) ?_; go_wp2_with fail; go_wp2_with fail; rw [Exit.noGoto_ret]) | (go_step3; go_wp2_with fail; rw [jump_ret])
  go_ret3
  exact ⟨_, _, rfl, below_drewN (Below.refl _ _) _⟩
set_option maxHeartbeats 1000000 in
theorem bd_near0 (n : Int) (w : World) (h1 : 1 ≤ n) (h2 : n ≤ 9223372036854775807) (h3 : (n - 1) < 64) (_h4 : 0 ≤ (n - 1)) : Calls Tryd.prog 64 #[.int .i64 0, .int .i64 n] w (BdPost true w) := by
  have t0 : (n == 0) = false := by rw [beq_eq_false_iff_ne]; omega
  have hF : isFineB 0 = true := rfl
  go_enter Tryd.func64, Tryd.ntmps64
  go_wp2_with fail
  refine wp_scope_once 0 rfl ?_
  go_wp2_with (go_at_call 63; refine (isFine_any _ _).mono ?_; rintro e w' ⟨rfl, rfl⟩)
  go_quiet (fail)
  go_wp2_with fail
  go_quiet (fail)
  go_wp2_with fail
  first | rw [jump_ret] | (go_step3; refine And.intro (rfl : (0 : Nat) = 0) ?_; go_wp2_with fail; go_wp2_with fail; rw [Exit.noGoto_ret]) | (go_step3; go_wp2_with fail; rw [jump_ret])
  go_ret3
  exact ⟨_, _, rfl, below_drewN (below_drewN (Below.refl _ _) _) _⟩
set_option maxHeartbeats 1000000 in
theorem bd_zero1 (w : World) : Calls Tryd.prog 64 #[.int .i64 1, .int .i64 0] w (BdPost true w) := by
  have hF : isFineB 1 = true := rfl
  go_enter Tryd.func64, Tryd.ntmps64
  go_wp2_with fail
  refine wp_scope_once 0 rfl ?_
  go_wp2_with (go_at_call 63; refine (isFine_any _ _).mono ?_; rintro e w' ⟨rfl, rfl⟩)
  first | rw [jump_ret] | (go_step3; refine And.intro (rfl : (0 : Nat) = 0) ?_; go_wp2_with fail; go_wp2_with fail; rw [Exit.noGoto_ret]) | (go_step3; go_wp2_with fail; rw [jump_ret])
  go_ret3
  exact ⟨_, _, rfl, Below.refl _ _⟩
set_option maxHeartbeats 1000000 in
theorem bd_far1 (n : Int) (w : World) (h1 : 1 ≤ n) (h2 : n ≤ 9223372036854775807) (h3 : 64 ≤ (n - 1) / 2) : Calls Tryd.prog 64 #[.int .i64 1, .int .i64 n] w (BdPost false w) := by
  have t0 : (n == 0) = false := by rw [beq_eq_false_iff_ne]; omega
  have hF : isFineB 1 = true := rfl
  go_enter Tryd.func64, Tryd.ntmps64
  go_wp2_with fail
  refine wp_scope_once 0 rfl ?_
  go_wp2_with (go_at_call 63; refine (isFine_any _ _).mono ?_; rintro e w' ⟨rfl, rfl⟩)
  go_quiet (fail)
  go_wp2_with fail
  first | rw [jump_ret] | (go_step3; refine And.intro (rfl : (0 : Nat) = 0) ?_; go_wp2_with fail; go_wp2_with fail; rw [Exit.noGoto_ret]) | (go_step3; go_wp2_with fail; rw [jump_ret])
  go_ret3
  exact ⟨_, _, rfl, below_drewN (Below.refl _ _) _⟩
set_option maxHeartbeats 1000000 in
theorem bd_near1 (n : Int) (w : World) (h1 : 1 ≤ n) (h2 : n ≤ 9223372036854775807) (h3 : (n - 1) / 2 < 64) (h4 : 1 ≤ (n - 1) / 2) : Calls Tryd.prog 64 #[.int .i64 1, .int .i64 n] w (BdPost true w) := by
  have t0 : (n == 0) = false := by rw [beq_eq_false_iff_ne]; omega
  have hF : isFineB 1 = true := rfl
  go_enter Tryd.func64, Tryd.ntmps64
  go_wp2_with fail
  refine wp_scope_once 0 rfl ?_
  go_wp2_with (go_at_call 63; refine (isFine_any _ _).mono ?_; rintro e w' ⟨rfl, rfl⟩)
  go_quiet (fail)
  go_wp2_with fail
  go_quiet (fail)
  go_wp2_with fail
  first | rw [jump_ret] | (go_step3; refine And.intro (rfl : (0 : Nat) = 0) ?_; go_wp2_with fail; go_wp2_with fail; rw [Exit.noGoto_ret]) | (go_step3; go_wp2_with fail; rw [jump_ret])
  go_ret3
  exact ⟨_, _, rfl, below_drewN (below_drewN (Below.refl _ _) _) _⟩
set_option maxHeartbeats 1000000 in
theorem bd_zero2 (w : World) : Calls Tryd.prog 64 #[.int .i64 2, .int .i64 0] w (BdPost true w) := by
  have hF : isFineB 2 = true := rfl
  go_enter Tryd.func64, Tryd.ntmps64
  go_wp2_with fail
  refine wp_scope_once 0 rfl ?_
  go_wp2_with (go_at_call 63; refine (isFine_any _ _).mono ?_; rintro e w' ⟨rfl, rfl⟩)
  first | rw [jump_ret] | (go_step3; refine And.intro (rfl : (0 : Nat) = 0) ?_; go_wp2_with fail; go_wp2_with fail; rw [Exit.noGoto_ret]) | (go_step3; go_wp2_with fail; rw [jump_ret])
  go_ret3
  exact ⟨_, _, rfl, Below.refl _ _⟩
set_option maxHeartbeats 1000000 in
theorem bd_far2 (n : Int) (w : World) (h1 : 1 ≤ n) (h2 : n ≤ 9223372036854775807) (h3 : 64 ≤ (n - 1) / 4) : Calls Tryd.prog 64 #[.int .i64 2, .int .i64 n] w (BdPost false w) := by
  have t0 : (n == 0) = false := by rw [beq_eq_false_iff_ne]; omega
  have hF : isFineB 2 = true := rfl
  go_enter Tryd.func64, Tryd.ntmps64
  go_wp2_with fail
  refine wp_scope_once 0 rfl ?_
  go_wp2_with (go_at_call 63; refine (isFine_any _ _).mono ?_; rintro e w' ⟨rfl, rfl⟩)
  go_quiet (fail)
  go_wp2_with fail
  first | rw [jump_ret] | (go_step3; refine And.intro (rfl : (0 : Nat) = 0) ?_; go_wp2_with fail; go_wp2_with fail; rw [Exit.noGoto_ret]) | (go_step3; go_wp2_with fail; rw [jump_ret])
  go_ret3
  exact ⟨_, _, rfl, below_drewN (Below.refl _ _) _⟩
set_option maxHeartbeats 1000000 in
theorem bd_near2 (n : Int) (w : World) (h1 : 1 ≤ n) (h2 : n ≤ 9223372036854775807) (h3 : (n - 1) / 4 < 64) (h4 : 2 ≤ (n - 1) / 4) : Calls Tryd.prog 64 #[.int .i64 2, .int .i64 n] w (BdPost true w) := by
  have t0 : (n == 0) = false := by rw [beq_eq_false_iff_ne]; omega
  have hF : isFineB 2 = true := rfl
  go_enter Tryd.func64, Tryd.ntmps64
  go_wp2_with fail
  refine wp_scope_once 0 rfl ?_
  go_wp2_with (go_at_call 63; refine (isFine_any _ _).mono ?_; rintro e w' ⟨rfl, rfl⟩)
  go_quiet (fail)
  go_wp2_with fail
  go_quiet (fail)
  go_wp2_with fail
  first | rw [jump_ret] | (go_step3; refine And.intro (rfl : (0 : Nat) = 0) ?_; go_wp2_with fail; go_wp2_with fail; rw [Exit.noGoto_ret]) | (go_step3; go_wp2_with fail; rw [jump_ret])
  go_ret3
  exact ⟨_, _, rfl, below_drewN (below_drewN (Below.refl _ _) _) _⟩
set_option maxHeartbeats 1000000 in
theorem bd_zero3 (w : World) : Calls Tryd.prog 64 #[.int .i64 3, .int .i64 0] w (BdPost true w) := by
  have hF : isFineB 3 = true := rfl
  go_enter Tryd.func64, Tryd.ntmps64
  go_wp2_with fail
  refine wp_scope_once 0 rfl ?_
  go_wp2_with (go_at_call 63; refine (isFine_any _ _).mono ?_; rintro e w' ⟨rfl, rfl⟩)
  first | rw [jump_ret] | (go_step3; refine And.intro (rfl : (0 : Nat) = 0) ?_; go_wp2_with fail; go_wp2_with fail; rw [Exit.noGoto_ret]) | (go_step3; go_wp2_with fail; rw [jump_ret])
  go_ret3
  exact ⟨_, _, rfl, Below.refl _ _⟩
set_option maxHeartbeats 1000000 in
theorem bd_far3 (n : Int) (w : World) (h1 : 1 ≤ n) (h2 : n ≤ 9223372036854775807) (h3 : 64 ≤ (n - 1) / 8) : Calls Tryd.prog 64 #[.int .i64 3, .int .i64 n] w (BdPost false w) := by
  have t0 : (n == 0) = false := by rw [beq_eq_false_iff_ne]; omega
  have hF : isFineB 3 = true := rfl
  go_enter Tryd.func64, Tryd.ntmps64
  go_wp2_with fail
  refine wp_scope_once 0 rfl ?_
  go_wp2_with (go_at_call 63; refine (isFine_any _ _).mono ?_; rintro e w' ⟨rfl, rfl⟩)
  go_quiet (fail)
  go_wp2_with fail
  first | rw [jump_ret] | (go_step3; refine And.intro (rfl : (0 : Nat) = 0) ?_; go_wp2_with fail; go_wp2_with fail; rw [Exit.noGoto_ret]) | (go_step3; go_wp2_with fail; rw [jump_ret])
  go_ret3
  exact ⟨_, _, rfl, below_drewN (Below.refl _ _) _⟩
set_option maxHeartbeats 1000000 in
theorem bd_near3 (n : Int) (w : World) (h1 : 1 ≤ n) (h2 : n ≤ 9223372036854775807) (h3 : (n - 1) / 8 < 64) (h4 : 3 ≤ (n - 1) / 8) : Calls Tryd.prog 64 #[.int .i64 3, .int .i64 n] w (BdPost true w) := by
  have t0 : (n == 0) = false := by rw [beq_eq_false_iff_ne]; omega
  have hF : isFineB 3 = true := rfl
  go_enter Tryd.func64, Tryd.ntmps64
  go_wp2_with fail
  refine wp_scope_once 0 rfl ?_
  go_wp2_with (go_at_call 63; refine (isFine_any _ _).mono ?_; rintro e w' ⟨rfl, rfl⟩)
  go_quiet (fail)
  go_wp2_with fail
  go_quiet (fail)
  go_wp2_with fail
  first | rw [jump_ret] | (go_step3; refine And.intro (rfl : (0 : Nat) = 0) ?_; go_wp2_with fail; go_wp2_with fail; rw [Exit.noGoto_ret]) | (go_step3; go_wp2_with fail; rw [jump_ret])
  go_ret3
  exact ⟨_, _, rfl, below_drewN (below_drewN (Below.refl _ _) _) _⟩
set_option maxHeartbeats 1000000 in
theorem bd_low10 (n : Int) (w : World) (h1 : 1 ≤ n) (h2 : n ≤ 9223372036854775807) (h3 : (n - 1) / 2 = 0) (c : Bool) (hc : (bits .and .i64 (bits .and .i64 (n - 1) 1) 1 == 0) = c) : Calls Tryd.prog 64 #[.int .i64 1, .int .i64 n] w (BdPost c w) := by
  have t0 : (n == 0) = false := by rw [beq_eq_false_iff_ne]; omega
  have hF : isFineB 1 = true := rfl
  cases c
  · go_enter Tryd.func64, Tryd.ntmps64
    go_wp2_with fail
    refine wp_scope_once 0 rfl ?_
    go_wp2_with (go_at_call 63; refine (isFine_any _ _).mono ?_; rintro e w' ⟨rfl, rfl⟩)
    go_quiet (fail)
    go_wp2_with fail
    first | rw [jump_ret] | (go_step3; refine And.intro (rfl : (0 : Nat) = 0) ?_; go_wp2_with fail; go_wp2_with fail; rw [Exit.noGoto_ret]) | (go_step3; go_wp2_with fail; rw [jump_ret])
    go_ret3
    exact ⟨_, _, rfl, below_drewN (Below.refl _ _) _⟩
  · go_enter Tryd.func64, Tryd.ntmps64
    go_wp2_with fail
    refine wp_scope_once 0 rfl ?_
    go_wp2_with (go_at_call 63; refine (isFine_any _ _).mono ?_; rintro e w' ⟨rfl, rfl⟩)
    go_quiet (fail)
    go_wp2_with fail
    first | rw [jump_ret] | (go_step3; refine And.intro (rfl : (0 : Nat) = 0) ?_; go_wp2_with fail; go_wp2_with fail; rw [Exit.noGoto_ret]) | (go_step3; go_wp2_with fail; rw [jump_ret])
    go_ret3
    exact ⟨_, _, rfl, below_drewN (Below.refl _ _) _⟩
set_option maxHeartbeats 1000000 in
theorem bd_low20 (n : Int) (w : World) (h1 : 1 ≤ n) (h2 : n ≤ 9223372036854775807) (h3 : (n - 1) / 4 = 0) (c : Bool) (hc : (bits .and .i64 (bits .and .i64 (n - 1) 3) 3 == 0) = c) : Calls Tryd.prog 64 #[.int .i64 2, .int .i64 n] w (BdPost c w) := by
  have t0 : (n == 0) = false := by rw [beq_eq_false_iff_ne]; omega
  have hF : isFineB 2 = true := rfl
  cases c
  · go_enter Tryd.func64, Tryd.ntmps64
    go_wp2_with fail
    refine wp_scope_once 0 rfl ?_
    go_wp2_with (go_at_call 63; refine (isFine_any _ _).mono ?_; rintro e w' ⟨rfl, rfl⟩)
    go_quiet (fail)
    go_wp2_with fail
    first | rw [jump_ret] | (go_step3; refine And.intro (rfl : (0 : Nat) = 0) ?_; go_wp2_with fail; go_wp2_with fail; rw [Exit.noGoto_ret]) | (go_step3; go_wp2_with fail; rw [jump_ret])
    go_ret3
    exact ⟨_, _, rfl, below_drewN (Below.refl _ _) _⟩
  · go_enter Tryd.func64, Tryd.ntmps64
    go_wp2_with fail
    refine wp_scope_once 0 rfl ?_
    go_wp2_with (go_at_call 63; refine (isFine_any _ _).mono ?_; rintro e w' ⟨rfl, rfl⟩)
    go_quiet (fail)
    go_wp2_with fail
    first | rw [jump_ret] | (go_step3; refine And.intro (rfl : (0 : Nat) = 0) ?_; go_wp2_with fail; go_wp2_with fail; rw [Exit.noGoto_ret]) | (go_step3; go_wp2_with fail; rw [jump_ret])
    go_ret3
    exact ⟨_, _, rfl, below_drewN (Below.refl _ _) _⟩
set_option maxHeartbeats 1000000 in
theorem bd_low21 (n : Int) (w : World) (h1 : 1 ≤ n) (h2 : n ≤ 9223372036854775807) (h3 : (n - 1) / 4 = 1) (c : Bool) (hc : (bits .and .i64 (bits .and .i64 (n - 1) 3) 1 == 0) = c) : Calls Tryd.prog 64 #[.int .i64 2, .int .i64 n] w (BdPost c w) := by
  have t0 : (n == 0) = false := by rw [beq_eq_false_iff_ne]; omega
  have hF : isFineB 2 = true := rfl
  cases c
  · go_enter Tryd.func64, Tryd.ntmps64
    go_wp2_with fail
    refine wp_scope_once 0 rfl ?_
    go_wp2_with (go_at_call 63; refine (isFine_any _ _).mono ?_; rintro e w' ⟨rfl, rfl⟩)
    go_quiet (fail)
    go_wp2_with fail
    first | rw [jump_ret] | (go_step3; refine And.intro (rfl : (0 : Nat) = 0) ?_; go_wp2_with fail; go_wp2_with fail; rw [Exit.noGoto_ret]) | (go_step3; go_wp2_with fail; rw [jump_ret])
    go_ret3
    exact ⟨_, _, rfl, below_drewN (Below.refl _ _) _⟩
  · go_enter Tryd.func64, Tryd.ntmps64
    go_wp2_with fail
    refine wp_scope_once 0 rfl ?_
    go_wp2_with (go_at_call 63; refine (isFine_any _ _).mono ?_; rintro e w' ⟨rfl, rfl⟩)
    go_quiet (fail)
    go_wp2_with fail
    first | rw [jump_ret] | (go_step3; refine And.intro (rfl : (0 : Nat) = 0) ?_; go_wp2_with fail; go_wp2_with fail; rw [Exit.noGoto_ret]) | (go_step3; go_wp2_with fail; rw [jump_ret])
    go_ret3
    exact ⟨_, _, rfl, below_drewN (Below.refl _ _) _⟩
set_option maxHeartbeats 1000000 in
theorem bd_low30 (n : Int) (w : World) (h1 : 1 ≤ n) (h2 : n ≤ 9223372036854775807) (h3 : (n - 1) / 8 = 0) (c : Bool) (hc : (bits .and .i64 (bits .and .i64 (n - 1) 7) 7 == 0) = c) : Calls Tryd.prog 64 #[.int .i64 3, .int .i64 n] w (BdPost c w) := by
  have t0 : (n == 0) = false := by rw [beq_eq_false_iff_ne]; omega
  have hF : isFineB 3 = true := rfl
  cases c
  · go_enter Tryd.func64, Tryd.ntmps64
    go_wp2_with fail
    refine wp_scope_once 0 rfl ?_
    go_wp2_with (go_at_call 63; refine (isFine_any _ _).mono ?_; rintro e w' ⟨rfl, rfl⟩)
    go_quiet (fail)
    go_wp2_with fail
    first | rw [jump_ret] | (go_step3; refine And.intro (rfl : (0 : Nat) = 0) ?_; go_wp2_with fail; go_wp2_with fail; rw [Exit.noGoto_ret]) | (go_step3; go_wp2_with fail; rw [jump_ret])
    go_ret3
    exact ⟨_, _, rfl, below_drewN (Below.refl _ _) _⟩
  · go_enter Tryd.func64, Tryd.ntmps64
    go_wp2_with fail
    refine wp_scope_once 0 rfl ?_
    go_wp2_with (go_at_call 63; refine (isFine_any _ _).mono ?_; rintro e w' ⟨rfl, rfl⟩)
    go_quiet (fail)
    go_wp2_with fail
    first | rw [jump_ret] | (go_step3; refine And.intro (rfl : (0 : Nat) = 0) ?_; go_wp2_with fail; go_wp2_with fail; rw [Exit.noGoto_ret]) | (go_step3; go_wp2_with fail; rw [jump_ret])
    go_ret3
    exact ⟨_, _, rfl, below_drewN (Below.refl _ _) _⟩
set_option maxHeartbeats 1000000 in
theorem bd_low31 (n : Int) (w : World) (h1 : 1 ≤ n) (h2 : n ≤ 9223372036854775807) (h3 : (n - 1) / 8 = 1) (c : Bool) (hc : (bits .and .i64 (bits .and .i64 (n - 1) 7) 3 == 0) = c) : Calls Tryd.prog 64 #[.int .i64 3, .int .i64 n] w (BdPost c w) := by
  have t0 : (n == 0) = false := by rw [beq_eq_false_iff_ne]; omega
  have hF : isFineB 3 = true := rfl
  cases c
  · go_enter Tryd.func64, Tryd.ntmps64
    go_wp2_with fail
    refine wp_scope_once 0 rfl ?_
    go_wp2_with (go_at_call 63; refine (isFine_any _ _).mono ?_; rintro e w' ⟨rfl, rfl⟩)
    go_quiet (fail)
    go_wp2_with fail
    first | rw [jump_ret] | (go_step3; refine And.intro (rfl : (0 : Nat) = 0) ?_; go_wp2_with fail; go_wp2_with fail; rw [Exit.noGoto_ret]) | (go_step3; go_wp2_with fail; rw [jump_ret])
    go_ret3
    exact ⟨_, _, rfl, below_drewN (Below.refl _ _) _⟩
  · go_enter Tryd.func64, Tryd.ntmps64
    go_wp2_with fail
    refine wp_scope_once 0 rfl ?_
    go_wp2_with (go_at_call 63; refine (isFine_any _ _).mono ?_; rintro e w' ⟨rfl, rfl⟩)
    go_quiet (fail)
    go_wp2_with fail
    first | rw [jump_ret] | (go_step3; refine And.intro (rfl : (0 : Nat) = 0) ?_; go_wp2_with fail; go_wp2_with fail; rw [Exit.noGoto_ret]) | (go_step3; go_wp2_with fail; rw [jump_ret])
    go_ret3
    exact ⟨_, _, rfl, below_drewN (Below.refl _ _) _⟩
set_option maxHeartbeats 1000000 in
theorem bd_low32 (n : Int) (w : World) (h1 : 1 ≤ n) (h2 : n ≤ 9223372036854775807) (h3 : (n - 1) / 8 = 2) (c : Bool) (hc : (bits .and .i64 (bits .and .i64 (n - 1) 7) 1 == 0) = c) : Calls Tryd.prog 64 #[.int .i64 3, .int .i64 n] w (BdPost c w) := by
  have t0 : (n == 0) = false := by rw [beq_eq_false_iff_ne]; omega
  have hF : isFineB 3 = true := rfl
  cases c
  · go_enter Tryd.func64, Tryd.ntmps64
    go_wp2_with fail
    refine wp_scope_once 0 rfl ?_
    go_wp2_with (go_at_call 63; refine (isFine_any _ _).mono ?_; rintro e w' ⟨rfl, rfl⟩)
    go_quiet (fail)
    go_wp2_with fail
    first | rw [jump_ret] | (go_step3; refine And.intro (rfl : (0 : Nat) = 0) ?_; go_wp2_with fail; go_wp2_with fail; rw [Exit.noGoto_ret]) | (go_step3; go_wp2_with fail; rw [jump_ret])
    go_ret3
    exact ⟨_, _, rfl, below_drewN (Below.refl _ _) _⟩
  · go_enter Tryd.func64, Tryd.ntmps64
    go_wp2_with fail
    refine wp_scope_once 0 rfl ?_
    go_wp2_with (go_at_call 63; refine (isFine_any _ _).mono ?_; rintro e w' ⟨rfl, rfl⟩)
    go_quiet (fail)
    go_wp2_with fail
    first | rw [jump_ret] | (go_step3; refine And.intro (rfl : (0 : Nat) = 0) ?_; go_wp2_with fail; go_wp2_with fail; rw [Exit.noGoto_ret]) | (go_step3; go_wp2_with fail; rw [jump_ret])
    go_ret3
    exact ⟨_, _, rfl, below_drewN (Below.refl _ _) _⟩
end Go.Proofs.YtjpnbkdhmjgdgaaDoor
namespace Go.Proofs.YtjpnbkdhmjgdgaaDoor
open Go Go.RowKit

theorem boundsB_at (fine n : Int) (h0 : 1 ≤ n) (hf : isFineB fine = true) : boundsB fine n = (if 64 ≤ (n - 1) / 2 ^ fine.toNat then false else if fine ≤ (n - 1) / 2 ^ fine.toNat then true
      else bits .and .i64 (bits .and .i64 (n - 1) (2 ^ fine.toNat - 1)) (2 ^ (fine - (n - 1) / 2 ^ fine.toNat).toNat - 1) == 0) := by
  unfold boundsB
  have h1 : decide (0 ≤ n) = true := decide_eq_true (by omega)
  have h2 : (n == 0) = false := beq_eq_false_iff_ne.2 (by omega)
  rw [hf, h1, h2]
  rfl
theorem Bounds_any (fine n : Int) (hn : n ≤ 9223372036854775807) (w : World) : Calls Tryd.prog 64 #[.int .i64 fine, .int .i64 n] w (BdPost (boundsB fine n) w) := by
  cases hf : isFineB fine with
  | false => exact bd_none fine n w (by simp [boundsB, hf]) (.inl hf)
  | true =>
    by_cases h0 : n < 0
    · exact bd_none fine n w (by simp [boundsB]; intros; omega) (.inr h0)
    by_cases hz : n = 0
    · subst hz
      have hb : boundsB fine 0 = true := by simp [boundsB, hf]
      rw [hb]
      have hr : 0 ≤ fine ∧ fine ≤ 3 := by simpa [isFineB] using hf
      rcases (by omega : fine = 0 ∨ fine = 1 ∨ fine = 2 ∨ fine = 3) with rfl | rfl | rfl | rfl
      · exact bd_zero0 w
      · exact bd_zero1 w
      · exact bd_zero2 w
      · exact bd_zero3 w
    have hr : 0 ≤ fine ∧ fine ≤ 3 := by simpa [isFineB] using hf
    rw [boundsB_at fine n (by omega) hf]
    rcases (by omega : fine = 0 ∨ fine = 1 ∨ fine = 2 ∨ fine = 3) with rfl | rfl | rfl | rfl
    · rw [show (2 : Int) ^ (0 : Int).toNat = 1 from rfl, Int.ediv_one]
      by_cases h1 : 64 ≤ n - 1
      · rw [if_pos h1]; exact bd_far0 n w (by omega) hn h1
      · rw [if_neg h1, if_pos (by omega)]; exact bd_near0 n w (by omega) hn (by omega) (by omega)
    · rw [show (2 : Int) ^ (1 : Int).toNat = 2 from rfl]
      by_cases h1 : 64 ≤ (n - 1) / 2
      · rw [if_pos h1]; exact bd_far1 n w (by omega) hn h1
      rw [if_neg h1]
      by_cases h2 : 1 ≤ (n - 1) / 2
      · rw [if_pos h2]; exact bd_near1 n w (by omega) hn (by omega) h2
      rw [if_neg h2]
      have e : (n - 1) / 2 = 0 := by omega
      rw [e]
      exact bd_low10 n w (by omega) hn e _ rfl
    · rw [show (2 : Int) ^ (2 : Int).toNat = 4 from rfl]
      by_cases h1 : 64 ≤ (n - 1) / 4
      · rw [if_pos h1]; exact bd_far2 n w (by omega) hn h1
      rw [if_neg h1]
      by_cases h2 : 2 ≤ (n - 1) / 4
      · rw [if_pos h2]; exact bd_near2 n w (by omega) hn (by omega) h2
      rw [if_neg h2]
      rcases (by omega : (n - 1) / 4 = 0 ∨ (n - 1) / 4 = 1) with e | e <;> rw [e]
      · exact bd_low20 n w (by omega) hn e _ rfl
      · exact bd_low21 n w (by omega) hn e _ rfl
    · rw [show (2 : Int) ^ (3 : Int).toNat = 8 from rfl]
      by_cases h1 : 64 ≤ (n - 1) / 8
      · rw [if_pos h1]; exact bd_far3 n w (by omega) hn h1
      rw [if_neg h1]
      by_cases h2 : 3 ≤ (n - 1) / 8
      · rw [if_pos h2]; exact bd_near3 n w (by omega) hn (by omega) h2
      rw [if_neg h2]
      rcases (by omega : (n - 1) / 8 = 0 ∨ (n - 1) / 8 = 1 ∨ (n - 1) / 8 = 2) with e | e | e <;> rw [e]
      · exact bd_low30 n w (by omega) hn e _ rfl
      · exact bd_low31 n w (by omega) hn e _ rfl
      · exact bd_low32 n w (by omega) hn e _ rfl

theorem cms_Right_any (r c : Int) (l : List Int) (a : Option Addr) (len cap : Nat) (w : World) (hL : len = l.length) :
    Calls Tryd.prog 56 #[.agg #[.int .i64 r, .int .i64 c, .slice a len cap]] w fun e w' => e = .returned (.bool (cmRight r c l)) ∧ Below w.heap.size w w' := by
  have hB0 : Below w.heap.size w (w.alloc (.cells #[.int .i64 r, .int .i64 c, .slice a len cap] 28)) := (Below.refl _ w).alloc (Nat.le_refl _) _
  have HL := Lib.hid hL
  clear hL
  have hs := fun w => isShape_any r c w
  cases h1 : isShapeB r c with
  | false =>
    rw [h1] at hs
    have H1 := Lib.hid h1
    clear h1
    go_enter Tryd.func56, Tryd.ntmps56
    go_wp2_with (go_at_call 62; refine (hs _).mono ?_; rintro e w' ⟨rfl, rfl⟩)
    go_ret
    exact ⟨by simp [cmRight, H1.out], hB0⟩
  | true =>
    rw [h1] at hs
    have hr : (1 ≤ r ∧ r ≤ 4) ∧ 4 ≤ c ∧ c ≤ 32 := by simp [isShapeB] at h1; omega
    obtain ⟨⟨r1, r2⟩, r3, r4⟩ := hr
    have hm1 : r * c ≤ 4 * 32 := Int.mul_le_mul r2 r4 (by omega) (by omega)
    have hm0 : 0 ≤ r * c := Int.mul_nonneg (by omega) (by omega)
    have hw : IntKind.i64.wrap (r * c) = r * c := IntWalk.i64_in _ (by omega)
    have H1 := Lib.hid h1
    clear h1
    go_enter Tryd.func56, Tryd.ntmps56
    go_wp2_with (go_at_call 62; refine (hs _).mono ?_; rintro e w' ⟨rfl, rfl⟩)
    go_ret
    exact ⟨by simp [cmRight, H1.out, ← HL.out], hB0⟩

set_option maxRecDepth 100000 in
set_option maxHeartbeats 2000000 in
theorem hist_Right_any (fine : Int) (l : List (Int × Int)) (a : Option Addr) (len cap : Nat) (w : World) (hL : SlE encB 2 w.heap.size w a len l) (hm : len ≤ maxLen) (hb : ∀ b ∈ l, b.1 ≤ 9223372036854775807) :
    Calls Tryd.prog 57 #[.agg #[.int .i64 fine, .slice a len cap]] w fun e w' => e = .returned (.bool (hiRight fine l)) ∧ Below w.heap.size w w' := by
  unfold maxLen at hm
  obtain ⟨W0, hW0, hX0, hB0, hs0⟩ := boxes1 w #[.int .i64 fine, .slice a len cap] 31
  have c0 : W0.cell? ⟨w.heap.size, 0, none⟩ = some (.int .i64 fine) := cell_of_cells hX0 0
  have c1 : W0.cell? ⟨w.heap.size, 1, none⟩ = some (.slice a len cap) := cell_of_cells hX0 1
  have hz0 : w.heap.size < W0.heap.size := by omega
  have HL := Lib.hid hL.1
  have hg := hL.below hB0
  have hs := fun w => isFine_any fine w
  have HBD := Lib.hid hb
  clear hL hX0 hs0 hb
  cases hf : isFineB fine with
  | false =>
    rw [hf] at hs
    have HF := Lib.hid hf
    clear hf hg
    go_enter Tryd.func57, Tryd.ntmps57
    go_wp2_with (go_at_call 63; refine (hs _).mono ?_; rintro e w' ⟨rfl, rfl⟩)
    go_ret
    exact ⟨by simp [hiRight, HF.out], hB0⟩
  | true =>
    rw [hf] at hs
    have HR : Hid (hiRight fine l = (foldO (histStep fine) (-1) l).isSome) := by simp [Hid, hiRight, hf]
    clear hf
    go_enter Tryd.func57, Tryd.ntmps57
    go_wp2_with (go_at_call 63; refine (hs _).mono ?_; rintro e w' ⟨rfl, rfl⟩)
    clear hW0 hs
    go_loopw [3, 16] (fun la i wr => ∃ (k : Nat) (last : Int), i = .int .i64 k ∧ la = .int .i64 last ∧ k ≤ len ∧ Below W0.heap.size W0 wr ∧ Hid (foldO (histStep fine) (-1) (l.take k) = some last)) (fun _ i _ => len - (intOf i).toNat)
    case atStart => exact ⟨0, -1, rfl, rfl, Nat.zero_le _, Below.refl _ _, rfl⟩
    case round =>
      obtain ⟨k, last, rfl, rfl, hk, hB, HF⟩ := hrel
      have hzB := hB.size
      by_cases hlt : k < len
      · obtain ⟨x, b1, o1, hx, ea, hb1, p0, p1⟩ := bin_cells (hg.below (hB.mono hB0.size)) hlt
        subst ea
        have hxm : x.1 ≤ 9223372036854775807 := HBD.out x (List.mem_of_getElem? hx)
        have HS := Lib.hid (foldO_step hx HF.out)
        obtain ⟨x1, x2⟩ := x
        dsimp only at p0 p1 hxm
        have e0 : wr.cell? ⟨w.heap.size, 0, none⟩ = some (.int .i64 fine) := (hB.cell (p := ⟨w.heap.size, 0, none⟩) hz0).trans c0
        obtain ⟨W2, hW2, hX2, hB2, hs2⟩ := boxes1 wr #[.int .i64 x1, .int .u64 x2] 85
        have r0 : W2.cell? ⟨wr.heap.size, 0, none⟩ = some (.int .i64 x1) := cell_of_cells hX2 0
        have f0 : W2.cell? ⟨w.heap.size, 0, none⟩ = some (.int .i64 fine) := (hB2.cell (p := ⟨w.heap.size, 0, none⟩) (by show w.heap.size < _; omega)).trans e0
        have hbd := Bounds_any fine x1 hxm W2
        clear hx hg c0 c1 e0
        go_wp2_with fail
        refine hbd.mono ?_
        rintro e w3 ⟨lo, hi, rfl, hb3⟩
        have hX3 := known hb3 (Nat.le_refl _) hX2
        have s0 : w3.cell? ⟨wr.heap.size, 0, none⟩ = some (.int .i64 x1) := cell_of_cells hX3 0
        have s1 : w3.cell? ⟨wr.heap.size, 1, none⟩ = some (.int .u64 x2) := cell_of_cells hX3 1
        have hBB : Below W0.heap.size W0 w3 := hB.trans ((hB2.mono hzB).trans (hb3.mono (by omega)))
        have HS' : Hid (∀ bb, ((x2 == 0) || !boundsB fine x1 || decide (x1 ≤ last)) = bb → foldO (histStep fine) (-1) (l.take (k + 1)) = if bb then none else some x1) := fun bb h => by rw [HS.out, ← h]; rfl
        clear hW2 hX2 hX3 r0 f0 hbd hs2 HS
        have hret : Hid (∀ bb, ((x2 == 0) || !boundsB fine x1 || decide (x1 ≤ last)) = bb → bb = true → hiRight fine l = false) := fun bb h1 h2 => by
          rw [HR.out, foldO_none (k := k + 1) (by rw [HS'.out bb h1, h2]; rfl)]; rfl
        cases h1 : (x2 == 0) with
        | true =>
          have h9 := hret.out true (by rw [h1]; rfl) rfl
          have H9 := Lib.hid h9
          clear h9
          go_wp2_with fail
          go_ret
          exact ⟨by rw [H9.out]; rfl, hB0.trans (hBB.mono hB0.size)⟩
        | false =>
          cases h2 : boundsB fine x1 with
          | false =>
            have h9 := hret.out true (by rw [h1, h2]; rfl) rfl
            have H9 := Lib.hid h9
            clear h9
            go_wp2_with fail
            go_ret
            exact ⟨by rw [H9.out]; rfl, hB0.trans (hBB.mono hB0.size)⟩
          | true =>
            by_cases h3 : x1 ≤ last
            · have h9 := hret.out true (by rw [h1, h2, decide_eq_true h3]; rfl) rfl
              have H9 := Lib.hid h9
              clear h9
              go_wp2_with fail
              go_ret
              exact ⟨by rw [H9.out]; rfl, hB0.trans (hBB.mono hB0.size)⟩
            · have H8 := Lib.hid (HS'.out false (by rw [h1, h2, decide_eq_false h3]; rfl))
              go_wp2_with fail
              go_roundw
              case rel => exact ⟨k + 1, x1, by go_num, rfl, by omega, hBB, H8.out⟩
              case measure => simp [intOf]; omega
      · obtain rfl : k = len := by omega
        clear hg
        go_wp2_with fail
        go_ret
        have h9 := HF.out
        rw [List.take_of_length_le (by rw [← HL.out]; omega)] at h9
        exact ⟨by rw [HR.out, h9]; rfl, hB0.trans (hB.mono hB0.size)⟩
end Go.Proofs.YtjpnbkdhmjgdgaaDoor
