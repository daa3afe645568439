/- Package cms: together, col, blank, the iterators. Package hist: together, Bucket. Package hist: Bounds, with the least value. Regions that draw their order inside a round: by the walk outside of one. Of no program. Package cms: change, by told and Add's function. Package label: Text. Package label over slices by their elements: Right, Text. aviarylaw04.Few over slices by their elements. -/
import Derived.Test.YthbhmnakmhambaaGreatDoorZJ1S1
namespace Go.Proofs.YthbhmnakmhambaaGreatDoor
open Go Go.RowKit Go.Shelf
attribute [local go_sem] Oper.semAt_some
set_option maxRecDepth 100000 in
set_option maxHeartbeats 1000000 in
theorem ctogether_any (b : Nat) (x y : Int) (w : World) (h0 : w.cell? ⟨b, 0, none⟩ = some (.int .u64 x)) (h1 : w.cell? ⟨b, 1, none⟩ = some (.int .u64 y)) (hx : U64 x) (hy : U64 y) :
  Calls Tryz.prog 234 #[.slice (some ⟨b, 0, none⟩) 2 2] w fun e w' => e = .returned (.int .u64 (satI x y)) ∧ w' = w := by
 obtain ⟨x0, x1⟩ := hx
 obtain ⟨y0, y1⟩ := hy
 have t0 : decide (18446744073709551615 < x) = false := by simp; omega
 by_cases hc : 18446744073709551615 - x < y
 ·have hs : satI x y = 18446744073709551615 := by unfold satI; rw [if_pos hc]
  rw [hs]
  have t1 : decide (18446744073709551615 - x < y) = true := by simpa using hc
  go_enter Tryz.func234, Tryz.ntmps234
  go_wp2_with fail
  refine wp_loop_rounds 3 ?_
  rw [rounds_succ]
  go_wp2_with fail
  rw [rounds_succ]
  go_wp2_with fail
  go_ret
  exact ⟨rfl, rfl⟩
 ·have hs : satI x y = x + y := by unfold satI; rw [if_neg hc]
  rw [hs]
  have t1 : decide (18446744073709551615 - x < y) = false := by simpa using hc
  go_enter Tryz.func234, Tryz.ntmps234
  go_wp2_with fail
  refine wp_loop_rounds 3 ?_
  rw [rounds_succ]
  go_wp2_with fail
  rw [rounds_succ]
  go_wp2_with fail
  rw [rounds_succ]
  go_wp2_with fail
  go_ret
  exact ⟨rfl, rfl⟩
theorem all_any (r c : Int) (v : Value) (w : World) :
  Calls Tryz.prog 232 #[.agg #[.int .i64 r, .int .i64 c, v]] w fun e w' => e = .returned (.func (.func 237) #[] #[.pointer (some ⟨w.heap.size, 0, none⟩)]) ∧ w' = w.alloc (.cells #[.int .i64 r, .int .i64 c, v] 173) := by
 go_enter Tryz.func232, Tryz.ntmps232
 go_wp2
 go_ret
 exact ⟨rfl, rfl⟩
set_option maxRecDepth 100000 in
set_option maxHeartbeats 1000000 in
theorem all1 (l wb : Nat) (r c : Int) (sa : Option Addr) (N cap : Nat) (hN : N ≤ 1000) (J Jx : List (Fin N) → World → Prop)
  (hY : ∀ pre x W, J pre W → pre.length < N → YieldAt Fence.wide 7 Tryz.prog l #[.int .i64 (x.1 : Nat)] W fun e W' =>
   (e = .returned (.bool true) ∧ J (pre ++ [x]) W' ∧ KL [wb] W W') ∨ (e = .returned (.bool false) ∧ Jx (pre ++ [x]) W'))
  (W : World) (hb : W.heap[wb]? = some (.cells #[.int .i64 r, .int .i64 c, .slice sa N cap] 173 (0, 0))) (h0 : J [] W) :
  CallsIn Fence.wide 8 Tryz.prog 237 #[.func (.yield l) #[] #[], .pointer (some ⟨wb, 0, none⟩)] W fun e W' => (∃ v, e = .returned v) ∧
   ((∃ ys, ys = List.finRange N ∧ J ys W') ∨ (∃ pre, pre <+: List.finRange N ∧ Jx pre W')) := by
 refine callsIn_of_wp Tryz.func237 rfl trivial ?_ rfl
 simp only [Tryz.ntmps237, List.size_toArray, List.length_cons, List.length_nil, Nat.reduceAdd, Nat.reduceSub, Array.replicate_succ, Array.replicate_zero, List.push_toArray, List.append_toArray, List.nil_append, List.cons_append]
 have c2 : W.cell? ⟨wb, 2, none⟩ = some (.slice sa N cap) := cCc hb 2
 gi_wp2
 gi_loopw [3, 8] (fun _ i wr => ∃ k : Nat, k ≤ N ∧ i = .int .i64 k ∧ J ((List.finRange N).take k) wr ∧ KL [wb] W wr) (fun _ i _ => N - (intOf i).toNat)
 case atStart => exact ⟨0, Nat.zero_le _, rfl, h0, KL.refl _ _⟩
 case round =>
  obtain ⟨k, hk, rfl, hJs, hnx⟩ := hrel
  by_cases hlt : k < N
  ·have hx : (List.finRange N)[k]? = some ⟨k, hlt⟩ := by rw [List.getElem?_eq_getElem (by simpa using hlt)]; simp
   obtain ⟨fn, tmps, assign, body, hy, hR⟩ := hY _ ⟨k, hlt⟩ _ hJs (by rw [List.length_take, List.length_finRange]; omega)
   have HX := Lib.hid hx
   clear hx
   gi_wp2
   refine hR.mono ?_
   rintro e W3 (⟨rfl, hJ3, hk3⟩ | ⟨rfl, hJx3⟩)
   ·gi_wp2
    go_roundw
    case rel => exact ⟨k + 1, by omega, by simp, by rw [take_snoc' HX.out]; exact hJ3, hnx.trans hk3⟩
    case measure => simp [intOf]; omega
   ·gi_wp2
    refine bodyPost_ret (results_none rfl _ _ _) rfl ?_
    exact ⟨⟨_, rfl⟩, .inr ⟨_, by have h := List.take_prefix (k + 1) (List.finRange N); rwa [take_snoc' HX.out] at h, hJx3⟩⟩
  ·obtain rfl : k = N := by omega
   gi_wp2
   go_end0
   exact ⟨⟨_, rfl⟩, .inl ⟨_, List.take_of_length_le (by simp), hJs⟩⟩
theorem all_seq (wb : Nat) (r c : Int) (sa : Option Addr) (N cap : Nat) (hN : N ≤ 1000) (w : World) (hb : w.heap[wb]? = some (.cells #[.int .i64 r, .int .i64 c, .slice sa N cap] 173 (0, 0))) :
  SeqStopsK Fence.wide 8 Tryz.prog 237 #[.pointer (some ⟨wb, 0, none⟩)] (fun x : Fin N => #[.int .i64 (x.1 : Nat)]) (KL [wb]) (fun ys => ys = List.finRange N) (fun pre => pre <+: List.finRange N) N w := fun l J Jx W hW _ _ hY h0 =>
 all1 l wb r c sa N cap hN J Jx hY W (known hW (Nat.le_refl _) hb) h0
end Go.Proofs.YthbhmnakmhambaaGreatDoor
namespace Go.Proofs.YthbhmnakmhambaaGreatDoor
open Go Go.RowKit Go.Shelf
set_option maxRecDepth 100000 in
set_option maxHeartbeats 1000000 in
theorem htogether_any (b : Nat) (x y : Int) (w : World) (h0 : w.cell? ⟨b, 0, none⟩ = some (.int .u64 x)) (h1 : w.cell? ⟨b, 1, none⟩ = some (.int .u64 y)) (hx : U64 x) (hy : U64 y) :
  Calls Tryz.prog 251 #[.slice (some ⟨b, 0, none⟩) 2 2] w fun e w' => e = .returned (.int .u64 (satI x y)) ∧ w' = w := by
 obtain ⟨x0, x1⟩ := hx
 obtain ⟨y0, y1⟩ := hy
 have t0 : decide (18446744073709551615 < x) = false := by simp; omega
 by_cases hc : 18446744073709551615 - x < y
 ·have hs : satI x y = 18446744073709551615 := by unfold satI; rw [if_pos hc]
  rw [hs]
  have t1 : decide (18446744073709551615 - x < y) = true := by simpa using hc
  go_enter Tryz.func251, Tryz.ntmps251
  go_wp2_with fail
  refine wp_loop_rounds 3 ?_
  rw [rounds_succ]
  go_wp2_with fail
  rw [rounds_succ]
  go_wp2_with fail
  go_ret
  exact ⟨rfl, rfl⟩
 ·have hs : satI x y = x + y := by unfold satI; rw [if_neg hc]
  rw [hs]
  have t1 : decide (18446744073709551615 - x < y) = false := by simpa using hc
  go_enter Tryz.func251, Tryz.ntmps251
  go_wp2_with fail
  refine wp_loop_rounds 3 ?_
  rw [rounds_succ]
  go_wp2_with fail
  rw [rounds_succ]
  go_wp2_with fail
  rw [rounds_succ]
  go_wp2_with fail
  go_ret
  exact ⟨rfl, rfl⟩
theorem mul_mod_mod (A M : Nat) : A % M * 2 % M = A * 2 % M := by rw [Nat.mul_mod (A % M) 2 M, Nat.mod_mod, ← Nat.mul_mod]
theorem bk_eq (b f v : Nat) (hb : b ≤ 63) (hf : f ≤ 3) : wrap64 (wrap64 (1 + wrap64 ((b : Int) * 2 ^ f)) + wrap64 (IntKind.u64.wrap (IntKind.u64.wrap ((v : Int) * 2 ^ (63 - b)) * 2) / 2 ^ (64 - f))) = 1 + ((b * 2 ^ f + v * 2 ^ (64 - b) % 2 ^ 64 / 2 ^ (64 - f) : Nat) : Int) := by
 have e1 : ((v : Int) * 2 ^ (63 - b)) = ((v * 2 ^ (63 - b) : Nat) : Int) := by simp
 have e2 : v * 2 ^ (64 - b) = v * 2 ^ (63 - b) * 2 := by rw [Nat.mul_assoc, ← Nat.pow_succ, show (63 - b).succ = 64 - b by omega]
 rw [e1, e2, wrap_u64_mod]
 generalize v * 2 ^ (63 - b) = A
 have e3 : ((A % 2 ^ 64 : Nat) : Int) * 2 = ((A % 2 ^ 64 * 2 : Nat) : Int) := (Int.natCast_mul _ 2).symm
 rw [e3, wrap_u64_mod, mul_mod_mod]
 have hO : A * 2 % 2 ^ 64 < 2 ^ 64 := Nat.mod_lt _ (Nat.two_pow_pos 64)
 generalize A * 2 % 2 ^ 64 = O at hO ⊢
 have hq : O / 2 ^ (64 - f) < 2 ^ f := by
  rw [Nat.div_lt_iff_lt_mul (Nat.two_pow_pos _), ← Nat.pow_add, show f + (64 - f) = 64 by omega]
  exact hO
 have e4 : (O : Int) / 2 ^ (64 - f) = ((O / 2 ^ (64 - f) : Nat) : Int) := by rw [Int.natCast_ediv, Int.natCast_pow]; rfl
 have e5 : (b : Int) * 2 ^ f = ((b * 2 ^ f : Nat) : Int) := by rw [Int.natCast_mul, Int.natCast_pow]; rfl
 rw [e4, e5]
 have h8 : 2 ^ f ≤ 2 ^ 3 := Nat.pow_le_pow_right (by omega) hf
 have h9 : b * 2 ^ f ≤ 63 * 2 ^ 3 := Nat.mul_le_mul hb h8
 generalize O / 2 ^ (64 - f) = q at hq ⊢
 generalize b * 2 ^ f = m at h9 ⊢
 generalize 2 ^ f = z at hq h8
 rw [wrap64_nat m (by omega), wrap64_nat q (by omega), show (1 + (m : Int)) = ((1 + m : Nat) : Int) by omega, wrap64_nat (1 + m) (by omega), show (((1 + m : Nat) : Int) + (q : Int)) = ((1 + m + q : Nat) : Int) by omega, wrap64_nat (1 + m + q) (by omega)]
 omega
theorem isFine_ok (f : Nat) (hf : f ≤ 3) (w : World) : Calls Tryz.prog 155 #[.int .i64 f] w fun e w' => e = .returned (.bool true) ∧ w' = w := (isFine_any f w).mono fun e w' ⟨h1, h2⟩ => ⟨by rw [h1, isFine_nat f hf], h2.symm⟩
set_option maxRecDepth 100000 in
set_option maxHeartbeats 1000000 in
theorem Bucket_any (f : Nat) (v : Nat) (w : World) (hf : f ≤ 3) (hv : v < 2 ^ 64) : Calls Tryz.prog 248 #[.int .i64 f, .int .u64 v] w fun e w' => e = .returned (.int .i64 (hiBk f v)) ∧ Below w.heap.size w w' := by
 have hib := isFine_ok f hf
 by_cases h0 : v = 0
 ·subst h0
  go_enter Tryz.func248, Tryz.ntmps248
  go_wp2_with (first | (go_at_call 155; refine (hib _).mono ?_; rintro e w' ⟨rfl, rfl⟩) | fail)
  go_ret
  exact ⟨rfl, Below.refl _ _⟩
 ·have hL := Tryz.bits_Len64 (v : Int) w (by omega) (by omega)
  rw [Int.toNat_natCast] at hL
  have hlen := bitLen_64 v hv h0
  have hlen1 := (bitLen_bd v hv h0).1
  have t0 : ((v : Int) == 0) = false := by rw [beq_eq_false_iff_ne]; omega
  have hB : hiBk f v = 1 + ((Lib.bitLen v - 1) * 2 ^ f + v * 2 ^ (64 - (Lib.bitLen v - 1)) % 2 ^ 64 / 2 ^ (64 - f) : Nat) := by
   unfold hiBk
   rw [if_neg h0, Int.toNat_natCast]
  obtain ⟨b, hb⟩ : ∃ b, Lib.bitLen v = b + 1 := ⟨Lib.bitLen v - 1, by omega⟩
  rw [hb] at hL hlen hB
  have HB := Lib.hid hB
  have HQ := Lib.hid (bk_eq b f v (by omega) hf)
  clear hB hb hlen1 h0
  go_enter Tryz.func248, Tryz.ntmps248
  go_wp2_with (first | (go_at_call 155; refine (hib _).mono ?_; rintro e w' ⟨rfl, rfl⟩) | (go_at_call 215; refine hL.mono ?_; rintro e w' ⟨rfl, rfl⟩) | fail)
  go_quiet (fail)
  go_wp2_with fail
  go_ret
  exact ⟨by rw [HB.out, Nat.add_sub_cancel, ← HQ.out]; rfl, bDr (Below.refl _ _) _⟩
end Go.Proofs.YthbhmnakmhambaaGreatDoor
namespace Go.Proofs.YthbhmnakmhambaaGreatDoor
open Go Go.RowKit Go.Shelf
def hiLeast (f : Nat) (n : Int) : Int := if n = 0 then 0 else if (f : Int) ≤ (n - 1) / 2 ^ f then bits .or .u64 (IntKind.u64.wrap (2 ^ ((n - 1) / 2 ^ f).toNat)) (IntKind.u64.wrap (IntKind.u64.wrap (bits .and .i64 (n - 1) (2 ^ f - 1)) * 2 ^ ((n - 1) / 2 ^ f - (f : Int)).toNat))
 else bits .or .u64 (2 ^ ((n - 1) / 2 ^ f).toNat) (IntKind.u64.wrap (bits .and .i64 (n - 1) (2 ^ f - 1)) / 2 ^ (f - ((n - 1) / 2 ^ f).toNat))
def BdL (lo : Int) (w : World) (e : Ending) (w' : World) : Prop := ∃ hi : Int, e = .returned (.tuple #[.int .u64 lo, .int .u64 hi, .bool true]) ∧ Below w.heap.size w w'
theorem least_fin : ∀ f ∈ [1, 2, 3], ∀ n ∈ List.range 513, boundsB ((f : Nat) : Int) ((n : Nat) : Int) = true → hiBk ((f : Nat) - 1 : Int) (hiLeast f ((n : Nat) : Int)).toNat = hiHalf ((n : Nat) : Int) ∧ (0 ≤ hiLeast f ((n : Nat) : Int) ∧ hiLeast f ((n : Nat) : Int) ≤ 18446744073709551615) := by decide +kernel
theorem bounds_le (f : Nat) (hf : f ≤ 3) (n : Int) (h : boundsB f n = true) : 0 ≤ n ∧ n ≤ 512 := by
 have hn0 : 0 ≤ n := by
  unfold boundsB at h
  split at h
  ·rename_i hc
   simp only [Bool.and_eq_true, decide_eq_true_eq] at hc
   exact hc.2
  ·cases h
 refine ⟨hn0, ?_⟩
 by_cases h0 : n = 0
 ·omega
 rw [boundsB_at _ _ (by omega) (isFine_nat f hf)] at h
 rcases (by omega : f = 0 ∨ f = 1 ∨ f = 2 ∨ f = 3) with rfl | rfl | rfl | rfl
 ·simp only [show (((0 : Nat) : Int)).toNat = 0 from rfl] at h
  by_cases hc : 64 ≤ (n - 1) / 2 ^ 0
  ·rw [if_pos hc] at h; cases h
  ·omega
 ·simp only [show (((1 : Nat) : Int)).toNat = 1 from rfl] at h
  by_cases hc : 64 ≤ (n - 1) / 2 ^ 1
  ·rw [if_pos hc] at h; cases h
  ·omega
 ·simp only [show (((2 : Nat) : Int)).toNat = 2 from rfl] at h
  by_cases hc : 64 ≤ (n - 1) / 2 ^ 2
  ·rw [if_pos hc] at h; cases h
  ·omega
 ·simp only [show (((3 : Nat) : Int)).toNat = 3 from rfl] at h
  by_cases hc : 64 ≤ (n - 1) / 2 ^ 3
  ·rw [if_pos hc] at h; cases h
  ·omega
theorem least_half (f : Nat) (h1 : 1 ≤ f) (h3 : f ≤ 3) (n : Int) (h : boundsB f n = true) : hiBk ((f : Int) - 1) (hiLeast f n).toNat = hiHalf n ∧ U64 (hiLeast f n) := by
 obtain ⟨n0, n1⟩ := bounds_le f h3 n h
 have := least_fin f (by simp; omega) n.toNat (by simp; omega)
 rw [Int.toNat_of_nonneg n0] at this
 exact this h
set_option maxHeartbeats 1000000 in
theorem bl_zero1 (w : World) : Calls Tryz.prog 156 #[.int .i64 1, .int .i64 0] w (BdL 0 w) := by
 have hF : isFineB 1 = true := rfl
 go_enter Tryz.func156, Tryz.ntmps156
 go_wp2_with fail
 refine wp_scope_once 0 rfl ?_
 go_wp2_with (go_at_call 155; refine (isFine_any _ _).mono ?_; rintro e w' ⟨rfl, rfl⟩)
 first | rw [jump_ret] | (go_step3; refine And.intro (rfl : (0 : Nat) = 0) ?_; go_wp2_with fail; go_wp2_with fail; rw [Exit.noGoto_ret]) | (go_step3; go_wp2_with fail; rw [jump_ret])
 go_ret3
 exact ⟨_, rfl, Below.refl _ _⟩
set_option maxHeartbeats 1000000 in
theorem bl_near1 (n : Int) (w : World) (h1 : 1 ≤ n) (h2 : n ≤ 9223372036854775807) (h3 : (n - 1) / 2 < 64) (h4 : 1 ≤ (n - 1) / 2) : Calls Tryz.prog 156 #[.int .i64 1, .int .i64 n] w (BdL (bits .or .u64 (IntKind.u64.wrap (2 ^ ((n - 1) / 2).toNat)) (IntKind.u64.wrap (IntKind.u64.wrap (bits .and .i64 (n - 1) 1) * 2 ^ (((n - 1) / 2).toNat - 1)))) w) := by
 have t0 : (n == 0) = false := by rw [beq_eq_false_iff_ne]; omega
 have hF : isFineB 1 = true := rfl
 go_enter Tryz.func156, Tryz.ntmps156
 go_wp2_with fail
 refine wp_scope_once 0 rfl ?_
 go_wp2_with (go_at_call 155; refine (isFine_any _ _).mono ?_; rintro e w' ⟨rfl, rfl⟩)
 go_quiet (fail)
 go_wp2_with fail
 go_quiet (fail)
 go_wp2_with fail
 first | rw [jump_ret] | (go_step3; refine And.intro (rfl : (0 : Nat) = 0) ?_; go_wp2_with fail; go_wp2_with fail; rw [Exit.noGoto_ret]) | (go_step3; go_wp2_with fail; rw [jump_ret])
 go_ret3
 exact ⟨_, rfl, bDr (bDr (Below.refl _ _) _) _⟩
set_option maxHeartbeats 1000000 in
theorem bl_low10 (n : Int) (w : World) (h1 : 1 ≤ n) (h2 : n ≤ 9223372036854775807) (h3 : (n - 1) / 2 = 0) (hc : (bits .and .i64 (bits .and .i64 (n - 1) 1) 1 == 0) = true) : Calls Tryz.prog 156 #[.int .i64 1, .int .i64 n] w (BdL (bits .or .u64 1 (IntKind.u64.wrap (bits .and .i64 (n - 1) 1) / 2)) w) := by
 have t0 : (n == 0) = false := by rw [beq_eq_false_iff_ne]; omega
 have hF : isFineB 1 = true := rfl
 go_enter Tryz.func156, Tryz.ntmps156
 go_wp2_with fail
 refine wp_scope_once 0 rfl ?_
 go_wp2_with (go_at_call 155; refine (isFine_any _ _).mono ?_; rintro e w' ⟨rfl, rfl⟩)
 go_quiet (fail)
 go_wp2_with fail
 first | rw [jump_ret] | (go_step3; refine And.intro (rfl : (0 : Nat) = 0) ?_; go_wp2_with fail; go_wp2_with fail; rw [Exit.noGoto_ret]) | (go_step3; go_wp2_with fail; rw [jump_ret])
 go_ret3
 exact ⟨_, rfl, bDr (Below.refl _ _) _⟩
set_option maxHeartbeats 1000000 in
theorem bl_zero2 (w : World) : Calls Tryz.prog 156 #[.int .i64 2, .int .i64 0] w (BdL 0 w) := by
 have hF : isFineB 2 = true := rfl
 go_enter Tryz.func156, Tryz.ntmps156
 go_wp2_with fail
 refine wp_scope_once 0 rfl ?_
 go_wp2_with (go_at_call 155; refine (isFine_any _ _).mono ?_; rintro e w' ⟨rfl, rfl⟩)
 first | rw [jump_ret] | (go_step3; refine And.intro (rfl : (0 : Nat) = 0) ?_; go_wp2_with fail; go_wp2_with fail; rw [Exit.noGoto_ret]) | (go_step3; go_wp2_with fail; rw [jump_ret])
 go_ret3
 exact ⟨_, rfl, Below.refl _ _⟩
set_option maxHeartbeats 1000000 in
theorem bl_near2 (n : Int) (w : World) (h1 : 1 ≤ n) (h2 : n ≤ 9223372036854775807) (h3 : (n - 1) / 4 < 64) (h4 : 2 ≤ (n - 1) / 4) : Calls Tryz.prog 156 #[.int .i64 2, .int .i64 n] w (BdL (bits .or .u64 (IntKind.u64.wrap (2 ^ ((n - 1) / 4).toNat)) (IntKind.u64.wrap (IntKind.u64.wrap (bits .and .i64 (n - 1) 3) * 2 ^ ((n - 1) / 4 - 2).toNat))) w) := by
 have t0 : (n == 0) = false := by rw [beq_eq_false_iff_ne]; omega
 have hF : isFineB 2 = true := rfl
 go_enter Tryz.func156, Tryz.ntmps156
 go_wp2_with fail
 refine wp_scope_once 0 rfl ?_
 go_wp2_with (go_at_call 155; refine (isFine_any _ _).mono ?_; rintro e w' ⟨rfl, rfl⟩)
 go_quiet (fail)
 go_wp2_with fail
 go_quiet (fail)
 go_wp2_with fail
 first | rw [jump_ret] | (go_step3; refine And.intro (rfl : (0 : Nat) = 0) ?_; go_wp2_with fail; go_wp2_with fail; rw [Exit.noGoto_ret]) | (go_step3; go_wp2_with fail; rw [jump_ret])
 go_ret3
 exact ⟨_, rfl, bDr (bDr (Below.refl _ _) _) _⟩
set_option maxHeartbeats 1000000 in
theorem bl_low20 (n : Int) (w : World) (h1 : 1 ≤ n) (h2 : n ≤ 9223372036854775807) (h3 : (n - 1) / 4 = 0) (hc : (bits .and .i64 (bits .and .i64 (n - 1) 3) 3 == 0) = true) : Calls Tryz.prog 156 #[.int .i64 2, .int .i64 n] w (BdL (bits .or .u64 1 (IntKind.u64.wrap (bits .and .i64 (n - 1) 3) / 4)) w) := by
 have t0 : (n == 0) = false := by rw [beq_eq_false_iff_ne]; omega
 have hF : isFineB 2 = true := rfl
 go_enter Tryz.func156, Tryz.ntmps156
 go_wp2_with fail
 refine wp_scope_once 0 rfl ?_
 go_wp2_with (go_at_call 155; refine (isFine_any _ _).mono ?_; rintro e w' ⟨rfl, rfl⟩)
 go_quiet (fail)
 go_wp2_with fail
 first | rw [jump_ret] | (go_step3; refine And.intro (rfl : (0 : Nat) = 0) ?_; go_wp2_with fail; go_wp2_with fail; rw [Exit.noGoto_ret]) | (go_step3; go_wp2_with fail; rw [jump_ret])
 go_ret3
 exact ⟨_, rfl, bDr (Below.refl _ _) _⟩
set_option maxHeartbeats 1000000 in
theorem bl_low21 (n : Int) (w : World) (h1 : 1 ≤ n) (h2 : n ≤ 9223372036854775807) (h3 : (n - 1) / 4 = 1) (hc : (bits .and .i64 (bits .and .i64 (n - 1) 3) 1 == 0) = true) : Calls Tryz.prog 156 #[.int .i64 2, .int .i64 n] w (BdL (bits .or .u64 2 (IntKind.u64.wrap (bits .and .i64 (n - 1) 3) / 2)) w) := by
 have t0 : (n == 0) = false := by rw [beq_eq_false_iff_ne]; omega
 have hF : isFineB 2 = true := rfl
 go_enter Tryz.func156, Tryz.ntmps156
 go_wp2_with fail
 refine wp_scope_once 0 rfl ?_
 go_wp2_with (go_at_call 155; refine (isFine_any _ _).mono ?_; rintro e w' ⟨rfl, rfl⟩)
 go_quiet (fail)
 go_wp2_with fail
 first | rw [jump_ret] | (go_step3; refine And.intro (rfl : (0 : Nat) = 0) ?_; go_wp2_with fail; go_wp2_with fail; rw [Exit.noGoto_ret]) | (go_step3; go_wp2_with fail; rw [jump_ret])
 go_ret3
 exact ⟨_, rfl, bDr (Below.refl _ _) _⟩
set_option maxHeartbeats 1000000 in
theorem bl_zero3 (w : World) : Calls Tryz.prog 156 #[.int .i64 3, .int .i64 0] w (BdL 0 w) := by
 have hF : isFineB 3 = true := rfl
 go_enter Tryz.func156, Tryz.ntmps156
 go_wp2_with fail
 refine wp_scope_once 0 rfl ?_
 go_wp2_with (go_at_call 155; refine (isFine_any _ _).mono ?_; rintro e w' ⟨rfl, rfl⟩)
 first | rw [jump_ret] | (go_step3; refine And.intro (rfl : (0 : Nat) = 0) ?_; go_wp2_with fail; go_wp2_with fail; rw [Exit.noGoto_ret]) | (go_step3; go_wp2_with fail; rw [jump_ret])
 go_ret3
 exact ⟨_, rfl, Below.refl _ _⟩
set_option maxHeartbeats 1000000 in
theorem bl_near3 (n : Int) (w : World) (h1 : 1 ≤ n) (h2 : n ≤ 9223372036854775807) (h3 : (n - 1) / 8 < 64) (h4 : 3 ≤ (n - 1) / 8) : Calls Tryz.prog 156 #[.int .i64 3, .int .i64 n] w (BdL (bits .or .u64 (IntKind.u64.wrap (2 ^ ((n - 1) / 8).toNat)) (IntKind.u64.wrap (IntKind.u64.wrap (bits .and .i64 (n - 1) 7) * 2 ^ ((n - 1) / 8 - 3).toNat))) w) := by
 have t0 : (n == 0) = false := by rw [beq_eq_false_iff_ne]; omega
 have hF : isFineB 3 = true := rfl
 go_enter Tryz.func156, Tryz.ntmps156
 go_wp2_with fail
 refine wp_scope_once 0 rfl ?_
 go_wp2_with (go_at_call 155; refine (isFine_any _ _).mono ?_; rintro e w' ⟨rfl, rfl⟩)
 go_quiet (fail)
 go_wp2_with fail
 go_quiet (fail)
 go_wp2_with fail
 first | rw [jump_ret] | (go_step3; refine And.intro (rfl : (0 : Nat) = 0) ?_; go_wp2_with fail; go_wp2_with fail; rw [Exit.noGoto_ret]) | (go_step3; go_wp2_with fail; rw [jump_ret])
 go_ret3
 exact ⟨_, rfl, bDr (bDr (Below.refl _ _) _) _⟩
set_option maxHeartbeats 1000000 in
theorem bl_low30 (n : Int) (w : World) (h1 : 1 ≤ n) (h2 : n ≤ 9223372036854775807) (h3 : (n - 1) / 8 = 0) (hc : (bits .and .i64 (bits .and .i64 (n - 1) 7) 7 == 0) = true) : Calls Tryz.prog 156 #[.int .i64 3, .int .i64 n] w (BdL (bits .or .u64 1 (IntKind.u64.wrap (bits .and .i64 (n - 1) 7) / 8)) w) := by
 have t0 : (n == 0) = false := by rw [beq_eq_false_iff_ne]; omega
 have hF : isFineB 3 = true := rfl
 go_enter Tryz.func156, Tryz.ntmps156
 go_wp2_with fail
 refine wp_scope_once 0 rfl ?_
 go_wp2_with (go_at_call 155; refine (isFine_any _ _).mono ?_; rintro e w' ⟨rfl, rfl⟩)
 go_quiet (fail)
 go_wp2_with fail
 first | rw [jump_ret] | (go_step3; refine And.intro (rfl : (0 : Nat) = 0) ?_; go_wp2_with fail; go_wp2_with fail; rw [Exit.noGoto_ret]) | (go_step3; go_wp2_with fail; rw [jump_ret])
 go_ret3
 exact ⟨_, rfl, bDr (Below.refl _ _) _⟩
set_option maxHeartbeats 1000000 in
theorem bl_low31 (n : Int) (w : World) (h1 : 1 ≤ n) (h2 : n ≤ 9223372036854775807) (h3 : (n - 1) / 8 = 1) (hc : (bits .and .i64 (bits .and .i64 (n - 1) 7) 3 == 0) = true) : Calls Tryz.prog 156 #[.int .i64 3, .int .i64 n] w (BdL (bits .or .u64 2 (IntKind.u64.wrap (bits .and .i64 (n - 1) 7) / 4)) w) := by
 have t0 : (n == 0) = false := by rw [beq_eq_false_iff_ne]; omega
 have hF : isFineB 3 = true := rfl
 go_enter Tryz.func156, Tryz.ntmps156
 go_wp2_with fail
 refine wp_scope_once 0 rfl ?_
 go_wp2_with (go_at_call 155; refine (isFine_any _ _).mono ?_; rintro e w' ⟨rfl, rfl⟩)
 go_quiet (fail)
 go_wp2_with fail
 first | rw [jump_ret] | (go_step3; refine And.intro (rfl : (0 : Nat) = 0) ?_; go_wp2_with fail; go_wp2_with fail; rw [Exit.noGoto_ret]) | (go_step3; go_wp2_with fail; rw [jump_ret])
 go_ret3
 exact ⟨_, rfl, bDr (Below.refl _ _) _⟩
set_option maxHeartbeats 1000000 in
theorem bl_low32 (n : Int) (w : World) (h1 : 1 ≤ n) (h2 : n ≤ 9223372036854775807) (h3 : (n - 1) / 8 = 2) (hc : (bits .and .i64 (bits .and .i64 (n - 1) 7) 1 == 0) = true) : Calls Tryz.prog 156 #[.int .i64 3, .int .i64 n] w (BdL (bits .or .u64 4 (IntKind.u64.wrap (bits .and .i64 (n - 1) 7) / 2)) w) := by
 have t0 : (n == 0) = false := by rw [beq_eq_false_iff_ne]; omega
 have hF : isFineB 3 = true := rfl
 go_enter Tryz.func156, Tryz.ntmps156
 go_wp2_with fail
 refine wp_scope_once 0 rfl ?_
 go_wp2_with (go_at_call 155; refine (isFine_any _ _).mono ?_; rintro e w' ⟨rfl, rfl⟩)
 go_quiet (fail)
 go_wp2_with fail
 first | rw [jump_ret] | (go_step3; refine And.intro (rfl : (0 : Nat) = 0) ?_; go_wp2_with fail; go_wp2_with fail; rw [Exit.noGoto_ret]) | (go_step3; go_wp2_with fail; rw [jump_ret])
 go_ret3
 exact ⟨_, rfl, bDr (Below.refl _ _) _⟩
theorem Bounds_least (f : Nat) (h1 : 1 ≤ f) (hf : f ≤ 3) (n : Int) (w : World) (h : boundsB f n = true) : Calls Tryz.prog 156 #[.int .i64 f, .int .i64 n] w (BdL (hiLeast f n) w) := by
 obtain ⟨n0, n1⟩ := bounds_le f hf n h
 by_cases hz : n = 0
 ·subst hz
  rcases (by omega : f = 1 ∨ f = 2 ∨ f = 3) with rfl | rfl | rfl
  ·exact bl_zero1 w
  ·exact bl_zero2 w
  ·exact bl_zero3 w
 rw [boundsB_at _ _ (by omega) (isFine_nat f hf)] at h
 unfold hiLeast
 rw [if_neg hz]
 rcases (by omega : f = 1 ∨ f = 2 ∨ f = 3) with rfl | rfl | rfl
 ·simp only [show ((1 : Int)).toNat = 1 from rfl, show ((2 : Int) ^ 1) = 2 from rfl, show (((1 : Nat) : Int)) = 1 from rfl, Int.reduceSub] at h ⊢
  by_cases hc : 64 ≤ (n - 1) / 2
  ·rw [if_pos hc] at h; cases h
  rw [if_neg hc] at h
  by_cases h2 : (1 : Int) ≤ (n - 1) / 2
  ·rw [if_pos h2]; rw [show ((n - 1) / 2 - 1).toNat = ((n - 1) / 2).toNat - 1 by omega]; exact bl_near1 n w (by omega) (by omega) (by omega) (by omega)
  rw [if_neg h2] at h ⊢
  have e : (n - 1) / 2 = 0 := by omega
  rw [e] at h ⊢
  exact bl_low10 n w (by omega) (by omega) e h
 ·simp only [show ((2 : Int)).toNat = 2 from rfl, show ((2 : Int) ^ 2) = 4 from rfl, show (((2 : Nat) : Int)) = 2 from rfl, Int.reduceSub] at h ⊢
  by_cases hc : 64 ≤ (n - 1) / 4
  ·rw [if_pos hc] at h; cases h
  rw [if_neg hc] at h
  by_cases h2 : (2 : Int) ≤ (n - 1) / 4
  ·rw [if_pos h2]; exact bl_near2 n w (by omega) (by omega) (by omega) (by omega)
  rw [if_neg h2] at h ⊢
  rcases (by omega : (n - 1) / 4 = 0 ∨ (n - 1) / 4 = 1) with e | e <;> rw [e] at h ⊢
  ·exact bl_low20 n w (by omega) (by omega) e h
  ·exact bl_low21 n w (by omega) (by omega) e h
 ·simp only [show ((3 : Int)).toNat = 3 from rfl, show ((2 : Int) ^ 3) = 8 from rfl, show (((3 : Nat) : Int)) = 3 from rfl, Int.reduceSub] at h ⊢
  by_cases hc : 64 ≤ (n - 1) / 8
  ·rw [if_pos hc] at h; cases h
  rw [if_neg hc] at h
  by_cases h2 : (3 : Int) ≤ (n - 1) / 8
  ·rw [if_pos h2]; exact bl_near3 n w (by omega) (by omega) (by omega) (by omega)
  rw [if_neg h2] at h ⊢
  rcases (by omega : (n - 1) / 8 = 0 ∨ (n - 1) / 8 = 1 ∨ (n - 1) / 8 = 2) with e | e | e <;> rw [e] at h ⊢
  ·exact bl_low30 n w (by omega) (by omega) e h
  ·exact bl_low31 n w (by omega) (by omega) e h
  ·exact bl_low32 n w (by omega) (by omega) e h
end Go.Proofs.YthbhmnakmhambaaGreatDoor
namespace Go.Proofs.YthbhmnakmhambaaGreatDoor
open Go Go.RowKit
section
variable {F : Fence} {n : Nat} {P : Program} {ops : Array Oper} {Q : Exit → Act → World → Prop} {md : Region.Mode} {l : Nat}
theorem wpInO_round {o : Oper} {K : Act → World → Prop} {a : Act} {w : World} (hro : F.round = none) (hd : ∀ c, o.op ≠ .defer c) (h : o.wpIn F n P a w K Q) : o.wpIn (F.inRound l) n P a w K Q := by
 unfold Oper.wpIn at h ⊢
 refine ⟨h.1, ?_⟩
 have h2 := h.2
 rw [hro, Oper.semAt_none] at h2
 rw [Fence.inRound_round, Oper.semAt_some _ _ _ hd]
 generalize (execOp a.eval o).run P w = r at h2 ⊢
 cases r with
 | ok x w' => cases x <;> exact h2
 | halt x w' => cases x <;> exact h2
theorem wpOpIn_round {i : Nat} {K : Act → World → Prop} {a : Act} {w : World} (hro : F.round = none) (hd : ∀ (i : Nat) (o : Oper), ops[i]? = some o → ∀ c, o.op ≠ .defer c) (h : wpOpIn F n P ops Q i K a w) : wpOpIn (F.inRound l) n P ops Q i K a w := by
 unfold wpOpIn at h ⊢
 cases ho : ops[i]? with
 | none => simpa only [ho] using h
 | some o =>
  simp only [ho] at h ⊢
  split
  ·rename_i hw; rw [if_pos hw] at h; exact wpInO_round hro (hd i o ho) h
  ·rename_i hw; rw [if_neg hw] at h; exact h
theorem wpAnyIn_round (hro : F.round = none) (hd : ∀ (i : Nat) (o : Oper), ops[i]? = some o → ∀ c, o.op ≠ .defer c) (fuel : Nat) : ∀ (listed : Array Bool) (a : Act) (w : World), wpAnyIn F n P md ops Q fuel listed a w → wpAnyIn (F.inRound l) n P md ops Q fuel listed a w := by
 induction fuel with
 | zero => intro listed a w h; exact h
 | succ fuel ih => intro listed a w h; exact ⟨h.1, fun i hi => wpOpIn_round hro hd (wpOpIn_mono (fun a' w' h' => ih (listed.setIfInBounds i true) a' w' h') (h.2 i hi))⟩
def noDefers (ops : Array Oper) : Bool := ops.toList.all fun o => match o.op with | .defer _ => false | _ => true
theorem noDefers_spec (h : noDefers ops = true) : ∀ (i : Nat) (o : Oper), ops[i]? = some o → ∀ c, o.op ≠ .defer c := by
 intro i o ho c hc
 rw [noDefers, List.all_eq_true] at h
 have h1 := h o (by rw [← Array.getElem?_toList] at ho; exact List.mem_of_getElem? ho)
 rw [hc] at h1
 cases h1
theorem wpIn_region_round {id : Nat} {a : Act} {w : World} (hro : F.round = none) (hm : P.follows .mixedOrders = true) (hd : noDefers ops = true)
  (h : wpAnyIn F n P .any ops Q ops.size (Array.replicate ops.size false) a w.drew) : (Code.region id ops true).wpIn (F.inRound l) n P Q a w :=
 wpIn_region_any hm (wpAnyIn_round hro (noDefers_spec hd) _ _ _ _ h)
end
end Go.Proofs.YthbhmnakmhambaaGreatDoor
namespace Go.Proofs.YthbhmnakmhambaaGreatDoor
open Go Go.RowKit Go.Shelf
attribute [local go_sem] Oper.semAt_some
def NumsAt (W : World) (g : Nat) (l : List Int) : Prop := W.heap[g]? = some (.cells (l.map (Value.int .u64)).toArray 41 (0, 0))
theorem NumsAt.lt {W : World} {g : Nat} {l : List Int} (h : NumsAt W g l) : g < W.heap.size := (Array.getElem?_eq_some_iff.1 h).1
theorem NumsAt.cell {W : World} {g : Nat} {l : List Int} (h : NumsAt W g l) {j : Nat} (hj : j < l.length) : W.cell? ⟨g, j, none⟩ = some (.int .u64 (l.getD j 0)) := by
 rw [cCc h j]
 simp [List.getD_eq_getElem?_getD, hj]
theorem NumsAt.frozen {W : World} {g : Nat} {l : List Int} (h : NumsAt W g l) (j : Nat) : W.frozen? ⟨g, j, none⟩ = false := cFz h j
theorem NumsAt.block {W W' : World} {g : Nat} {l : List Int} (h : NumsAt W g l) (hb : W'.heap[g]? = W.heap[g]?) : NumsAt W' g l := hb.trans h
theorem NumsAt.set {W : World} {g : Nat} {l : List Int} (h : NumsAt W g l) (p : Nat) (x : Int) : NumsAt (W.setCell ⟨g, p, none⟩ (.int .u64 x)) g (l.set p x) := by
 have := hSk (i := p) h (.int .u64 x)
 unfold NumsAt
 rw [this]
 congr 2
 simp [List.map_set]
theorem below_gb {W W' : World} (h : Below W.heap.size W W') (row : Option Nat) : W.grownBy W' row := ⟨h.os, h.tape, h.output, h.size, fun k hk _ => h.block k hk⟩
def chFold {α : Type} (pl : α → Nat) (F : Nat → Int → Int) (l : List Int) (ps : List α) : List Int := ps.foldl (fun l p => l.set (pl p) (F (pl p) (l.getD (pl p) 0))) l
theorem chFold_len {α : Type} (pl : α → Nat) (F : Nat → Int → Int) : ∀ (ps : List α) (l : List Int), (chFold pl F l ps).length = l.length
 | [], _ => rfl
 | p :: ps, l => by
  show (chFold pl F (l.set (pl p) _) ps).length = _
  rw [chFold_len pl F ps, List.length_set]
theorem chFold_u64 {α : Type} (pl : α → Nat) (F : Nat → Int → Int) (hF : ∀ p x, U64 x → U64 (F p x)) : ∀ (ps : List α) (l : List Int), U64s l → U64s (chFold pl F l ps)
 | [], _, h => h
 | p :: ps, l, h => by
  refine chFold_u64 pl F hF ps _ (fun x hx => ?_)
  rcases List.mem_or_eq_of_mem_set hx with hx | rfl
  ·exact h x hx
  ·exact hF _ _ (getD_u64 l h _)
def CI {α : Type} (pl : α → Nat) (F : Nat → Int → Int) (l : List Int) (g B : Nat) (wv tv : Array Value) (w : World) (pre : List α) (W : World) : Prop :=
 NumsAt W g (chFold pl F l pre) ∧ W.heap[B]? = some (.cells wv 173 (0, 0)) ∧ W.heap[B + 1]? = some (.cells tv 336 (0, 0)) ∧ w.grownBy W (some g)
theorem ci_own {α : Type} (pl : α → Nat) (F : Nat → Int → Int) (l : List Int) (g B : Nat) (wv tv : Array Value) (w : World) (C : Nat) (hC : w.heap.size ≤ C) : OwnFrom C (CI pl F l g B wv tv w) := fun pre X Y row hs hg hr => by
 obtain ⟨h1, h2, h3, h4⟩ := hs
 have hne : ∀ (k : Nat) (o : Obj), X.heap[k]? = some o → o.isCells = true → Y.heap[k]? = some o := fun k o hk hc => by
  refine (hg.block k (Array.getElem?_eq_some_iff.1 hk).1 (fun e => ?_)).trans hk
  obtain ⟨-, o', ho', hc'⟩ := hr k e.symm
  rw [hk] at ho'
  cases ho'
  rw [hc] at hc'
  cases hc'
 exact ⟨hne _ _ h1 rfl, hne _ _ h2 rfl, hne _ _ h3 rfl, h4.andThen hg (fun j e => .inl (Nat.le_trans hC (hr j e).1))⟩
end Go.Proofs.YthbhmnakmhambaaGreatDoor
namespace Go.Proofs.YthbhmnakmhambaaGreatDoor
open Go Go.RowKit Go.Shelf
attribute [local go_sem] Oper.semAt_some
attribute [-go_sem] Builtin.append_
def labPart (x : Lab) : ByteArray := x.name ++ (⟨#[61]⟩ : ByteArray) ++ ⟨(quotedB (rl x.value 0)).toArray⟩
def labText (ls : List Lab) : ByteArray := ⟨(Lib.join ((ls.map labPart).map (·.data.toList)) [44]).toArray⟩
theorem owns_formL {w : World} {base e size n : Nat} {v : Value} {xs : List Value} (h : w.ownsRow base e size v n xs) : ∃ a cap, v = .slice a n cap := by
 rcases h.2 with ⟨rfl, rfl⟩ | ⟨g, cap, cur, rfl, _⟩
 ·exact ⟨none, 0, rfl⟩
 ·exact ⟨_, cap, rfl⟩
end Go.Proofs.YthbhmnakmhambaaGreatDoor
namespace Go.Proofs.YthbhmnakmhambaaGreatDoor
open Go Go.RowKit Go.Shelf
def LabsOk (l : List Lab) : Prop := ∀ x ∈ l, x.ok
theorem labK_of (l : List Lab) (h : LabsOk l) : ∃ ls : List LabK, ls.map (·.1) = l := by
 induction l with
 | nil => exact ⟨[], rfl⟩
 | cons x xs ih =>
  obtain ⟨ls, hls⟩ := ih (fun y hy => h y (List.mem_cons_of_mem _ hy))
  exact ⟨⟨x, h x (List.mem_cons_self ..)⟩ :: ls, by rw [List.map_cons, hls]⟩
theorem labEnc_len (x : Lab) : x.enc.length = 2 := rfl
def textS (l : List Lab) : ByteArray := if labRight l then labText l else ⟨#[]⟩
theorem label_Right_nil (a0 : Option Addr) (cap : Nat) (w : World) :
  Calls Tryz.prog 69 #[.slice a0 0 cap] w fun e w' => e = .returned (.bool false) ∧ w' = w := by
 refine calls_marks Tryz.func69 rfl ?_
 simp only [Tryz.ntmps69, List.size_toArray, List.length_cons, List.length_nil, Nat.reduceAdd, Nat.reduceSub, Array.replicate_succ, Array.replicate_zero, List.push_toArray, List.append_toArray, List.nil_append, List.cons_append]
 go_wp2_with fail
 go_step3
 go_wp2_with fail
 exact marks_ret0 (results_tmp rfl _ _ _) rfl ⟨rfl, rfl⟩
theorem label_Right_E (a : Option Addr) (len cap : Nat) (l : List Lab) (w : World) (h : SlE Lab.enc 2 w.heap.size w a len l) (ho : LabsOk l) (hG : GW w) (hm : len < 4294967281) :
  Calls Tryz.prog 69 #[.slice a len cap] w fun e w' => e = .returned (.bool (labRight l)) ∧ Below w.heap.size w w' := by
 rcases Nat.eq_zero_or_pos len with h0 | h0
 ·subst h0
  obtain rfl : l = [] := List.eq_nil_of_length_eq_zero h.1.symm
  refine (label_Right_nil a cap w).mono ?_
  rintro e w' ⟨rfl, rfl⟩
  exact ⟨rfl, Below.refl _ _⟩
 ·have hat := h.to_at (cap := cap) labEnc_len h0
  obtain ⟨ls, rfl⟩ := labK_of l ho
  have hl := h.1
  rw [List.length_map] at hl
  subst hl
  exact label_Right_any a cap ls w hat hG hm
end Go.Proofs.YthbhmnakmhambaaGreatDoor
namespace Go.Proofs.YthbhmnakmhambaaGreatDoor
open Go Go.RowKit Go.Shelf
theorem und_labels : Tryz.prog.underlying 40 = some (.slice 70) := by kernel_rfl
theorem info_label : (Tryz.prog.info? 70).map (fun i => (i.zero, i.size, i.bytes)) = some (some (.agg #[.string ⟨#[]⟩, .string ⟨#[]⟩]), 2, 32) := by kernel_rfl
def labCut (x : Lab) : LabK := ⟨⟨cutN 20 x.name, cutN 120 x.value⟩, cutN_lt 20 (by decide) _, cutN_lt 120 (by decide) _⟩
def few04 (l : List Lab) : List LabK := (l.take 10).map labCut
theorem few04_step {l : List Lab} {k : Nat} {x : Lab} (hx : l[k]? = some x) : ((l.take (k + 1)).map labCut).flatMap (fun y => y.1.enc) = ((l.take k).map labCut).flatMap (fun y => y.1.enc) ++ [.string (cutN 20 x.name), .string (cutN 120 x.value)] := by
 rw [take_snoc' hx]
 simp [labCut, Lab.enc]
set_option maxRecDepth 100000 in
set_option maxHeartbeats 2000000 in
theorem few04_any (l : List Lab) (a : Option Addr) (len cap : Nat) (w : World) (hL : SlE Lab.enc 2 w.heap.size w a len l) :
  Calls Tryz.prog 50 #[.slice a len cap] w fun e w' => ∃ a' cap', e = .returned (.slice a' (few04 l).length cap') ∧ SlC Lab.enc 2 w'.heap.size w' a' (few04 l).length cap' ((few04 l).map (·.1)) ∧ (∀ x, a' = some x → w.heap.size ≤ x.block) ∧ Below w.heap.size w w' := by
 have hlen := hL.1
 subst hlen
 have hown0 : w.ownsRow w.heap.size 70 2 (.slice none 0 0) 0 [] := World.ownsRow_nil _ _ _ _
 go_enter Tryz.func50, Tryz.ntmps50
 go_wp2_with fail
 go_loopw [3, 4] (fun v i wr => ∃ (k : Nat), i = .int .i64 k ∧ k ≤ l.length ∧ k ≤ 10 ∧ Below w.heap.size w wr ∧ wr.ownsRow w.heap.size 70 2 v k (((l.take k).map labCut).flatMap (fun y => y.1.enc))) (fun _ i _ => l.length - (intOf i).toNat)
 case atStart => exact ⟨0, rfl, Nat.zero_le _, by omega, Below.refl _ _, hown0⟩
 case round =>
  obtain ⟨k, rfl, hk, hk10, hB, hown⟩ := hrel
  have hsz := hB.size
  by_cases hlt : k < l.length ∧ k < 10
  ·obtain ⟨hlt, hlt10⟩ := hlt
   obtain ⟨x, hx⟩ : ∃ x, l[k]? = some x := ⟨_, List.getElem?_eq_getElem hlt⟩
   obtain ⟨b, off, rfl, hbb, hc⟩ := (hL.below hB).2 k x hx
   have c0 : wr.cell? ⟨b, off + k * 2, none⟩ = some (.string x.name) := hc 0 (by omega)
   have c1 : wr.cell? ⟨b, off + k * 2 + 1, none⟩ = some (.string x.value) := hc 1 (by omega)
   have HS := Lib.hid (few04_step hx)
   obtain ⟨g5, cap5, w5, hap5, hown5, hB5, hz5, hbl5, -⟩ := append_one Tryz.prog 40 und_labels info_label rfl (by decide) (W := wr.drew) hown hB.drew (Nat.le_refl _) hsz [.string (x.name.extract 0 (min (x.name.size : Int) 20).toNat), .string (x.value.extract 0 (min (x.value.size : Int) 120).toNat)] rfl (by simp [Value.oneCell']) (by omega) (by decide)
   obtain ⟨va, vc, rfl⟩ := owns_formL hown
   have HO := Lib.hid hown5
   have e4 : (k : Int) < 10 := by omega
   have k0 : w5.cell? ⟨b, off + k * 2, none⟩ = some (.string x.name) := (hB5.cell (p := ⟨b, off + k * 2, none⟩) hbb).trans ((hB.cell (p := ⟨b, off + k * 2, none⟩) hbb).symm.trans c0)
   have k1 : w5.cell? ⟨b, off + k * 2 + 1, none⟩ = some (.string x.value) := (hB5.cell (p := ⟨b, off + k * 2 + 1, none⟩) hbb).trans ((hB.cell (p := ⟨b, off + k * 2 + 1, none⟩) hbb).symm.trans c1)
   have e5 : b < wr.heap.size := by omega
   have m1 : 0 ≤ min (x.name.size : Int) 20 := by omega
   have m2 : min (x.name.size : Int) 20 ≤ x.name.size := by omega
   have m3 : 0 ≤ min (x.value.size : Int) 120 := by omega
   have m4 : min (x.value.size : Int) 120 ≤ x.value.size := by omega
   clear hc hx hL hown hown5 hbl5 hown0
   go_wp2_with fail
   go_region_held3 (fun w' => w'.cell? ⟨b, off + k * 2, none⟩ = some (.string x.name) ∧ w'.cell? ⟨b, off + k * 2 + 1, none⟩ = some (.string x.value))
    (first
     | go_keep
     | exact ⟨k0, k1⟩)
    ((refine step_append_eq (v := .slice va k vc) (xv := .slice (some ⟨wr.heap.size, 0, none⟩) 1 1) (v' := .slice (some ⟨g5, 0, none⟩) (k + 1) cap5) (w' := w5) rfl (.tmp 15) (.tmp 43) 40 rfl rfl rfl hap5 ?_))
   all_goals go_wp2_with fail
   all_goals exact ⟨⟨k + 1, by go_num, by omega, by omega, hB5, by rw [HS.out]; exact HO.out⟩, by simp [intOf]; omega⟩
  ·have HK : Hid (k = min l.length 10) := by rw [Hid]; omega
   have hT : Hid (((l.take k).map labCut) = few04 l) := by
    rw [HK.out, few04, Hid]
    rw [Nat.min_comm]
    exact congrArg _ List.take_eq_take_min.symm
   have HL : Hid ((few04 l).length = k) := by rw [Hid, ← hT.out, List.length_map, List.length_take]; omega
   obtain ⟨va, vc, rfl⟩ := owns_formL hown
   have hsl : Hid (SlC Lab.enc 2 wr.heap.size wr va (few04 l).length vc ((few04 l).map (·.1)) ∧ ∀ x, va = some x → w.heap.size ≤ x.block) := by
    have hlm : k = ((few04 l).map (·.1)).length := by rw [List.length_map, HL.out]
    have hown' : wr.ownsRow w.heap.size 70 2 (.slice va k vc) ((few04 l).map (·.1)).length (((few04 l).map (·.1)).flatMap Lab.enc) := by
     rw [← hlm, List.flatMap_map]
     rw [hT.out] at hown
     exact hown
    obtain ⟨a9, c9, e9, h9, g9⟩ := slC_of_owns (enc := Lab.enc) labEnc_len hown'
    injection e9 with e1 e2 e3
    subst e1; subst e3
    rw [Hid, HL.out]
    rw [← hlm] at h9
    exact ⟨h9, g9⟩
   clear hL hown HK
   have FI : Hid (∃ a' cap', Ending.returned (.slice va k vc) = .returned (.slice a' (few04 l).length cap') ∧ SlC Lab.enc 2 wr.heap.size wr a' (few04 l).length cap' ((few04 l).map (·.1)) ∧ (∀ x, a' = some x → w.heap.size ≤ x.block) ∧ Below w.heap.size w wr) := ⟨va, vc, by rw [HL.out], hsl.out.1, hsl.out.2, hB⟩
   go_wp2_with fail
   all_goals go_ret
   all_goals exact FI.out
end Go.Proofs.YthbhmnakmhambaaGreatDoor
