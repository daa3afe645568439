/- Package cms: together, col, blank, the iterators. Package hist: together, Bucket. Package hist: Bounds, with the least value. Regions that draw their order inside a round: by the walk outside of one. Of no program. -/
import Derived.Test.YtcbbenncdainfaaGreatDoorYMB
namespace Go.Proofs.YtcbbenncdainfaaGreatDoor
open Go Go.RowKit Go.Shelf
attribute [local go_sem] Oper.semAt_some
set_option maxRecDepth 100000 in
set_option maxHeartbeats 1000000 in
theorem ctogether_any (b : Nat) (x y : Int) (w : World) (h0 : w.cell? ⟨b, 0, none⟩ = some (.int .u64 x)) (h1 : w.cell? ⟨b, 1, none⟩ = some (.int .u64 y)) (hx : U64 x) (hy : U64 y) :
  Calls Tryz.prog 183 #[.slice (some ⟨b, 0, none⟩) 2 2] w fun e w' => e = .returned (.int .u64 (satI x y)) ∧ w' = w := by
 obtain ⟨x0, x1⟩ := hx
 obtain ⟨y0, y1⟩ := hy
 have t0 : decide (18446744073709551615 < x) = false := by simp; omega
 by_cases hc : 18446744073709551615 - x < y
 ·have hs : satI x y = 18446744073709551615 := by unfold satI; rw [if_pos hc]
  rw [hs]
  have t1 : decide (18446744073709551615 - x < y) = true := by simpa using hc
  go_enter Tryz.func183, Tryz.ntmps183
  go_wp2_with fail
  refine wp_loop_rounds 3 ?_
  rw [rounds_succ]
  go_wp2_with fail
  rw [rounds_succ]
  go_wp2_with fail
  go_ret
  exact ⟨rfl, rfl⟩
 ·have hs : satI x y = x + y := by unfold satI; rw [if_neg hc]
  rw [hs]
  have t1 : decide (18446744073709551615 - x < y) = false := by simpa using hc
  go_enter Tryz.func183, Tryz.ntmps183
  go_wp2_with fail
  refine wp_loop_rounds 3 ?_
  rw [rounds_succ]
  go_wp2_with fail
  rw [rounds_succ]
  go_wp2_with fail
  rw [rounds_succ]
  go_wp2_with fail
  go_ret
  exact ⟨rfl, rfl⟩
theorem u64_small (n : Int) (h0 : 0 ≤ n) (h1 : n < 18446744073709551616) : IntKind.u64.wrap n = n := by simp [IntKind.wrap, IntKind.bits, IntKind.signed]; omega
theorem col_eq (row h : Nat) (c : Int) (hr : row ≤ 4) (hh : h < 2 ^ 64) (hc : 0 < c) (hc2 : c ≤ 100) :
  wrap64 ((IntKind.u64.wrap ((h : Int) / 4294967296 + IntKind.u64.wrap ((row : Int) * ((h : Int) % 4294967296)))).tmod c) = ((h / 4294967296 + row * (h % 4294967296) : Nat) : Int) % c := by
 have e1 : ((row : Int) * ((h : Int) % 4294967296)) = ((row * (h % 4294967296) : Nat) : Int) := by simp
 have b1 : row * (h % 4294967296) < 4 * 4294967296 + 1 := by
  have := Nat.mul_le_mul hr (show h % 4294967296 ≤ 4294967295 by omega)
  omega
 rw [e1]
 generalize row * (h % 4294967296) = m at b1 ⊢
 rw [u64_small (m : Int) (by omega) (by omega), u64_small _ (by omega) (by omega), Int.tmod_eq_emod_of_nonneg (by omega)]
 have e2 : (h : Int) / 4294967296 + (m : Int) = ((h / 4294967296 + m : Nat) : Int) := by omega
 rw [e2]
 generalize h / 4294967296 + m = q
 have h3 := Int.emod_nonneg (q : Int) (show c ≠ 0 by omega)
 have h4 := Int.emod_lt_of_pos (q : Int) hc
 unfold wrap64
 omega
theorem ccol_any (r c : Int) (v : Value) (row : Nat) (h : Nat) (w : World) (hr : row ≤ 4) (hh : h < 2 ^ 64) (hc : 0 < c) (hc2 : c ≤ 100) :
  Calls Tryz.prog 129 #[.agg #[.int .i64 r, .int .i64 c, v], .int .i64 row, .int .u64 h] w fun e w' => e = .returned (.int .i64 (((h / 4294967296 + row * (h % 4294967296) : Nat) : Int) % c)) ∧ w' = w.alloc (.cells #[.int .i64 r, .int .i64 c, v] 135) := by
 have HE := Lib.hid (col_eq row h c hr hh hc hc2)
 go_enter Tryz.func129, Tryz.ntmps129
 go_wp2_with fail
 go_ret
 exact ⟨by rw [← HE.out]; rfl, rfl⟩
theorem told_any (r c : Int) (v : Value) (h : Int) (w : World) :
  Calls Tryz.prog 181 #[.agg #[.int .i64 r, .int .i64 c, v], .int .u64 h] w fun e w' => e = .returned (.func (.func 187) #[] #[.pointer (some ⟨w.heap.size, 0, none⟩), .pointer (some ⟨w.heap.size + 1, 0, none⟩)]) ∧ w' = (w.alloc (.cells #[.int .i64 r, .int .i64 c, v] 135)).alloc (.cells #[.int .u64 h] 43) := by
 go_enter Tryz.func181, Tryz.ntmps181
 go_wp2
 go_ret
 exact ⟨rfl, rfl⟩
theorem all_any (r c : Int) (v : Value) (w : World) :
  Calls Tryz.prog 184 #[.agg #[.int .i64 r, .int .i64 c, v]] w fun e w' => e = .returned (.func (.func 188) #[] #[.pointer (some ⟨w.heap.size, 0, none⟩)]) ∧ w' = w.alloc (.cells #[.int .i64 r, .int .i64 c, v] 135) := by
 go_enter Tryz.func184, Tryz.ntmps184
 go_wp2
 go_ret
 exact ⟨rfl, rfl⟩
set_option maxRecDepth 100000 in
set_option maxHeartbeats 1000000 in
theorem all1 (l wb : Nat) (r c : Int) (sa : Option Addr) (N cap : Nat) (hN : N ≤ 1000) (J Jx : List (Fin N) → World → Prop)
  (hY : ∀ pre x W, J pre W → pre.length < N → YieldAt Fence.wide 7 Tryz.prog l #[.int .i64 (x.1 : Nat)] W fun e W' =>
   (e = .returned (.bool true) ∧ J (pre ++ [x]) W' ∧ KL [wb] W W') ∨ (e = .returned (.bool false) ∧ Jx (pre ++ [x]) W'))
  (W : World) (hb : W.heap[wb]? = some (.cells #[.int .i64 r, .int .i64 c, .slice sa N cap] 135 (0, 0))) (h0 : J [] W) :
  CallsIn Fence.wide 8 Tryz.prog 188 #[.func (.yield l) #[] #[], .pointer (some ⟨wb, 0, none⟩)] W fun e W' => (∃ v, e = .returned v) ∧
   ((∃ ys, ys = List.finRange N ∧ J ys W') ∨ (∃ pre, pre <+: List.finRange N ∧ Jx pre W')) := by
 refine callsIn_of_wp Tryz.func188 rfl trivial ?_ rfl
 simp only [Tryz.ntmps188, List.size_toArray, List.length_cons, List.length_nil, Nat.reduceAdd, Nat.reduceSub, Array.replicate_succ, Array.replicate_zero, List.push_toArray, List.append_toArray, List.nil_append, List.cons_append]
 have c2 : W.cell? ⟨wb, 2, none⟩ = some (.slice sa N cap) := cCc hb 2
 gi_wp2
 gi_loopw [3, 8] (fun _ i wr => ∃ k : Nat, k ≤ N ∧ i = .int .i64 k ∧ J ((List.finRange N).take k) wr ∧ KL [wb] W wr) (fun _ i _ => N - (intOf i).toNat)
 case atStart => exact ⟨0, Nat.zero_le _, rfl, h0, KL.refl _ _⟩
 case round =>
  obtain ⟨k, hk, rfl, hJs, hnx⟩ := hrel
  by_cases hlt : k < N
  ·have hx : (List.finRange N)[k]? = some ⟨k, hlt⟩ := by rw [List.getElem?_eq_getElem (by simpa using hlt)]; simp
   obtain ⟨fn, tmps, assign, body, hy, hR⟩ := hY _ ⟨k, hlt⟩ _ hJs (by rw [List.length_take, List.length_finRange]; omega)
   have HX := Lib.hid hx
   clear hx
   gi_wp2
   refine hR.mono ?_
   rintro e W3 (⟨rfl, hJ3, hk3⟩ | ⟨rfl, hJx3⟩)
   ·gi_wp2
    go_roundw
    case rel => exact ⟨k + 1, by omega, by simp, by rw [take_snoc' HX.out]; exact hJ3, hnx.trans hk3⟩
    case measure => simp [intOf]; omega
   ·gi_wp2
    refine bodyPost_ret (results_none rfl _ _ _) rfl ?_
    exact ⟨⟨_, rfl⟩, .inr ⟨_, by have h := List.take_prefix (k + 1) (List.finRange N); rwa [take_snoc' HX.out] at h, hJx3⟩⟩
  ·obtain rfl : k = N := by omega
   gi_wp2
   go_end0
   exact ⟨⟨_, rfl⟩, .inl ⟨_, List.take_of_length_le (by simp), hJs⟩⟩
theorem all_seq (wb : Nat) (r c : Int) (sa : Option Addr) (N cap : Nat) (hN : N ≤ 1000) (w : World) (hb : w.heap[wb]? = some (.cells #[.int .i64 r, .int .i64 c, .slice sa N cap] 135 (0, 0))) :
  SeqStopsK Fence.wide 8 Tryz.prog 188 #[.pointer (some ⟨wb, 0, none⟩)] (fun x : Fin N => #[.int .i64 (x.1 : Nat)]) (KL [wb]) (fun ys => ys = List.finRange N) (fun pre => pre <+: List.finRange N) N w := fun l J Jx W hW _ _ hY h0 =>
 all1 l wb r c sa N cap hN J Jx hY W (known hW (Nat.le_refl _) hb) h0
theorem cmPl_lt (c row h : Nat) (hc : 0 < c) (hr : row < 2) : cmPl c row h < 2 * c := by
 unfold cmPl
 have := Nat.mod_lt (h / 4294967296 + row * (h % 4294967296)) hc
 rcases (by omega : row = 0 ∨ row = 1) with rfl | rfl <;> omega
def toldPl (c h : Nat) (hc : 0 < c) : List { n : Nat // n < 2 * c } := [⟨cmPl c 0 h, cmPl_lt c 0 h hc (by omega)⟩, ⟨cmPl c 1 h, cmPl_lt c 1 h hc (by omega)⟩]
theorem toldPl_at (c h k : Nat) (hc : 0 < c) (hk : k < 2) : (toldPl c h hc)[k]? = some ⟨cmPl c k h, cmPl_lt c k h hc hk⟩ := by
 rcases (by omega : k = 0 ∨ k = 1) with rfl | rfl <;> rfl
set_option maxRecDepth 100000 in
set_option maxHeartbeats 8000000 in
theorem told1 (l wb hbx : Nat) (c h : Nat) (v : Value) (hc : 0 < c) (hc2 : c ≤ 32) (hh : h < 2 ^ 64) (J Jx : List { n : Nat // n < 2 * c } → World → Prop)
  (hY : ∀ pre x W, J pre W → pre.length < 2 → YieldAt Fence.wide 7 Tryz.prog l #[.int .i64 (x.1 : Nat)] W fun e W' =>
   (e = .returned (.bool true) ∧ J (pre ++ [x]) W' ∧ KL [wb, hbx] W W') ∨ (e = .returned (.bool false) ∧ Jx (pre ++ [x]) W'))
  (W : World) (hJ : AbidesFrom W.heap.size J) (hb : W.heap[wb]? = some (.cells #[.int .i64 2, .int .i64 c, v] 135 (0, 0))) (hb2 : W.heap[hbx]? = some (.cells #[.int .u64 h] 43 (0, 0))) (h0 : J [] W) :
  CallsIn Fence.wide 8 Tryz.prog 187 #[.func (.yield l) #[] #[], .pointer (some ⟨wb, 0, none⟩), .pointer (some ⟨hbx, 0, none⟩)] W fun e W' => (∃ v, e = .returned v) ∧
   ((∃ ys, ys = toldPl c h hc ∧ J ys W') ∨ (∃ pre, pre <+: toldPl c h hc ∧ Jx pre W')) := by
 refine callsIn_of_wp Tryz.func187 rfl trivial ?_ rfl
 simp only [Tryz.ntmps187, List.size_toArray, List.length_cons, List.length_nil, Nat.reduceAdd, Nat.reduceSub, Array.replicate_succ, Array.replicate_zero, List.push_toArray, List.append_toArray, List.nil_append, List.cons_append]
 have c0 : W.cell? ⟨wb, 0, none⟩ = some (.int .i64 2) := cCc hb 0
 gi_wp2
 gi_loopw [4, 8] (fun _ i wr => ∃ k : Nat, k ≤ 2 ∧ i = .int .i64 k ∧ J ((toldPl c h hc).take k) wr ∧ KL [wb, hbx] W wr) (fun _ i _ => 2 - (intOf i).toNat)
 case atStart => exact ⟨0, by omega, rfl, h0, KL.refl _ _⟩
 case round =>
  obtain ⟨k, hk, rfl, hJs, hnx⟩ := hrel
  by_cases hlt : k < 2
  ·have hx := toldPl_at c h k hc hlt
   have hq := Nat.mod_lt (h / 4294967296 + k * (h % 4294967296)) hc
   have HC : Hid (∀ W, Calls Tryz.prog 129 #[.agg #[.int .i64 2, .int .i64 c, v], .int .i64 k, .int .u64 h] W fun e w' => e = .returned (.int .i64 (((h / 4294967296 + k * (h % 4294967296)) % c : Nat) : Int)) ∧ w' = W.alloc (.cells #[.int .i64 2, .int .i64 c, v] 135)) := fun W => by
    have := ccol_any 2 c v k h W (by omega) hh (by omega) (by omega)
    rw [← Int.natCast_emod] at this
    exact this
   obtain ⟨W5, hW5⟩ : ∃ W5, wr.drew.alloc (.cells #[.int .i64 2, .int .i64 c, v] 135) = W5 := ⟨_, rfl⟩
   have hG5 : wr.grownBy W5 none := by rw [← hW5]; exact (gb_drew (World.grownBy.refl wr none)).trans (World.grownBy_alloc _ _ _)
   have hJ5 := hJ _ _ _ none hJs hG5 (fun r e => by cases e)
   obtain ⟨fn, tmps, assign, body, hy, hR⟩ := hY _ ⟨cmPl c k h, cmPl_lt c k h hc hlt⟩ W5 hJ5 (by rw [List.length_take]; show min k 2 < 2; omega)
   have hX := hnx wb (by simp) _ hb
   have hX2 := hnx hbx (by simp) _ hb2
   have g0 : wr.drew.cell? ⟨wb, 0, none⟩ = some (.int .i64 2) := cCc (W := wr) hX 0
   have g1 : wr.drew.cell? ⟨wb, 1, none⟩ = some (.int .i64 c) := cCc (W := wr) hX 1
   have g2 : wr.drew.cell? ⟨wb, 2, none⟩ = some v := cCc (W := wr) hX 2
   have g3 : wr.drew.cell? ⟨hbx, 0, none⟩ = some (.int .u64 h) := cCc (W := wr) hX2 0
   have hX5 : W5.heap[wb]? = _ := (hG5.block wb (Array.getElem?_eq_some_iff.1 hX).1 (by simp)).trans hX
   have hX25 : W5.heap[hbx]? = _ := (hG5.block hbx (Array.getElem?_eq_some_iff.1 hX2).1 (by simp)).trans hX2
   have k1 : W5.cell? ⟨wb, 1, none⟩ = some (.int .i64 c) := cCc hX5 1
   have k0 : W5.cell? ⟨wb, 0, none⟩ = some (.int .i64 2) := cCc hX5 0
   have HW5 := Lib.hid hW5
   have hk5 : KL [wb, hbx] wr W5 := KL.grown hG5 (fun b _ => by simp)
   have finT : ∀ W3, J ((toldPl c h hc).take k ++ [⟨cmPl c k h, cmPl_lt c k h hc hlt⟩]) W3 → KL [wb, hbx] W5 W3 → ∃ k' : Nat, k' ≤ 2 ∧ Value.int .i64 ((k : Int) + 1) = .int .i64 k' ∧ J ((toldPl c h hc).take k') W3 ∧ KL [wb, hbx] W W3 := fun W3 hJ3 hk3 => ⟨k + 1, by omega, by simp, by rw [take_snoc' hx]; exact hJ3, (hnx.trans hk5).trans hk3⟩
   have finF : ∀ W3, Jx ((toldPl c h hc).take k ++ [⟨cmPl c k h, cmPl_lt c k h hc hlt⟩]) W3 → (∃ v, Ending.returned (.tuple #[]) = .returned v) ∧ ((∃ ys, ys = toldPl c h hc ∧ J ys W3) ∨ (∃ pre, pre <+: toldPl c h hc ∧ Jx pre W3)) := fun W3 hJx3 => ⟨⟨_, rfl⟩, .inr ⟨_, by have h := List.take_prefix (k + 1) (toldPl c h hc); rwa [take_snoc' hx] at h, hJx3⟩⟩
   have hpl : ((cmPl c k h : Nat) : Int) = ((k * c : Nat) : Int) + (((h / 4294967296 + k * (h % 4294967296)) % c : Nat) : Int) := by unfold cmPl; omega
   rw [hpl] at hy
   have hm1 : k * c ≤ 1 * c := Nat.mul_le_mul_right c (by omega)
   have hm : ((k : Int) * (c : Int)) = ((k * c : Nat) : Int) := by simp
   generalize (h / 4294967296 + k * (h % 4294967296)) % c = q at hq HC hy
   generalize k * c = m at hm hm1 hy
   have hE : IntKind.i64.wrap (IntKind.i64.wrap ((k : Int) * (c : Int)) + (q : Int)) = (m : Int) + (q : Int) := by rw [hm, IntWalk.i64_in (m : Int) (by omega), IntWalk.i64_in _ (by omega)]
   rw [← hE] at hy
   clear hW5 hx hX hX2 hX5 hX25 hG5 hJ5 hpl hm hE
   gi_wp2
   refine wpIn_region_any (by kernel_rfl) ?_
   change wpAnyIn _ _ _ _ _ _ _ _ _ (World.drew _)
   refine wpAnyIn_take (i := 0) (v := ?_) rfl rfl (by kernel_rfl) (by kernel_rfl) (by kernel_rfl) (fun _ _ _ h => h) ⟨Or.inl ⟨by rfl, ?_⟩, fun _ => rfl⟩ ?_
   rotate_left
   ·intro w; go_simp; with_reducible rfl
   refine wpAnyIn_take (i := 1) (v := ?_) rfl rfl (by kernel_rfl) (by kernel_rfl) (by kernel_rfl) (fun _ _ _ h => h) ⟨Or.inl ⟨by rfl, ?_⟩, fun _ => rfl⟩ ?_
   rotate_left
   ·intro w; go_simp; with_reducible rfl
   refine wpAnyIn_take (i := 2) (v := ?_) rfl rfl (by kernel_rfl) (by kernel_rfl) (by kernel_rfl) (fun _ _ _ h => h) ⟨Or.inl ⟨by rfl, ?_⟩, fun _ => rfl⟩ ?_
   rotate_left
   ·intro w; go_simp; with_reducible rfl
   refine wpAnyIn_take (i := 3) (v := ?_) rfl rfl (by kernel_rfl) (by kernel_rfl) (by kernel_rfl) (fun _ _ _ h => h) ⟨Or.inl ⟨by rfl, ?_⟩, fun _ => rfl⟩ ?_
   rotate_left
   ·intro w; go_simp; with_reducible rfl
   refine wpAnyIn_take (i := 7) (v := ?_) rfl rfl (by kernel_rfl) (by kernel_rfl) (by kernel_rfl) (fun _ _ _ h => h) ⟨Or.inl ⟨by rfl, ?_⟩, fun _ => rfl⟩ ?_
   rotate_left
   ·intro w; go_simp; with_reducible rfl
   refine wpAnyIn_ready (rs := [4, 6, 8]) (by kernel_rfl) (by simp) ?_
   refine AllReadyIn.cons rfl (fun K hK => ?_) ?_
   ·go_simp
    refine hK _ _ ?_
    clear hK K
    refine wpAnyIn_take (i := 5) (v := ?_) rfl rfl (by kernel_rfl) (by kernel_rfl) (by kernel_rfl) (fun _ _ _ h => h) ⟨Or.inl ⟨by rfl, ?_⟩, fun _ => rfl⟩ ?_
    rotate_left
    ·intro w; go_simp; with_reducible rfl
    refine wpAnyIn_ready (rs := [6, 8]) (by kernel_rfl) (by simp) ?_
    refine AllReadyIn.cons rfl (fun K hK => ?_) ?_
    ·go_simp
     refine hK _ _ ?_
     clear hK K
     refine wpAnyIn_ready (rs := [8]) (by kernel_rfl) (by simp) ?_
     refine AllReadyIn.cons rfl (fun K hK => ?_) ?_
     ·go_simp
      refine hK _ _ ?_
      clear hK K
      refine wpAnyIn_ready (rs := [9]) (by kernel_rfl) (by simp) ?_
      refine AllReadyIn.cons rfl (fun K hK => ?_) ?_
      ·go_simp
       refine ⟨trivial, (callsIn_wide.2 (HC.out _)).mono ?_⟩
       rintro e w5 ⟨rfl, rfl⟩
       rw [HW5.out]
       refine hK _ _ ?_
       clear hK K
       refine wpAnyIn_take (i := 10) (v := ?_) rfl rfl (by kernel_rfl) (by kernel_rfl) (by kernel_rfl) (fun _ _ _ h => h) ⟨Or.inl ⟨by rfl, ?_⟩, fun _ => rfl⟩ ?_
       rotate_left
       ·intro w; go_simp; with_reducible rfl
       refine wpAnyIn_ready (rs := [11]) (by kernel_rfl) (by simp) ?_
       refine AllReadyIn.cons rfl (fun K hK => ?_) ?_
       ·go_simp
        refine hR.mono ?_
        rintro e W3 (⟨rfl, hJ3, hk3⟩ | ⟨rfl, hJx3⟩)
        ·refine hK _ _ ?_
         clear hK K
         refine wpAnyIn_take (i := 12) (v := ?_) rfl rfl (by kernel_rfl) (by kernel_rfl) (by kernel_rfl) (fun _ _ _ h => h) ⟨Or.inl ⟨by rfl, ?_⟩, fun _ => rfl⟩ ?_
         rotate_left
         ·intro w; go_simp; with_reducible rfl
         refine wpAnyIn_done (by kernel_rfl) ?_ _
         gi_wp2
         go_roundw
         case rel => exact finT W3 hJ3 hk3
         case measure => simp [intOf]; omega
        ·refine hK _ _ ?_
         clear hK K
         refine wpAnyIn_take (i := 12) (v := ?_) rfl rfl (by kernel_rfl) (by kernel_rfl) (by kernel_rfl) (fun _ _ _ h => h) ⟨Or.inl ⟨by rfl, ?_⟩, fun _ => rfl⟩ ?_
         rotate_left
         ·intro w; go_simp; with_reducible rfl
         refine wpAnyIn_done (by kernel_rfl) ?_ _
         gi_wp2
         refine bodyPost_ret (results_none rfl _ _ _) rfl ?_
         exact finF W3 hJx3
       exact AllReadyIn.nil
      exact AllReadyIn.nil
     exact AllReadyIn.nil
    refine AllReadyIn.cons rfl (fun K hK => ?_) ?_
    ·go_simp
     refine hK _ _ ?_
     clear hK K
     refine wpAnyIn_ready (rs := [6]) (by kernel_rfl) (by simp) ?_
     refine AllReadyIn.cons rfl (fun K hK => ?_) ?_
     ·go_simp
      refine hK _ _ ?_
      clear hK K
      refine wpAnyIn_ready (rs := [9]) (by kernel_rfl) (by simp) ?_
      refine AllReadyIn.cons rfl (fun K hK => ?_) ?_
      ·go_simp
       refine ⟨trivial, (callsIn_wide.2 (HC.out _)).mono ?_⟩
       rintro e w5 ⟨rfl, rfl⟩
       rw [HW5.out]
       refine hK _ _ ?_
       clear hK K
       refine wpAnyIn_take (i := 10) (v := ?_) rfl rfl (by kernel_rfl) (by kernel_rfl) (by kernel_rfl) (fun _ _ _ h => h) ⟨Or.inl ⟨by rfl, ?_⟩, fun _ => rfl⟩ ?_
       rotate_left
       ·intro w; go_simp; with_reducible rfl
       refine wpAnyIn_ready (rs := [11]) (by kernel_rfl) (by simp) ?_
       refine AllReadyIn.cons rfl (fun K hK => ?_) ?_
       ·go_simp
        refine hR.mono ?_
        rintro e W3 (⟨rfl, hJ3, hk3⟩ | ⟨rfl, hJx3⟩)
        ·refine hK _ _ ?_
         clear hK K
         refine wpAnyIn_take (i := 12) (v := ?_) rfl rfl (by kernel_rfl) (by kernel_rfl) (by kernel_rfl) (fun _ _ _ h => h) ⟨Or.inl ⟨by rfl, ?_⟩, fun _ => rfl⟩ ?_
         rotate_left
         ·intro w; go_simp; with_reducible rfl
         refine wpAnyIn_done (by kernel_rfl) ?_ _
         gi_wp2
         go_roundw
         case rel => exact finT W3 hJ3 hk3
         case measure => simp [intOf]; omega
        ·refine hK _ _ ?_
         clear hK K
         refine wpAnyIn_take (i := 12) (v := ?_) rfl rfl (by kernel_rfl) (by kernel_rfl) (by kernel_rfl) (fun _ _ _ h => h) ⟨Or.inl ⟨by rfl, ?_⟩, fun _ => rfl⟩ ?_
         rotate_left
         ·intro w; go_simp; with_reducible rfl
         refine wpAnyIn_done (by kernel_rfl) ?_ _
         gi_wp2
         refine bodyPost_ret (results_none rfl _ _ _) rfl ?_
         exact finF W3 hJx3
       exact AllReadyIn.nil
      exact AllReadyIn.nil
     exact AllReadyIn.nil
    exact AllReadyIn.nil
   refine AllReadyIn.cons rfl (fun K hK => ?_) ?_
   ·go_simp
    refine hK _ _ ?_
    clear hK K
    refine wpAnyIn_ready (rs := [4, 8]) (by kernel_rfl) (by simp) ?_
    refine AllReadyIn.cons rfl (fun K hK => ?_) ?_
    ·go_simp
     refine hK _ _ ?_
     clear hK K
     refine wpAnyIn_take (i := 5) (v := ?_) rfl rfl (by kernel_rfl) (by kernel_rfl) (by kernel_rfl) (fun _ _ _ h => h) ⟨Or.inl ⟨by rfl, ?_⟩, fun _ => rfl⟩ ?_
     rotate_left
     ·intro w; go_simp; with_reducible rfl
     refine wpAnyIn_ready (rs := [8]) (by kernel_rfl) (by simp) ?_
     refine AllReadyIn.cons rfl (fun K hK => ?_) ?_
     ·go_simp
      refine hK _ _ ?_
      clear hK K
      refine wpAnyIn_ready (rs := [9]) (by kernel_rfl) (by simp) ?_
      refine AllReadyIn.cons rfl (fun K hK => ?_) ?_
      ·go_simp
       refine ⟨trivial, (callsIn_wide.2 (HC.out _)).mono ?_⟩
       rintro e w5 ⟨rfl, rfl⟩
       rw [HW5.out]
       refine hK _ _ ?_
       clear hK K
       refine wpAnyIn_take (i := 10) (v := ?_) rfl rfl (by kernel_rfl) (by kernel_rfl) (by kernel_rfl) (fun _ _ _ h => h) ⟨Or.inl ⟨by rfl, ?_⟩, fun _ => rfl⟩ ?_
       rotate_left
       ·intro w; go_simp; with_reducible rfl
       refine wpAnyIn_ready (rs := [11]) (by kernel_rfl) (by simp) ?_
       refine AllReadyIn.cons rfl (fun K hK => ?_) ?_
       ·go_simp
        refine hR.mono ?_
        rintro e W3 (⟨rfl, hJ3, hk3⟩ | ⟨rfl, hJx3⟩)
        ·refine hK _ _ ?_
         clear hK K
         refine wpAnyIn_take (i := 12) (v := ?_) rfl rfl (by kernel_rfl) (by kernel_rfl) (by kernel_rfl) (fun _ _ _ h => h) ⟨Or.inl ⟨by rfl, ?_⟩, fun _ => rfl⟩ ?_
         rotate_left
         ·intro w; go_simp; with_reducible rfl
         refine wpAnyIn_done (by kernel_rfl) ?_ _
         gi_wp2
         go_roundw
         case rel => exact finT W3 hJ3 hk3
         case measure => simp [intOf]; omega
        ·refine hK _ _ ?_
         clear hK K
         refine wpAnyIn_take (i := 12) (v := ?_) rfl rfl (by kernel_rfl) (by kernel_rfl) (by kernel_rfl) (fun _ _ _ h => h) ⟨Or.inl ⟨by rfl, ?_⟩, fun _ => rfl⟩ ?_
         rotate_left
         ·intro w; go_simp; with_reducible rfl
         refine wpAnyIn_done (by kernel_rfl) ?_ _
         gi_wp2
         refine bodyPost_ret (results_none rfl _ _ _) rfl ?_
         exact finF W3 hJx3
       exact AllReadyIn.nil
      exact AllReadyIn.nil
     exact AllReadyIn.nil
    refine AllReadyIn.cons rfl (fun K hK => ?_) ?_
    ·go_simp
     refine hK _ _ ?_
     clear hK K
     refine wpAnyIn_ready (rs := [4, 9]) (by kernel_rfl) (by simp) ?_
     refine AllReadyIn.cons rfl (fun K hK => ?_) ?_
     ·go_simp
      refine hK _ _ ?_
      clear hK K
      refine wpAnyIn_take (i := 5) (v := ?_) rfl rfl (by kernel_rfl) (by kernel_rfl) (by kernel_rfl) (fun _ _ _ h => h) ⟨Or.inl ⟨by rfl, ?_⟩, fun _ => rfl⟩ ?_
      rotate_left
      ·intro w; go_simp; with_reducible rfl
      refine wpAnyIn_ready (rs := [9]) (by kernel_rfl) (by simp) ?_
      refine AllReadyIn.cons rfl (fun K hK => ?_) ?_
      ·go_simp
       refine ⟨trivial, (callsIn_wide.2 (HC.out _)).mono ?_⟩
       rintro e w5 ⟨rfl, rfl⟩
       rw [HW5.out]
       refine hK _ _ ?_
       clear hK K
       refine wpAnyIn_take (i := 10) (v := ?_) rfl rfl (by kernel_rfl) (by kernel_rfl) (by kernel_rfl) (fun _ _ _ h => h) ⟨Or.inl ⟨by rfl, ?_⟩, fun _ => rfl⟩ ?_
       rotate_left
       ·intro w; go_simp; with_reducible rfl
       refine wpAnyIn_ready (rs := [11]) (by kernel_rfl) (by simp) ?_
       refine AllReadyIn.cons rfl (fun K hK => ?_) ?_
       ·go_simp
        refine hR.mono ?_
        rintro e W3 (⟨rfl, hJ3, hk3⟩ | ⟨rfl, hJx3⟩)
        ·refine hK _ _ ?_
         clear hK K
         refine wpAnyIn_take (i := 12) (v := ?_) rfl rfl (by kernel_rfl) (by kernel_rfl) (by kernel_rfl) (fun _ _ _ h => h) ⟨Or.inl ⟨by rfl, ?_⟩, fun _ => rfl⟩ ?_
         rotate_left
         ·intro w; go_simp; with_reducible rfl
         refine wpAnyIn_done (by kernel_rfl) ?_ _
         gi_wp2
         go_roundw
         case rel => exact finT W3 hJ3 hk3
         case measure => simp [intOf]; omega
        ·refine hK _ _ ?_
         clear hK K
         refine wpAnyIn_take (i := 12) (v := ?_) rfl rfl (by kernel_rfl) (by kernel_rfl) (by kernel_rfl) (fun _ _ _ h => h) ⟨Or.inl ⟨by rfl, ?_⟩, fun _ => rfl⟩ ?_
         rotate_left
         ·intro w; go_simp; with_reducible rfl
         refine wpAnyIn_done (by kernel_rfl) ?_ _
         gi_wp2
         refine bodyPost_ret (results_none rfl _ _ _) rfl ?_
         exact finF W3 hJx3
       exact AllReadyIn.nil
      exact AllReadyIn.nil
     refine AllReadyIn.cons rfl (fun K hK => ?_) ?_
     ·go_simp
      refine ⟨trivial, (callsIn_wide.2 (HC.out _)).mono ?_⟩
      rintro e w5 ⟨rfl, rfl⟩
      rw [HW5.out]
      refine hK _ _ ?_
      clear hK K
      refine wpAnyIn_ready (rs := [4]) (by kernel_rfl) (by simp) ?_
      refine AllReadyIn.cons rfl (fun K hK => ?_) ?_
      ·go_simp
       refine hK _ _ ?_
       clear hK K
       refine wpAnyIn_take (i := 5) (v := ?_) rfl rfl (by kernel_rfl) (by kernel_rfl) (by kernel_rfl) (fun _ _ _ h => h) ⟨Or.inl ⟨by rfl, ?_⟩, fun _ => rfl⟩ ?_
       rotate_left
       ·intro w; go_simp; with_reducible rfl
       refine wpAnyIn_take (i := 10) (v := ?_) rfl rfl (by kernel_rfl) (by kernel_rfl) (by kernel_rfl) (fun _ _ _ h => h) ⟨Or.inl ⟨by rfl, ?_⟩, fun _ => rfl⟩ ?_
       rotate_left
       ·intro w; go_simp; with_reducible rfl
       refine wpAnyIn_ready (rs := [11]) (by kernel_rfl) (by simp) ?_
       refine AllReadyIn.cons rfl (fun K hK => ?_) ?_
       ·go_simp
        refine hR.mono ?_
        rintro e W3 (⟨rfl, hJ3, hk3⟩ | ⟨rfl, hJx3⟩)
        ·refine hK _ _ ?_
         clear hK K
         refine wpAnyIn_take (i := 12) (v := ?_) rfl rfl (by kernel_rfl) (by kernel_rfl) (by kernel_rfl) (fun _ _ _ h => h) ⟨Or.inl ⟨by rfl, ?_⟩, fun _ => rfl⟩ ?_
         rotate_left
         ·intro w; go_simp; with_reducible rfl
         refine wpAnyIn_done (by kernel_rfl) ?_ _
         gi_wp2
         go_roundw
         case rel => exact finT W3 hJ3 hk3
         case measure => simp [intOf]; omega
        ·refine hK _ _ ?_
         clear hK K
         refine wpAnyIn_take (i := 12) (v := ?_) rfl rfl (by kernel_rfl) (by kernel_rfl) (by kernel_rfl) (fun _ _ _ h => h) ⟨Or.inl ⟨by rfl, ?_⟩, fun _ => rfl⟩ ?_
         rotate_left
         ·intro w; go_simp; with_reducible rfl
         refine wpAnyIn_done (by kernel_rfl) ?_ _
         gi_wp2
         refine bodyPost_ret (results_none rfl _ _ _) rfl ?_
         exact finF W3 hJx3
       exact AllReadyIn.nil
      exact AllReadyIn.nil
     exact AllReadyIn.nil
    exact AllReadyIn.nil
   refine AllReadyIn.cons rfl (fun K hK => ?_) ?_
   ·go_simp
    refine hK _ _ ?_
    clear hK K
    refine wpAnyIn_ready (rs := [4, 6]) (by kernel_rfl) (by simp) ?_
    refine AllReadyIn.cons rfl (fun K hK => ?_) ?_
    ·go_simp
     refine hK _ _ ?_
     clear hK K
     refine wpAnyIn_take (i := 5) (v := ?_) rfl rfl (by kernel_rfl) (by kernel_rfl) (by kernel_rfl) (fun _ _ _ h => h) ⟨Or.inl ⟨by rfl, ?_⟩, fun _ => rfl⟩ ?_
     rotate_left
     ·intro w; go_simp; with_reducible rfl
     refine wpAnyIn_ready (rs := [6]) (by kernel_rfl) (by simp) ?_
     refine AllReadyIn.cons rfl (fun K hK => ?_) ?_
     ·go_simp
      refine hK _ _ ?_
      clear hK K
      refine wpAnyIn_ready (rs := [9]) (by kernel_rfl) (by simp) ?_
      refine AllReadyIn.cons rfl (fun K hK => ?_) ?_
      ·go_simp
       refine ⟨trivial, (callsIn_wide.2 (HC.out _)).mono ?_⟩
       rintro e w5 ⟨rfl, rfl⟩
       rw [HW5.out]
       refine hK _ _ ?_
       clear hK K
       refine wpAnyIn_take (i := 10) (v := ?_) rfl rfl (by kernel_rfl) (by kernel_rfl) (by kernel_rfl) (fun _ _ _ h => h) ⟨Or.inl ⟨by rfl, ?_⟩, fun _ => rfl⟩ ?_
       rotate_left
       ·intro w; go_simp; with_reducible rfl
       refine wpAnyIn_ready (rs := [11]) (by kernel_rfl) (by simp) ?_
       refine AllReadyIn.cons rfl (fun K hK => ?_) ?_
       ·go_simp
        refine hR.mono ?_
        rintro e W3 (⟨rfl, hJ3, hk3⟩ | ⟨rfl, hJx3⟩)
        ·refine hK _ _ ?_
         clear hK K
         refine wpAnyIn_take (i := 12) (v := ?_) rfl rfl (by kernel_rfl) (by kernel_rfl) (by kernel_rfl) (fun _ _ _ h => h) ⟨Or.inl ⟨by rfl, ?_⟩, fun _ => rfl⟩ ?_
         rotate_left
         ·intro w; go_simp; with_reducible rfl
         refine wpAnyIn_done (by kernel_rfl) ?_ _
         gi_wp2
         go_roundw
         case rel => exact finT W3 hJ3 hk3
         case measure => simp [intOf]; omega
        ·refine hK _ _ ?_
         clear hK K
         refine wpAnyIn_take (i := 12) (v := ?_) rfl rfl (by kernel_rfl) (by kernel_rfl) (by kernel_rfl) (fun _ _ _ h => h) ⟨Or.inl ⟨by rfl, ?_⟩, fun _ => rfl⟩ ?_
         rotate_left
         ·intro w; go_simp; with_reducible rfl
         refine wpAnyIn_done (by kernel_rfl) ?_ _
         gi_wp2
         refine bodyPost_ret (results_none rfl _ _ _) rfl ?_
         exact finF W3 hJx3
       exact AllReadyIn.nil
      exact AllReadyIn.nil
     exact AllReadyIn.nil
    refine AllReadyIn.cons rfl (fun K hK => ?_) ?_
    ·go_simp
     refine hK _ _ ?_
     clear hK K
     refine wpAnyIn_ready (rs := [4, 9]) (by kernel_rfl) (by simp) ?_
     refine AllReadyIn.cons rfl (fun K hK => ?_) ?_
     ·go_simp
      refine hK _ _ ?_
      clear hK K
      refine wpAnyIn_take (i := 5) (v := ?_) rfl rfl (by kernel_rfl) (by kernel_rfl) (by kernel_rfl) (fun _ _ _ h => h) ⟨Or.inl ⟨by rfl, ?_⟩, fun _ => rfl⟩ ?_
      rotate_left
      ·intro w; go_simp; with_reducible rfl
      refine wpAnyIn_ready (rs := [9]) (by kernel_rfl) (by simp) ?_
      refine AllReadyIn.cons rfl (fun K hK => ?_) ?_
      ·go_simp
       refine ⟨trivial, (callsIn_wide.2 (HC.out _)).mono ?_⟩
       rintro e w5 ⟨rfl, rfl⟩
       rw [HW5.out]
       refine hK _ _ ?_
       clear hK K
       refine wpAnyIn_take (i := 10) (v := ?_) rfl rfl (by kernel_rfl) (by kernel_rfl) (by kernel_rfl) (fun _ _ _ h => h) ⟨Or.inl ⟨by rfl, ?_⟩, fun _ => rfl⟩ ?_
       rotate_left
       ·intro w; go_simp; with_reducible rfl
       refine wpAnyIn_ready (rs := [11]) (by kernel_rfl) (by simp) ?_
       refine AllReadyIn.cons rfl (fun K hK => ?_) ?_
       ·go_simp
        refine hR.mono ?_
        rintro e W3 (⟨rfl, hJ3, hk3⟩ | ⟨rfl, hJx3⟩)
        ·refine hK _ _ ?_
         clear hK K
         refine wpAnyIn_take (i := 12) (v := ?_) rfl rfl (by kernel_rfl) (by kernel_rfl) (by kernel_rfl) (fun _ _ _ h => h) ⟨Or.inl ⟨by rfl, ?_⟩, fun _ => rfl⟩ ?_
         rotate_left
         ·intro w; go_simp; with_reducible rfl
         refine wpAnyIn_done (by kernel_rfl) ?_ _
         gi_wp2
         go_roundw
         case rel => exact finT W3 hJ3 hk3
         case measure => simp [intOf]; omega
        ·refine hK _ _ ?_
         clear hK K
         refine wpAnyIn_take (i := 12) (v := ?_) rfl rfl (by kernel_rfl) (by kernel_rfl) (by kernel_rfl) (fun _ _ _ h => h) ⟨Or.inl ⟨by rfl, ?_⟩, fun _ => rfl⟩ ?_
         rotate_left
         ·intro w; go_simp; with_reducible rfl
         refine wpAnyIn_done (by kernel_rfl) ?_ _
         gi_wp2
         refine bodyPost_ret (results_none rfl _ _ _) rfl ?_
         exact finF W3 hJx3
       exact AllReadyIn.nil
      exact AllReadyIn.nil
     refine AllReadyIn.cons rfl (fun K hK => ?_) ?_
     ·go_simp
      refine ⟨trivial, (callsIn_wide.2 (HC.out _)).mono ?_⟩
      rintro e w5 ⟨rfl, rfl⟩
      rw [HW5.out]
      refine hK _ _ ?_
      clear hK K
      refine wpAnyIn_ready (rs := [4]) (by kernel_rfl) (by simp) ?_
      refine AllReadyIn.cons rfl (fun K hK => ?_) ?_
      ·go_simp
       refine hK _ _ ?_
       clear hK K
       refine wpAnyIn_take (i := 5) (v := ?_) rfl rfl (by kernel_rfl) (by kernel_rfl) (by kernel_rfl) (fun _ _ _ h => h) ⟨Or.inl ⟨by rfl, ?_⟩, fun _ => rfl⟩ ?_
       rotate_left
       ·intro w; go_simp; with_reducible rfl
       refine wpAnyIn_take (i := 10) (v := ?_) rfl rfl (by kernel_rfl) (by kernel_rfl) (by kernel_rfl) (fun _ _ _ h => h) ⟨Or.inl ⟨by rfl, ?_⟩, fun _ => rfl⟩ ?_
       rotate_left
       ·intro w; go_simp; with_reducible rfl
       refine wpAnyIn_ready (rs := [11]) (by kernel_rfl) (by simp) ?_
       refine AllReadyIn.cons rfl (fun K hK => ?_) ?_
       ·go_simp
        refine hR.mono ?_
        rintro e W3 (⟨rfl, hJ3, hk3⟩ | ⟨rfl, hJx3⟩)
        ·refine hK _ _ ?_
         clear hK K
         refine wpAnyIn_take (i := 12) (v := ?_) rfl rfl (by kernel_rfl) (by kernel_rfl) (by kernel_rfl) (fun _ _ _ h => h) ⟨Or.inl ⟨by rfl, ?_⟩, fun _ => rfl⟩ ?_
         rotate_left
         ·intro w; go_simp; with_reducible rfl
         refine wpAnyIn_done (by kernel_rfl) ?_ _
         gi_wp2
         go_roundw
         case rel => exact finT W3 hJ3 hk3
         case measure => simp [intOf]; omega
        ·refine hK _ _ ?_
         clear hK K
         refine wpAnyIn_take (i := 12) (v := ?_) rfl rfl (by kernel_rfl) (by kernel_rfl) (by kernel_rfl) (fun _ _ _ h => h) ⟨Or.inl ⟨by rfl, ?_⟩, fun _ => rfl⟩ ?_
         rotate_left
         ·intro w; go_simp; with_reducible rfl
         refine wpAnyIn_done (by kernel_rfl) ?_ _
         gi_wp2
         refine bodyPost_ret (results_none rfl _ _ _) rfl ?_
         exact finF W3 hJx3
       exact AllReadyIn.nil
      exact AllReadyIn.nil
     exact AllReadyIn.nil
    exact AllReadyIn.nil
   exact AllReadyIn.nil
  ·obtain rfl : k = 2 := by omega
   gi_wp2
   go_end0
   exact ⟨⟨_, rfl⟩, .inl ⟨_, List.take_of_length_le (by show 2 ≤ 2; omega), hJs⟩⟩
theorem told_seq (wb hbx c h : Nat) (v : Value) (hc : 0 < c) (hc2 : c ≤ 32) (hh : h < 2 ^ 64) (w : World) (hb : w.heap[wb]? = some (.cells #[.int .i64 2, .int .i64 c, v] 135 (0, 0))) (hb2 : w.heap[hbx]? = some (.cells #[.int .u64 h] 43 (0, 0))) :
  SeqStopsK Fence.wide 8 Tryz.prog 187 #[.pointer (some ⟨wb, 0, none⟩), .pointer (some ⟨hbx, 0, none⟩)] (fun x : { n : Nat // n < 2 * c } => #[.int .i64 (x.1 : Nat)]) (KL [wb, hbx]) (fun ys => ys = toldPl c h hc) (fun pre => pre <+: toldPl c h hc) 2 w := fun l J Jx W hW hJ _ hY h0 =>
 told1 l wb hbx c h v hc hc2 hh J Jx hY W hJ (known hW (Nat.le_refl _) hb) (known hW (Nat.le_refl _) hb2) h0
end Go.Proofs.YtcbbenncdainfaaGreatDoor
namespace Go.Proofs.YtcbbenncdainfaaGreatDoor
open Go Go.RowKit Go.Shelf
set_option maxRecDepth 100000 in
set_option maxHeartbeats 1000000 in
theorem htogether_any (b : Nat) (x y : Int) (w : World) (h0 : w.cell? ⟨b, 0, none⟩ = some (.int .u64 x)) (h1 : w.cell? ⟨b, 1, none⟩ = some (.int .u64 y)) (hx : U64 x) (hy : U64 y) :
  Calls Tryz.prog 205 #[.slice (some ⟨b, 0, none⟩) 2 2] w fun e w' => e = .returned (.int .u64 (satI x y)) ∧ w' = w := by
 obtain ⟨x0, x1⟩ := hx
 obtain ⟨y0, y1⟩ := hy
 have t0 : decide (18446744073709551615 < x) = false := by simp; omega
 by_cases hc : 18446744073709551615 - x < y
 ·have hs : satI x y = 18446744073709551615 := by unfold satI; rw [if_pos hc]
  rw [hs]
  have t1 : decide (18446744073709551615 - x < y) = true := by simpa using hc
  go_enter Tryz.func205, Tryz.ntmps205
  go_wp2_with fail
  refine wp_loop_rounds 3 ?_
  rw [rounds_succ]
  go_wp2_with fail
  rw [rounds_succ]
  go_wp2_with fail
  go_ret
  exact ⟨rfl, rfl⟩
 ·have hs : satI x y = x + y := by unfold satI; rw [if_neg hc]
  rw [hs]
  have t1 : decide (18446744073709551615 - x < y) = false := by simpa using hc
  go_enter Tryz.func205, Tryz.ntmps205
  go_wp2_with fail
  refine wp_loop_rounds 3 ?_
  rw [rounds_succ]
  go_wp2_with fail
  rw [rounds_succ]
  go_wp2_with fail
  rw [rounds_succ]
  go_wp2_with fail
  go_ret
  exact ⟨rfl, rfl⟩
theorem mul_mod_mod (A M : Nat) : A % M * 2 % M = A * 2 % M := by rw [Nat.mul_mod (A % M) 2 M, Nat.mod_mod, ← Nat.mul_mod]
theorem bk_eq (b f v : Nat) (hb : b ≤ 63) (hf : f ≤ 3) : wrap64 (wrap64 (1 + wrap64 ((b : Int) * 2 ^ f)) + wrap64 (IntKind.u64.wrap (IntKind.u64.wrap ((v : Int) * 2 ^ (63 - b)) * 2) / 2 ^ (64 - f))) = 1 + ((b * 2 ^ f + v * 2 ^ (64 - b) % 2 ^ 64 / 2 ^ (64 - f) : Nat) : Int) := by
 have e1 : ((v : Int) * 2 ^ (63 - b)) = ((v * 2 ^ (63 - b) : Nat) : Int) := by simp
 have e2 : v * 2 ^ (64 - b) = v * 2 ^ (63 - b) * 2 := by rw [Nat.mul_assoc, ← Nat.pow_succ, show (63 - b).succ = 64 - b by omega]
 rw [e1, e2, wrap_u64_mod]
 generalize v * 2 ^ (63 - b) = A
 have e3 : ((A % 2 ^ 64 : Nat) : Int) * 2 = ((A % 2 ^ 64 * 2 : Nat) : Int) := (Int.natCast_mul _ 2).symm
 rw [e3, wrap_u64_mod, mul_mod_mod]
 have hO : A * 2 % 2 ^ 64 < 2 ^ 64 := Nat.mod_lt _ (Nat.two_pow_pos 64)
 generalize A * 2 % 2 ^ 64 = O at hO ⊢
 have hq : O / 2 ^ (64 - f) < 2 ^ f := by
  rw [Nat.div_lt_iff_lt_mul (Nat.two_pow_pos _), ← Nat.pow_add, show f + (64 - f) = 64 by omega]
  exact hO
 have e4 : (O : Int) / 2 ^ (64 - f) = ((O / 2 ^ (64 - f) : Nat) : Int) := by rw [Int.natCast_ediv, Int.natCast_pow]; rfl
 have e5 : (b : Int) * 2 ^ f = ((b * 2 ^ f : Nat) : Int) := by rw [Int.natCast_mul, Int.natCast_pow]; rfl
 rw [e4, e5]
 have h8 : 2 ^ f ≤ 2 ^ 3 := Nat.pow_le_pow_right (by omega) hf
 have h9 : b * 2 ^ f ≤ 63 * 2 ^ 3 := Nat.mul_le_mul hb h8
 generalize O / 2 ^ (64 - f) = q at hq ⊢
 generalize b * 2 ^ f = m at h9 ⊢
 generalize 2 ^ f = z at hq h8
 rw [wrap64_nat m (by omega), wrap64_nat q (by omega), show (1 + (m : Int)) = ((1 + m : Nat) : Int) by omega, wrap64_nat (1 + m) (by omega), show (((1 + m : Nat) : Int) + (q : Int)) = ((1 + m + q : Nat) : Int) by omega, wrap64_nat (1 + m + q) (by omega)]
 omega
theorem isFine_ok (f : Nat) (hf : f ≤ 3) (w : World) : Calls Tryz.prog 105 #[.int .i64 f] w fun e w' => e = .returned (.bool true) ∧ w' = w := (isFine_any f w).mono fun e w' ⟨h1, h2⟩ => ⟨by rw [h1, isFine_nat f hf], h2.symm⟩
set_option maxRecDepth 100000 in
set_option maxHeartbeats 1000000 in
theorem Bucket_any (f : Nat) (v : Nat) (w : World) (hf : f ≤ 3) (hv : v < 2 ^ 64) : Calls Tryz.prog 201 #[.int .i64 f, .int .u64 v] w fun e w' => e = .returned (.int .i64 (hiBk f v)) ∧ Below w.heap.size w w' := by
 have hib := isFine_ok f hf
 by_cases h0 : v = 0
 ·subst h0
  go_enter Tryz.func201, Tryz.ntmps201
  go_wp2_with (first | (go_at_call 105; refine (hib _).mono ?_; rintro e w' ⟨rfl, rfl⟩) | fail)
  go_ret
  exact ⟨rfl, Below.refl _ _⟩
 ·have hL := Tryz.bits_Len64 (v : Int) w (by omega) (by omega)
  rw [Int.toNat_natCast] at hL
  have hlen := bitLen_64 v hv h0
  have hlen1 := (bitLen_bd v hv h0).1
  have t0 : ((v : Int) == 0) = false := by rw [beq_eq_false_iff_ne]; omega
  have hB : hiBk f v = 1 + ((Lib.bitLen v - 1) * 2 ^ f + v * 2 ^ (64 - (Lib.bitLen v - 1)) % 2 ^ 64 / 2 ^ (64 - f) : Nat) := by
   unfold hiBk
   rw [if_neg h0, Int.toNat_natCast]
  obtain ⟨b, hb⟩ : ∃ b, Lib.bitLen v = b + 1 := ⟨Lib.bitLen v - 1, by omega⟩
  rw [hb] at hL hlen hB
  have HB := Lib.hid hB
  have HQ := Lib.hid (bk_eq b f v (by omega) hf)
  clear hB hb hlen1 h0
  go_enter Tryz.func201, Tryz.ntmps201
  go_wp2_with (first | (go_at_call 105; refine (hib _).mono ?_; rintro e w' ⟨rfl, rfl⟩) | (go_at_call 159; refine hL.mono ?_; rintro e w' ⟨rfl, rfl⟩) | fail)
  go_quiet (fail)
  go_wp2_with fail
  go_ret
  exact ⟨by rw [HB.out, Nat.add_sub_cancel, ← HQ.out]; rfl, bDr (Below.refl _ _) _⟩
end Go.Proofs.YtcbbenncdainfaaGreatDoor
namespace Go.Proofs.YtcbbenncdainfaaGreatDoor
open Go Go.RowKit Go.Shelf
def hiLeast (f : Nat) (n : Int) : Int := if n = 0 then 0 else if (f : Int) ≤ (n - 1) / 2 ^ f then bits .or .u64 (IntKind.u64.wrap (2 ^ ((n - 1) / 2 ^ f).toNat)) (IntKind.u64.wrap (IntKind.u64.wrap (bits .and .i64 (n - 1) (2 ^ f - 1)) * 2 ^ ((n - 1) / 2 ^ f - (f : Int)).toNat))
 else bits .or .u64 (2 ^ ((n - 1) / 2 ^ f).toNat) (IntKind.u64.wrap (bits .and .i64 (n - 1) (2 ^ f - 1)) / 2 ^ (f - ((n - 1) / 2 ^ f).toNat))
def BdL (lo : Int) (w : World) (e : Ending) (w' : World) : Prop := ∃ hi : Int, e = .returned (.tuple #[.int .u64 lo, .int .u64 hi, .bool true]) ∧ Below w.heap.size w w'
theorem least_fin : ∀ f ∈ [1, 2, 3], ∀ n ∈ List.range 513, boundsB ((f : Nat) : Int) ((n : Nat) : Int) = true → hiBk ((f : Nat) - 1 : Int) (hiLeast f ((n : Nat) : Int)).toNat = hiHalf ((n : Nat) : Int) ∧ (0 ≤ hiLeast f ((n : Nat) : Int) ∧ hiLeast f ((n : Nat) : Int) ≤ 18446744073709551615) := by decide +kernel
theorem bounds_le (f : Nat) (hf : f ≤ 3) (n : Int) (h : boundsB f n = true) : 0 ≤ n ∧ n ≤ 512 := by
 have hn0 : 0 ≤ n := by
  unfold boundsB at h
  split at h
  ·rename_i hc
   simp only [Bool.and_eq_true, decide_eq_true_eq] at hc
   exact hc.2
  ·cases h
 refine ⟨hn0, ?_⟩
 by_cases h0 : n = 0
 ·omega
 rw [boundsB_at _ _ (by omega) (isFine_nat f hf)] at h
 rcases (by omega : f = 0 ∨ f = 1 ∨ f = 2 ∨ f = 3) with rfl | rfl | rfl | rfl
 ·simp only [show (((0 : Nat) : Int)).toNat = 0 from rfl] at h
  by_cases hc : 64 ≤ (n - 1) / 2 ^ 0
  ·rw [if_pos hc] at h; cases h
  ·omega
 ·simp only [show (((1 : Nat) : Int)).toNat = 1 from rfl] at h
  by_cases hc : 64 ≤ (n - 1) / 2 ^ 1
  ·rw [if_pos hc] at h; cases h
  ·omega
 ·simp only [show (((2 : Nat) : Int)).toNat = 2 from rfl] at h
  by_cases hc : 64 ≤ (n - 1) / 2 ^ 2
  ·rw [if_pos hc] at h; cases h
  ·omega
 ·simp only [show (((3 : Nat) : Int)).toNat = 3 from rfl] at h
  by_cases hc : 64 ≤ (n - 1) / 2 ^ 3
  ·rw [if_pos hc] at h; cases h
  ·omega
theorem least_half (f : Nat) (h1 : 1 ≤ f) (h3 : f ≤ 3) (n : Int) (h : boundsB f n = true) : hiBk ((f : Int) - 1) (hiLeast f n).toNat = hiHalf n ∧ U64 (hiLeast f n) := by
 obtain ⟨n0, n1⟩ := bounds_le f h3 n h
 have := least_fin f (by simp; omega) n.toNat (by simp; omega)
 rw [Int.toNat_of_nonneg n0] at this
 exact this h
set_option maxHeartbeats 1000000 in
theorem bl_zero1 (w : World) : Calls Tryz.prog 106 #[.int .i64 1, .int .i64 0] w (BdL 0 w) := by
 have hF : isFineB 1 = true := rfl
 go_enter Tryz.func106, Tryz.ntmps106
 go_wp2_with fail
 refine wp_scope_once 0 rfl ?_
 go_wp2_with (go_at_call 105; refine (isFine_any _ _).mono ?_; rintro e w' ⟨rfl, rfl⟩)
 first | rw [jump_ret] | (go_step3; refine And.intro (rfl : (0 : Nat) = 0) ?_; go_wp2_with fail; go_wp2_with fail; rw [Exit.noGoto_ret]) | (go_step3; go_wp2_with fail; rw [jump_ret])
 go_ret3
 exact ⟨_, rfl, Below.refl _ _⟩
set_option maxHeartbeats 1000000 in
theorem bl_near1 (n : Int) (w : World) (h1 : 1 ≤ n) (h2 : n ≤ 9223372036854775807) (h3 : (n - 1) / 2 < 64) (h4 : 1 ≤ (n - 1) / 2) : Calls Tryz.prog 106 #[.int .i64 1, .int .i64 n] w (BdL (bits .or .u64 (IntKind.u64.wrap (2 ^ ((n - 1) / 2).toNat)) (IntKind.u64.wrap (IntKind.u64.wrap (bits .and .i64 (n - 1) 1) * 2 ^ (((n - 1) / 2).toNat - 1)))) w) := by
 have t0 : (n == 0) = false := by rw [beq_eq_false_iff_ne]; omega
 have hF : isFineB 1 = true := rfl
 go_enter Tryz.func106, Tryz.ntmps106
 go_wp2_with fail
 refine wp_scope_once 0 rfl ?_
 go_wp2_with (go_at_call 105; refine (isFine_any _ _).mono ?_; rintro e w' ⟨rfl, rfl⟩)
 go_quiet (fail)
 go_wp2_with fail
 go_quiet (fail)
 go_wp2_with fail
 first | rw [jump_ret] | (go_step3; refine And.intro (rfl : (0 : Nat) = 0) ?_; go_wp2_with fail; go_wp2_with fail; rw [Exit.noGoto_ret]) | (go_step3; go_wp2_with fail; rw [jump_ret])
 go_ret3
 exact ⟨_, rfl, bDr (bDr (Below.refl _ _) _) _⟩
set_option maxHeartbeats 1000000 in
theorem bl_low10 (n : Int) (w : World) (h1 : 1 ≤ n) (h2 : n ≤ 9223372036854775807) (h3 : (n - 1) / 2 = 0) (hc : (bits .and .i64 (bits .and .i64 (n - 1) 1) 1 == 0) = true) : Calls Tryz.prog 106 #[.int .i64 1, .int .i64 n] w (BdL (bits .or .u64 1 (IntKind.u64.wrap (bits .and .i64 (n - 1) 1) / 2)) w) := by
 have t0 : (n == 0) = false := by rw [beq_eq_false_iff_ne]; omega
 have hF : isFineB 1 = true := rfl
 go_enter Tryz.func106, Tryz.ntmps106
 go_wp2_with fail
 refine wp_scope_once 0 rfl ?_
 go_wp2_with (go_at_call 105; refine (isFine_any _ _).mono ?_; rintro e w' ⟨rfl, rfl⟩)
 go_quiet (fail)
 go_wp2_with fail
 first | rw [jump_ret] | (go_step3; refine And.intro (rfl : (0 : Nat) = 0) ?_; go_wp2_with fail; go_wp2_with fail; rw [Exit.noGoto_ret]) | (go_step3; go_wp2_with fail; rw [jump_ret])
 go_ret3
 exact ⟨_, rfl, bDr (Below.refl _ _) _⟩
set_option maxHeartbeats 1000000 in
theorem bl_zero2 (w : World) : Calls Tryz.prog 106 #[.int .i64 2, .int .i64 0] w (BdL 0 w) := by
 have hF : isFineB 2 = true := rfl
 go_enter Tryz.func106, Tryz.ntmps106
 go_wp2_with fail
 refine wp_scope_once 0 rfl ?_
 go_wp2_with (go_at_call 105; refine (isFine_any _ _).mono ?_; rintro e w' ⟨rfl, rfl⟩)
 first | rw [jump_ret] | (go_step3; refine And.intro (rfl : (0 : Nat) = 0) ?_; go_wp2_with fail; go_wp2_with fail; rw [Exit.noGoto_ret]) | (go_step3; go_wp2_with fail; rw [jump_ret])
 go_ret3
 exact ⟨_, rfl, Below.refl _ _⟩
set_option maxHeartbeats 1000000 in
theorem bl_near2 (n : Int) (w : World) (h1 : 1 ≤ n) (h2 : n ≤ 9223372036854775807) (h3 : (n - 1) / 4 < 64) (h4 : 2 ≤ (n - 1) / 4) : Calls Tryz.prog 106 #[.int .i64 2, .int .i64 n] w (BdL (bits .or .u64 (IntKind.u64.wrap (2 ^ ((n - 1) / 4).toNat)) (IntKind.u64.wrap (IntKind.u64.wrap (bits .and .i64 (n - 1) 3) * 2 ^ ((n - 1) / 4 - 2).toNat))) w) := by
 have t0 : (n == 0) = false := by rw [beq_eq_false_iff_ne]; omega
 have hF : isFineB 2 = true := rfl
 go_enter Tryz.func106, Tryz.ntmps106
 go_wp2_with fail
 refine wp_scope_once 0 rfl ?_
 go_wp2_with (go_at_call 105; refine (isFine_any _ _).mono ?_; rintro e w' ⟨rfl, rfl⟩)
 go_quiet (fail)
 go_wp2_with fail
 go_quiet (fail)
 go_wp2_with fail
 first | rw [jump_ret] | (go_step3; refine And.intro (rfl : (0 : Nat) = 0) ?_; go_wp2_with fail; go_wp2_with fail; rw [Exit.noGoto_ret]) | (go_step3; go_wp2_with fail; rw [jump_ret])
 go_ret3
 exact ⟨_, rfl, bDr (bDr (Below.refl _ _) _) _⟩
set_option maxHeartbeats 1000000 in
theorem bl_low20 (n : Int) (w : World) (h1 : 1 ≤ n) (h2 : n ≤ 9223372036854775807) (h3 : (n - 1) / 4 = 0) (hc : (bits .and .i64 (bits .and .i64 (n - 1) 3) 3 == 0) = true) : Calls Tryz.prog 106 #[.int .i64 2, .int .i64 n] w (BdL (bits .or .u64 1 (IntKind.u64.wrap (bits .and .i64 (n - 1) 3) / 4)) w) := by
 have t0 : (n == 0) = false := by rw [beq_eq_false_iff_ne]; omega
 have hF : isFineB 2 = true := rfl
 go_enter Tryz.func106, Tryz.ntmps106
 go_wp2_with fail
 refine wp_scope_once 0 rfl ?_
 go_wp2_with (go_at_call 105; refine (isFine_any _ _).mono ?_; rintro e w' ⟨rfl, rfl⟩)
 go_quiet (fail)
 go_wp2_with fail
 first | rw [jump_ret] | (go_step3; refine And.intro (rfl : (0 : Nat) = 0) ?_; go_wp2_with fail; go_wp2_with fail; rw [Exit.noGoto_ret]) | (go_step3; go_wp2_with fail; rw [jump_ret])
 go_ret3
 exact ⟨_, rfl, bDr (Below.refl _ _) _⟩
set_option maxHeartbeats 1000000 in
theorem bl_low21 (n : Int) (w : World) (h1 : 1 ≤ n) (h2 : n ≤ 9223372036854775807) (h3 : (n - 1) / 4 = 1) (hc : (bits .and .i64 (bits .and .i64 (n - 1) 3) 1 == 0) = true) : Calls Tryz.prog 106 #[.int .i64 2, .int .i64 n] w (BdL (bits .or .u64 2 (IntKind.u64.wrap (bits .and .i64 (n - 1) 3) / 2)) w) := by
 have t0 : (n == 0) = false := by rw [beq_eq_false_iff_ne]; omega
 have hF : isFineB 2 = true := rfl
 go_enter Tryz.func106, Tryz.ntmps106
 go_wp2_with fail
 refine wp_scope_once 0 rfl ?_
 go_wp2_with (go_at_call 105; refine (isFine_any _ _).mono ?_; rintro e w' ⟨rfl, rfl⟩)
 go_quiet (fail)
 go_wp2_with fail
 first | rw [jump_ret] | (go_step3; refine And.intro (rfl : (0 : Nat) = 0) ?_; go_wp2_with fail; go_wp2_with fail; rw [Exit.noGoto_ret]) | (go_step3; go_wp2_with fail; rw [jump_ret])
 go_ret3
 exact ⟨_, rfl, bDr (Below.refl _ _) _⟩
set_option maxHeartbeats 1000000 in
theorem bl_zero3 (w : World) : Calls Tryz.prog 106 #[.int .i64 3, .int .i64 0] w (BdL 0 w) := by
 have hF : isFineB 3 = true := rfl
 go_enter Tryz.func106, Tryz.ntmps106
 go_wp2_with fail
 refine wp_scope_once 0 rfl ?_
 go_wp2_with (go_at_call 105; refine (isFine_any _ _).mono ?_; rintro e w' ⟨rfl, rfl⟩)
 first | rw [jump_ret] | (go_step3; refine And.intro (rfl : (0 : Nat) = 0) ?_; go_wp2_with fail; go_wp2_with fail; rw [Exit.noGoto_ret]) | (go_step3; go_wp2_with fail; rw [jump_ret])
 go_ret3
 exact ⟨_, rfl, Below.refl _ _⟩
set_option maxHeartbeats 1000000 in
theorem bl_near3 (n : Int) (w : World) (h1 : 1 ≤ n) (h2 : n ≤ 9223372036854775807) (h3 : (n - 1) / 8 < 64) (h4 : 3 ≤ (n - 1) / 8) : Calls Tryz.prog 106 #[.int .i64 3, .int .i64 n] w (BdL (bits .or .u64 (IntKind.u64.wrap (2 ^ ((n - 1) / 8).toNat)) (IntKind.u64.wrap (IntKind.u64.wrap (bits .and .i64 (n - 1) 7) * 2 ^ ((n - 1) / 8 - 3).toNat))) w) := by
 have t0 : (n == 0) = false := by rw [beq_eq_false_iff_ne]; omega
 have hF : isFineB 3 = true := rfl
 go_enter Tryz.func106, Tryz.ntmps106
 go_wp2_with fail
 refine wp_scope_once 0 rfl ?_
 go_wp2_with (go_at_call 105; refine (isFine_any _ _).mono ?_; rintro e w' ⟨rfl, rfl⟩)
 go_quiet (fail)
 go_wp2_with fail
 go_quiet (fail)
 go_wp2_with fail
 first | rw [jump_ret] | (go_step3; refine And.intro (rfl : (0 : Nat) = 0) ?_; go_wp2_with fail; go_wp2_with fail; rw [Exit.noGoto_ret]) | (go_step3; go_wp2_with fail; rw [jump_ret])
 go_ret3
 exact ⟨_, rfl, bDr (bDr (Below.refl _ _) _) _⟩
set_option maxHeartbeats 1000000 in
theorem bl_low30 (n : Int) (w : World) (h1 : 1 ≤ n) (h2 : n ≤ 9223372036854775807) (h3 : (n - 1) / 8 = 0) (hc : (bits .and .i64 (bits .and .i64 (n - 1) 7) 7 == 0) = true) : Calls Tryz.prog 106 #[.int .i64 3, .int .i64 n] w (BdL (bits .or .u64 1 (IntKind.u64.wrap (bits .and .i64 (n - 1) 7) / 8)) w) := by
 have t0 : (n == 0) = false := by rw [beq_eq_false_iff_ne]; omega
 have hF : isFineB 3 = true := rfl
 go_enter Tryz.func106, Tryz.ntmps106
 go_wp2_with fail
 refine wp_scope_once 0 rfl ?_
 go_wp2_with (go_at_call 105; refine (isFine_any _ _).mono ?_; rintro e w' ⟨rfl, rfl⟩)
 go_quiet (fail)
 go_wp2_with fail
 first | rw [jump_ret] | (go_step3; refine And.intro (rfl : (0 : Nat) = 0) ?_; go_wp2_with fail; go_wp2_with fail; rw [Exit.noGoto_ret]) | (go_step3; go_wp2_with fail; rw [jump_ret])
 go_ret3
 exact ⟨_, rfl, bDr (Below.refl _ _) _⟩
set_option maxHeartbeats 1000000 in
theorem bl_low31 (n : Int) (w : World) (h1 : 1 ≤ n) (h2 : n ≤ 9223372036854775807) (h3 : (n - 1) / 8 = 1) (hc : (bits .and .i64 (bits .and .i64 (n - 1) 7) 3 == 0) = true) : Calls Tryz.prog 106 #[.int .i64 3, .int .i64 n] w (BdL (bits .or .u64 2 (IntKind.u64.wrap (bits .and .i64 (n - 1) 7) / 4)) w) := by
 have t0 : (n == 0) = false := by rw [beq_eq_false_iff_ne]; omega
 have hF : isFineB 3 = true := rfl
 go_enter Tryz.func106, Tryz.ntmps106
 go_wp2_with fail
 refine wp_scope_once 0 rfl ?_
 go_wp2_with (go_at_call 105; refine (isFine_any _ _).mono ?_; rintro e w' ⟨rfl, rfl⟩)
 go_quiet (fail)
 go_wp2_with fail
 first | rw [jump_ret] | (go_step3; refine And.intro (rfl : (0 : Nat) = 0) ?_; go_wp2_with fail; go_wp2_with fail; rw [Exit.noGoto_ret]) | (go_step3; go_wp2_with fail; rw [jump_ret])
 go_ret3
 exact ⟨_, rfl, bDr (Below.refl _ _) _⟩
set_option maxHeartbeats 1000000 in
theorem bl_low32 (n : Int) (w : World) (h1 : 1 ≤ n) (h2 : n ≤ 9223372036854775807) (h3 : (n - 1) / 8 = 2) (hc : (bits .and .i64 (bits .and .i64 (n - 1) 7) 1 == 0) = true) : Calls Tryz.prog 106 #[.int .i64 3, .int .i64 n] w (BdL (bits .or .u64 4 (IntKind.u64.wrap (bits .and .i64 (n - 1) 7) / 2)) w) := by
 have t0 : (n == 0) = false := by rw [beq_eq_false_iff_ne]; omega
 have hF : isFineB 3 = true := rfl
 go_enter Tryz.func106, Tryz.ntmps106
 go_wp2_with fail
 refine wp_scope_once 0 rfl ?_
 go_wp2_with (go_at_call 105; refine (isFine_any _ _).mono ?_; rintro e w' ⟨rfl, rfl⟩)
 go_quiet (fail)
 go_wp2_with fail
 first | rw [jump_ret] | (go_step3; refine And.intro (rfl : (0 : Nat) = 0) ?_; go_wp2_with fail; go_wp2_with fail; rw [Exit.noGoto_ret]) | (go_step3; go_wp2_with fail; rw [jump_ret])
 go_ret3
 exact ⟨_, rfl, bDr (Below.refl _ _) _⟩
theorem Bounds_least (f : Nat) (h1 : 1 ≤ f) (hf : f ≤ 3) (n : Int) (w : World) (h : boundsB f n = true) : Calls Tryz.prog 106 #[.int .i64 f, .int .i64 n] w (BdL (hiLeast f n) w) := by
 obtain ⟨n0, n1⟩ := bounds_le f hf n h
 by_cases hz : n = 0
 ·subst hz
  rcases (by omega : f = 1 ∨ f = 2 ∨ f = 3) with rfl | rfl | rfl
  ·exact bl_zero1 w
  ·exact bl_zero2 w
  ·exact bl_zero3 w
 rw [boundsB_at _ _ (by omega) (isFine_nat f hf)] at h
 unfold hiLeast
 rw [if_neg hz]
 rcases (by omega : f = 1 ∨ f = 2 ∨ f = 3) with rfl | rfl | rfl
 ·simp only [show ((1 : Int)).toNat = 1 from rfl, show ((2 : Int) ^ 1) = 2 from rfl, show (((1 : Nat) : Int)) = 1 from rfl, Int.reduceSub] at h ⊢
  by_cases hc : 64 ≤ (n - 1) / 2
  ·rw [if_pos hc] at h; cases h
  rw [if_neg hc] at h
  by_cases h2 : (1 : Int) ≤ (n - 1) / 2
  ·rw [if_pos h2]; rw [show ((n - 1) / 2 - 1).toNat = ((n - 1) / 2).toNat - 1 by omega]; exact bl_near1 n w (by omega) (by omega) (by omega) (by omega)
  rw [if_neg h2] at h ⊢
  have e : (n - 1) / 2 = 0 := by omega
  rw [e] at h ⊢
  exact bl_low10 n w (by omega) (by omega) e h
 ·simp only [show ((2 : Int)).toNat = 2 from rfl, show ((2 : Int) ^ 2) = 4 from rfl, show (((2 : Nat) : Int)) = 2 from rfl, Int.reduceSub] at h ⊢
  by_cases hc : 64 ≤ (n - 1) / 4
  ·rw [if_pos hc] at h; cases h
  rw [if_neg hc] at h
  by_cases h2 : (2 : Int) ≤ (n - 1) / 4
  ·rw [if_pos h2]; exact bl_near2 n w (by omega) (by omega) (by omega) (by omega)
  rw [if_neg h2] at h ⊢
  rcases (by omega : (n - 1) / 4 = 0 ∨ (n - 1) / 4 = 1) with e | e <;> rw [e] at h ⊢
  ·exact bl_low20 n w (by omega) (by omega) e h
  ·exact bl_low21 n w (by omega) (by omega) e h
 ·simp only [show ((3 : Int)).toNat = 3 from rfl, show ((2 : Int) ^ 3) = 8 from rfl, show (((3 : Nat) : Int)) = 3 from rfl, Int.reduceSub] at h ⊢
  by_cases hc : 64 ≤ (n - 1) / 8
  ·rw [if_pos hc] at h; cases h
  rw [if_neg hc] at h
  by_cases h2 : (3 : Int) ≤ (n - 1) / 8
  ·rw [if_pos h2]; exact bl_near3 n w (by omega) (by omega) (by omega) (by omega)
  rw [if_neg h2] at h ⊢
  rcases (by omega : (n - 1) / 8 = 0 ∨ (n - 1) / 8 = 1 ∨ (n - 1) / 8 = 2) with e | e | e <;> rw [e] at h ⊢
  ·exact bl_low30 n w (by omega) (by omega) e h
  ·exact bl_low31 n w (by omega) (by omega) e h
  ·exact bl_low32 n w (by omega) (by omega) e h
end Go.Proofs.YtcbbenncdainfaaGreatDoor
namespace Go.Proofs.YtcbbenncdainfaaGreatDoor
open Go Go.RowKit
section
variable {F : Fence} {n : Nat} {P : Program} {ops : Array Oper} {Q : Exit → Act → World → Prop} {md : Region.Mode} {l : Nat}
theorem wpInO_round {o : Oper} {K : Act → World → Prop} {a : Act} {w : World} (hro : F.round = none) (hd : ∀ c, o.op ≠ .defer c) (h : o.wpIn F n P a w K Q) : o.wpIn (F.inRound l) n P a w K Q := by
 unfold Oper.wpIn at h ⊢
 refine ⟨h.1, ?_⟩
 have h2 := h.2
 rw [hro, Oper.semAt_none] at h2
 rw [Fence.inRound_round, Oper.semAt_some _ _ _ hd]
 generalize (execOp a.eval o).run P w = r at h2 ⊢
 cases r with
 | ok x w' => cases x <;> exact h2
 | halt x w' => cases x <;> exact h2
theorem wpOpIn_round {i : Nat} {K : Act → World → Prop} {a : Act} {w : World} (hro : F.round = none) (hd : ∀ (i : Nat) (o : Oper), ops[i]? = some o → ∀ c, o.op ≠ .defer c) (h : wpOpIn F n P ops Q i K a w) : wpOpIn (F.inRound l) n P ops Q i K a w := by
 unfold wpOpIn at h ⊢
 cases ho : ops[i]? with
 | none => simpa only [ho] using h
 | some o =>
  simp only [ho] at h ⊢
  split
  ·rename_i hw; rw [if_pos hw] at h; exact wpInO_round hro (hd i o ho) h
  ·rename_i hw; rw [if_neg hw] at h; exact h
theorem wpAnyIn_round (hro : F.round = none) (hd : ∀ (i : Nat) (o : Oper), ops[i]? = some o → ∀ c, o.op ≠ .defer c) (fuel : Nat) : ∀ (listed : Array Bool) (a : Act) (w : World), wpAnyIn F n P md ops Q fuel listed a w → wpAnyIn (F.inRound l) n P md ops Q fuel listed a w := by
 induction fuel with
 | zero => intro listed a w h; exact h
 | succ fuel ih => intro listed a w h; exact ⟨h.1, fun i hi => wpOpIn_round hro hd (wpOpIn_mono (fun a' w' h' => ih (listed.setIfInBounds i true) a' w' h') (h.2 i hi))⟩
def noDefers (ops : Array Oper) : Bool := ops.toList.all fun o => match o.op with | .defer _ => false | _ => true
theorem noDefers_spec (h : noDefers ops = true) : ∀ (i : Nat) (o : Oper), ops[i]? = some o → ∀ c, o.op ≠ .defer c := by
 intro i o ho c hc
 rw [noDefers, List.all_eq_true] at h
 have h1 := h o (by rw [← Array.getElem?_toList] at ho; exact List.mem_of_getElem? ho)
 rw [hc] at h1
 cases h1
theorem wpIn_region_round {id : Nat} {a : Act} {w : World} (hro : F.round = none) (hm : P.follows .mixedOrders = true) (hd : noDefers ops = true)
  (h : wpAnyIn F n P .any ops Q ops.size (Array.replicate ops.size false) a w.drew) : (Code.region id ops true).wpIn (F.inRound l) n P Q a w :=
 wpIn_region_any hm (wpAnyIn_round hro (noDefers_spec hd) _ _ _ _ h)
end
end Go.Proofs.YtcbbenncdainfaaGreatDoor
