/- Package cms: together, col, blank, the iterators. -/
import Derived.Test.YtmkefodaibmkhaaGreatDoorZHF
import Derived.Test.YtmkefodaibmkhaaGreatDoorZJ1
namespace Go.Proofs.YtmkefodaibmkhaaGreatDoor
open Go Go.RowKit Go.Shelf
attribute [local go_sem] Oper.semAt_some

set_option maxRecDepth 100000 in
set_option maxHeartbeats 1000000 in
theorem ctogether_any (b : Nat) (x y : Int) (w : World) (h0 : w.cell? ⟨b, 0, none⟩ = some (.int .u64 x)) (h1 : w.cell? ⟨b, 1, none⟩ = some (.int .u64 y)) (hx : U64 x) (hy : U64 y) :
    Calls Tryz.prog 218 #[.slice (some ⟨b, 0, none⟩) 2 2] w fun e w' => e = .returned (.int .u64 (satI x y)) ∧ w' = w := by
  obtain ⟨x0, x1⟩ := hx
  obtain ⟨y0, y1⟩ := hy
  have t0 : decide (18446744073709551615 < x) = false := by simp; omega
  by_cases hc : 18446744073709551615 - x < y
  · have hs : satI x y = 18446744073709551615 := by unfold satI; rw [if_pos hc]
    rw [hs]
    have t1 : decide (18446744073709551615 - x < y) = true := by simpa using hc
    go_enter Tryz.func218, Tryz.ntmps218
    go_wp2_with fail
    refine wp_loop_rounds 3 ?_
    rw [rounds_succ]
    go_wp2_with fail
    rw [rounds_succ]
    go_wp2_with fail
    go_ret
    exact ⟨rfl, rfl⟩
  · have hs : satI x y = x + y := by unfold satI; rw [if_neg hc]
    rw [hs]
    have t1 : decide (18446744073709551615 - x < y) = false := by simpa using hc
    go_enter Tryz.func218, Tryz.ntmps218
    go_wp2_with fail
    refine wp_loop_rounds 3 ?_
    rw [rounds_succ]
    go_wp2_with fail
    rw [rounds_succ]
    go_wp2_with fail
    rw [rounds_succ]
    go_wp2_with fail
    go_ret
    exact ⟨rfl, rfl⟩
theorem u64_small (n : Int) (h0 : 0 ≤ n) (h1 : n < 18446744073709551616) : IntKind.u64.wrap n = n := by simp [IntKind.wrap, IntKind.bits, IntKind.signed]; omega
theorem col_eq (row h : Nat) (c : Int) (hr : row ≤ 4) (hh : h < 2 ^ 64) (hc : 0 < c) (hc2 : c ≤ 100) :
    wrap64 ((IntKind.u64.wrap ((h : Int) / 4294967296 + IntKind.u64.wrap ((row : Int) * ((h : Int) % 4294967296)))).tmod c) = ((h / 4294967296 + row * (h % 4294967296) : Nat) : Int) % c := by
  have e1 : ((row : Int) * ((h : Int) % 4294967296)) = ((row * (h % 4294967296) : Nat) : Int) := by simp
  have b1 : row * (h % 4294967296) < 4 * 4294967296 + 1 := by
    have := Nat.mul_le_mul hr (show h % 4294967296 ≤ 4294967295 by omega)
    omega
  rw [e1]
  generalize row * (h % 4294967296) = m at b1 ⊢
  rw [u64_small (m : Int) (by omega) (by omega), u64_small _ (by omega) (by omega), Int.tmod_eq_emod_of_nonneg (by omega)]
  have e2 : (h : Int) / 4294967296 + (m : Int) = ((h / 4294967296 + m : Nat) : Int) := by omega
  rw [e2]
  generalize h / 4294967296 + m = q
  have h3 := Int.emod_nonneg (q : Int) (show c ≠ 0 by omega)
  have h4 := Int.emod_lt_of_pos (q : Int) hc
  unfold wrap64
  omega
theorem ccol_any (r c : Int) (v : Value) (row : Nat) (h : Nat) (w : World) (hr : row ≤ 4) (hh : h < 2 ^ 64) (hc : 0 < c) (hc2 : c ≤ 100) :
    Calls Tryz.prog 165 #[.agg #[.int .i64 r, .int .i64 c, v], .int .i64 row, .int .u64 h] w fun e w' => e = .returned (.int .i64 (((h / 4294967296 + row * (h % 4294967296) : Nat) : Int) % c)) ∧ w' = w.alloc (.cells #[.int .i64 r, .int .i64 c, v] 165) := by
  have HE := Lib.hid (col_eq row h c hr hh hc hc2)
  go_enter Tryz.func165, Tryz.ntmps165
  go_wp2_with fail
  go_ret
  exact ⟨by rw [← HE.out]; rfl, rfl⟩
theorem told_any (r c : Int) (v : Value) (h : Int) (w : World) :
    Calls Tryz.prog 216 #[.agg #[.int .i64 r, .int .i64 c, v], .int .u64 h] w fun e w' => e = .returned (.func (.func 222) #[] #[.pointer (some ⟨w.heap.size, 0, none⟩), .pointer (some ⟨w.heap.size + 1, 0, none⟩)]) ∧ w' = (w.alloc (.cells #[.int .i64 r, .int .i64 c, v] 165)).alloc (.cells #[.int .u64 h] 50) := by
  go_enter Tryz.func216, Tryz.ntmps216
  go_wp2
  go_ret
  exact ⟨rfl, rfl⟩
theorem all_any (r c : Int) (v : Value) (w : World) :
    Calls Tryz.prog 219 #[.agg #[.int .i64 r, .int .i64 c, v]] w fun e w' => e = .returned (.func (.func 223) #[] #[.pointer (some ⟨w.heap.size, 0, none⟩)]) ∧ w' = w.alloc (.cells #[.int .i64 r, .int .i64 c, v] 165) := by
  go_enter Tryz.func219, Tryz.ntmps219
  go_wp2
  go_ret
  exact ⟨rfl, rfl⟩
set_option maxRecDepth 100000 in
set_option maxHeartbeats 1000000 in
theorem all1 (l wb : Nat) (r c : Int) (sa : Option Addr) (N cap : Nat) (hN : N ≤ 1000) (J Jx : List (Fin N) → World → Prop)
    (hY : ∀ pre x W, J pre W → pre.length < N → YieldAt Fence.wide 7 Tryz.prog l #[.int .i64 (x.1 : Nat)] W fun e W' =>
      (e = .returned (.bool true) ∧ J (pre ++ [x]) W' ∧ KL [wb] W W') ∨ (e = .returned (.bool false) ∧ Jx (pre ++ [x]) W'))
    (W : World) (hb : W.heap[wb]? = some (.cells #[.int .i64 r, .int .i64 c, .slice sa N cap] 165 (0, 0))) (h0 : J [] W) :
    CallsIn Fence.wide 8 Tryz.prog 223 #[.func (.yield l) #[] #[], .pointer (some ⟨wb, 0, none⟩)] W fun e W' => (∃ v, e = .returned v) ∧
      ((∃ ys, ys = List.finRange N ∧ J ys W') ∨ (∃ pre, pre <+: List.finRange N ∧ Jx pre W')) := by
  refine callsIn_of_wp Tryz.func223 rfl trivial ?_ rfl
  simp only [Tryz.ntmps223, List.size_toArray, List.length_cons, List.length_nil, Nat.reduceAdd, Nat.reduceSub, Array.replicate_succ, Array.replicate_zero, List.push_toArray, List.append_toArray, List.nil_append, List.cons_append]
  have c2 : W.cell? ⟨wb, 2, none⟩ = some (.slice sa N cap) := cell_of_cells hb 2
  gi_wp2
  gi_loopw [3, 8] (fun _ i wr => ∃ k : Nat, k ≤ N ∧ i = .int .i64 k ∧ J ((List.finRange N).take k) wr ∧ KL [wb] W wr) (fun _ i _ => N - (intOf i).toNat)
  case atStart => exact ⟨0, Nat.zero_le _, rfl, h0, KL.refl _ _⟩
  case round =>
    obtain ⟨k, hk, rfl, hJs, hnx⟩ := hrel
    by_cases hlt : k < N
    · have hx : (List.finRange N)[k]? = some ⟨k, hlt⟩ := by rw [List.getElem?_eq_getElem (by simpa using hlt)]; simp
      obtain ⟨fn, tmps, assign, body, hy, hR⟩ := hY _ ⟨k, hlt⟩ _ hJs (by rw [List.length_take, List.length_finRange]; omega)
      have HX := Lib.hid hx
      clear hx
      gi_wp2
      refine hR.mono ?_
      rintro e W3 (⟨rfl, hJ3, hk3⟩ | ⟨rfl, hJx3⟩)
      · gi_wp2
        go_roundw
        case rel => exact ⟨k + 1, by omega, by simp, by rw [take_snoc' HX.out]; exact hJ3, hnx.trans hk3⟩
        case measure => simp [intOf]; omega
      · gi_wp2
        refine bodyPost_ret (results_none rfl _ _ _) rfl ?_
        exact ⟨⟨_, rfl⟩, .inr ⟨_, by have h := List.take_prefix (k + 1) (List.finRange N); rwa [take_snoc' HX.out] at h, hJx3⟩⟩
    · obtain rfl : k = N := by omega
      gi_wp2
      go_end0
      exact ⟨⟨_, rfl⟩, .inl ⟨_, List.take_of_length_le (by simp), hJs⟩⟩
theorem all_seq (wb : Nat) (r c : Int) (sa : Option Addr) (N cap : Nat) (hN : N ≤ 1000) (w : World) (hb : w.heap[wb]? = some (.cells #[.int .i64 r, .int .i64 c, .slice sa N cap] 165 (0, 0))) :
    SeqStopsK Fence.wide 8 Tryz.prog 223 #[.pointer (some ⟨wb, 0, none⟩)] (fun x : Fin N => #[.int .i64 (x.1 : Nat)]) (KL [wb]) (fun ys => ys = List.finRange N) (fun pre => pre <+: List.finRange N) N w := fun l J Jx W hW _ _ hY h0 =>
  all1 l wb r c sa N cap hN J Jx hY W (known hW (Nat.le_refl _) hb) h0
theorem cmPl_lt (c row h : Nat) (hc : 0 < c) (hr : row < 2) : cmPl c row h < 2 * c := by
  unfold cmPl
  have := Nat.mod_lt (h / 4294967296 + row * (h % 4294967296)) hc
  rcases (by omega : row = 0 ∨ row = 1) with rfl | rfl <;> omega
/-- The places that a number tells. -/
def toldPl (c h : Nat) (hc : 0 < c) : List { n : Nat // n < 2 * c } := [⟨cmPl c 0 h, cmPl_lt c 0 h hc (by omega)⟩, ⟨cmPl c 1 h, cmPl_lt c 1 h hc (by omega)⟩]
theorem toldPl_at (c h k : Nat) (hc : 0 < c) (hk : k < 2) : (toldPl c h hc)[k]? = some ⟨cmPl c k h, cmPl_lt c k h hc hk⟩ := by
  rcases (by omega : k = 0 ∨ k = 1) with rfl | rfl <;> rfl
set_option maxRecDepth 100000 in
set_option maxHeartbeats 8000000 in
theorem told1 (l wb hbx : Nat) (c h : Nat) (v : Value) (hc : 0 < c) (hc2 : c ≤ 32) (hh : h < 2 ^ 64) (J Jx : List { n : Nat // n < 2 * c } → World → Prop)
    (hY : ∀ pre x W, J pre W → pre.length < 2 → YieldAt Fence.wide 7 Tryz.prog l #[.int .i64 (x.1 : Nat)] W fun e W' =>
      (e = .returned (.bool true) ∧ J (pre ++ [x]) W' ∧ KL [wb, hbx] W W') ∨ (e = .returned (.bool false) ∧ Jx (pre ++ [x]) W'))
    (W : World) (hJ : AbidesFrom W.heap.size J) (hb : W.heap[wb]? = some (.cells #[.int .i64 2, .int .i64 c, v] 165 (0, 0))) (hb2 : W.heap[hbx]? = some (.cells #[.int .u64 h] 50 (0, 0))) (h0 : J [] W) :
    CallsIn Fence.wide 8 Tryz.prog 222 #[.func (.yield l) #[] #[], .pointer (some ⟨wb, 0, none⟩), .pointer (some ⟨hbx, 0, none⟩)] W fun e W' => (∃ v, e = .returned v) ∧
      ((∃ ys, ys = toldPl c h hc ∧ J ys W') ∨ (∃ pre, pre <+: toldPl c h hc ∧ Jx pre W')) := by
  refine callsIn_of_wp Tryz.func222 rfl trivial ?_ rfl
  simp only [Tryz.ntmps222, List.size_toArray, List.length_cons, List.length_nil, Nat.reduceAdd, Nat.reduceSub, Array.replicate_succ, Array.replicate_zero, List.push_toArray, List.append_toArray, List.nil_append, List.cons_append]
  have c0 : W.cell? ⟨wb, 0, none⟩ = some (.int .i64 2) := cell_of_cells hb 0
  gi_wp2
  gi_loopw [4, 8] (fun _ i wr => ∃ k : Nat, k ≤ 2 ∧ i = .int .i64 k ∧ J ((toldPl c h hc).take k) wr ∧ KL [wb, hbx] W wr) (fun _ i _ => 2 - (intOf i).toNat)
  case atStart => exact ⟨0, by omega, rfl, h0, KL.refl _ _⟩
  case round =>
    obtain ⟨k, hk, rfl, hJs, hnx⟩ := hrel
    by_cases hlt : k < 2
    · have hx := toldPl_at c h k hc hlt
      have hq := Nat.mod_lt (h / 4294967296 + k * (h % 4294967296)) hc
      have HC : Hid (∀ W, Calls Tryz.prog 165 #[.agg #[.int .i64 2, .int .i64 c, v], .int .i64 k, .int .u64 h] W fun e w' => e = .returned (.int .i64 (((h / 4294967296 + k * (h % 4294967296)) % c : Nat) : Int)) ∧ w' = W.alloc (.cells #[.int .i64 2, .int .i64 c, v] 165)) := fun W => by
        have := ccol_any 2 c v k h W (by omega) hh (by omega) (by omega)
        rw [← Int.natCast_emod] at this
        exact this
      obtain ⟨W5, hW5⟩ : ∃ W5, wr.drew.alloc (.cells #[.int .i64 2, .int .i64 c, v] 165) = W5 := ⟨_, rfl⟩
      have hG5 : wr.grownBy W5 none := by rw [← hW5]; exact (gb_drew (World.grownBy.refl wr none)).trans (World.grownBy_alloc _ _ _)
      have hJ5 := hJ _ _ _ none hJs hG5 (fun r e => by cases e)
      obtain ⟨fn, tmps, assign, body, hy, hR⟩ := hY _ ⟨cmPl c k h, cmPl_lt c k h hc hlt⟩ W5 hJ5 (by rw [List.length_take]; show min k 2 < 2; omega)
      have hX := hnx wb (by simp) _ hb
      have hX2 := hnx hbx (by simp) _ hb2
      have g0 : wr.drew.cell? ⟨wb, 0, none⟩ = some (.int .i64 2) := cell_of_cells (W := wr) hX 0
      have g1 : wr.drew.cell? ⟨wb, 1, none⟩ = some (.int .i64 c) := cell_of_cells (W := wr) hX 1
      have g2 : wr.drew.cell? ⟨wb, 2, none⟩ = some v := cell_of_cells (W := wr) hX 2
      have g3 : wr.drew.cell? ⟨hbx, 0, none⟩ = some (.int .u64 h) := cell_of_cells (W := wr) hX2 0
      have hX5 : W5.heap[wb]? = _ := (hG5.block wb (Array.getElem?_eq_some_iff.1 hX).1 (by simp)).trans hX
      have hX25 : W5.heap[hbx]? = _ := (hG5.block hbx (Array.getElem?_eq_some_iff.1 hX2).1 (by simp)).trans hX2
      have k1 : W5.cell? ⟨wb, 1, none⟩ = some (.int .i64 c) := cell_of_cells hX5 1
      have k0 : W5.cell? ⟨wb, 0, none⟩ = some (.int .i64 2) := cell_of_cells hX5 0
      have HW5 := Lib.hid hW5
      have hk5 : KL [wb, hbx] wr W5 := KL.grown hG5 (fun b _ => by simp)
      have finT : ∀ W3, J ((toldPl c h hc).take k ++ [⟨cmPl c k h, cmPl_lt c k h hc hlt⟩]) W3 → KL [wb, hbx] W5 W3 → ∃ k' : Nat, k' ≤ 2 ∧ Value.int .i64 ((k : Int) + 1) = .int .i64 k' ∧ J ((toldPl c h hc).take k') W3 ∧ KL [wb, hbx] W W3 := fun W3 hJ3 hk3 => ⟨k + 1, by omega, by simp, by rw [take_snoc' hx]; exact hJ3, (hnx.trans hk5).trans hk3⟩
      have finF : ∀ W3, Jx ((toldPl c h hc).take k ++ [⟨cmPl c k h, cmPl_lt c k h hc hlt⟩]) W3 → (∃ v, Ending.returned (.tuple #[]) = .returned v) ∧ ((∃ ys, ys = toldPl c h hc ∧ J ys W3) ∨ (∃ pre, pre <+: toldPl c h hc ∧ Jx pre W3)) := fun W3 hJx3 => ⟨⟨_, rfl⟩, .inr ⟨_, by have h := List.take_prefix (k + 1) (toldPl c h hc); rwa [take_snoc' hx] at h, hJx3⟩⟩
      have hpl : ((cmPl c k h : Nat) : Int) = ((k * c : Nat) : Int) + (((h / 4294967296 + k * (h % 4294967296)) % c : Nat) : Int) := by unfold cmPl; omega
      rw [hpl] at hy
      have hm1 : k * c ≤ 1 * c := Nat.mul_le_mul_right c (by omega)
      have hm : ((k : Int) * (c : Int)) = ((k * c : Nat) : Int) := by simp
      generalize (h / 4294967296 + k * (h % 4294967296)) % c = q at hq HC hy
      generalize k * c = m at hm hm1 hy
      have hE : IntKind.i64.wrap (IntKind.i64.wrap ((k : Int) * (c : Int)) + (q : Int)) = (m : Int) + (q : Int) := by rw [hm, IntWalk.i64_in (m : Int) (by omega), IntWalk.i64_in _ (by omega)]
      rw [← hE] at hy
      clear hW5 hx hX hX2 hX5 hX25 hG5 hJ5 hpl hm hE
      gi_wp2
      refine wpIn_region_any (by kernel_rfl) ?_
      change wpAnyIn _ _ _ _ _ _ _ _ _ (World.drew _)
      refine wpAnyIn_take (i := 0) (v := ?_) rfl rfl (by kernel_rfl) (by kernel_rfl) (by kernel_rfl) (fun _ _ _ h => h) ⟨Or.inl ⟨by rfl, ?_⟩, fun _ => rfl⟩ ?_
      rotate_left
      · intro w; go_simp; with_reducible rfl
      refine wpAnyIn_take (i := 1) (v := ?_) rfl rfl (by kernel_rfl) (by kernel_rfl) (by kernel_rfl) (fun _ _ _ h => h) ⟨Or.inl ⟨by rfl, ?_⟩, fun _ => rfl⟩ ?_
      rotate_left
      · intro w; go_simp; with_reducible rfl
      refine wpAnyIn_take (i := 2) (v := ?_) rfl rfl (by kernel_rfl) (by kernel_rfl) (by kernel_rfl) (fun _ _ _ h => h) ⟨Or.inl ⟨by rfl, ?_⟩, fun _ => rfl⟩ ?_
      rotate_left
      · intro w; go_simp; with_reducible rfl
      refine wpAnyIn_take (i := 3) (v := ?_) rfl rfl (by kernel_rfl) (by kernel_rfl) (by kernel_rfl) (fun _ _ _ h => h) ⟨Or.inl ⟨by rfl, ?_⟩, fun _ => rfl⟩ ?_
      rotate_left
      · intro w; go_simp; with_reducible rfl
      refine wpAnyIn_take (i := 7) (v := ?_) rfl rfl (by kernel_rfl) (by kernel_rfl) (by kernel_rfl) (fun _ _ _ h => h) ⟨Or.inl ⟨by rfl, ?_⟩, fun _ => rfl⟩ ?_
      rotate_left
      · intro w; go_simp; with_reducible rfl
      refine wpAnyIn_ready (rs := [4, 6, 8]) (by kernel_rfl) (by simp) ?_
      refine AllReadyIn.cons rfl (fun K hK => ?_) ?_
      · go_simp
        refine hK _ _ ?_
        clear hK K
        refine wpAnyIn_take (i := 5) (v := ?_) rfl rfl (by kernel_rfl) (by kernel_rfl) (by kernel_rfl) (fun _ _ _ h => h) ⟨Or.inl ⟨by rfl, ?_⟩, fun _ => rfl⟩ ?_
        rotate_left
        · intro w; go_simp; with_reducible rfl
        refine wpAnyIn_ready (rs := [6, 8]) (by kernel_rfl) (by simp) ?_
        refine AllReadyIn.cons rfl (fun K hK => ?_) ?_
        · go_simp
          refine hK _ _ ?_
          clear hK K
          refine wpAnyIn_ready (rs := [8]) (by kernel_rfl) (by simp) ?_
          refine AllReadyIn.cons rfl (fun K hK => ?_) ?_
          · go_simp
            refine hK _ _ ?_
            clear hK K
            refine wpAnyIn_ready (rs := [9]) (by kernel_rfl) (by simp) ?_
            refine AllReadyIn.cons rfl (fun K hK => ?_) ?_
            · go_simp
              refine ⟨trivial, (callsIn_wide.2 (HC.out _)).mono ?_⟩
              rintro e w5 ⟨rfl, rfl⟩
              rw [HW5.out]
              refine hK _ _ ?_
              clear hK K
              refine wpAnyIn_take (i := 10) (v := ?_) rfl rfl (by kernel_rfl) (by kernel_rfl) (by kernel_rfl) (fun _ _ _ h => h) ⟨Or.inl ⟨by rfl, ?_⟩, fun _ => rfl⟩ ?_
              rotate_left
              · intro w; go_simp; with_reducible rfl
              refine wpAnyIn_ready (rs := [11]) (by kernel_rfl) (by simp) ?_
              refine AllReadyIn.cons rfl (fun K hK => ?_) ?_
              · go_simp
                refine hR.mono ?_
                rintro e W3 (⟨rfl, hJ3, hk3⟩ | ⟨rfl, hJx3⟩)
                · refine hK _ _ ?_
                  clear hK K
                  refine wpAnyIn_take (i := 12) (v := ?_) rfl rfl (by kernel_rfl) (by kernel_rfl) (by kernel_rfl) (fun _ _ _ h => h) ⟨Or.inl ⟨by rfl, ?_⟩, fun _ => rfl⟩ ?_
                  rotate_left
                  · intro w; go_simp; with_reducible rfl
                  refine wpAnyIn_done (by kernel_rfl) ?_ _
                  gi_wp2
                  go_roundw
                  case rel => exact finT W3 hJ3 hk3
                  case measure => simp [intOf]; omega
                · refine hK _ _ ?_
                  clear hK K
                  refine wpAnyIn_take (i := 12) (v := ?_) rfl rfl (by kernel_rfl) (by kernel_rfl) (by kernel_rfl) (fun _ _ _ h => h) ⟨Or.inl ⟨by rfl, ?_⟩, fun _ => rfl⟩ ?_
                  rotate_left
                  · intro w; go_simp; with_reducible rfl
                  refine wpAnyIn_done (by kernel_rfl) ?_ _
                  gi_wp2
                  refine bodyPost_ret (results_none rfl _ _ _) rfl ?_
                  exact finF W3 hJx3
              exact AllReadyIn.nil
            exact AllReadyIn.nil
          exact AllReadyIn.nil
        refine AllReadyIn.cons rfl (fun K hK => ?_) ?_
        · go_simp
          refine hK _ _ ?_
          clear hK K
          refine wpAnyIn_ready (rs := [6]) (by kernel_rfl) (by simp) ?_
          refine AllReadyIn.cons rfl (fun K hK => ?_) ?_
          · go_simp
            refine hK _ _ ?_
            clear hK K
            refine wpAnyIn_ready (rs := [9]) (by kernel_rfl) (by simp) ?_
            refine AllReadyIn.cons rfl (fun K hK => ?_) ?_
            · go_simp
              refine ⟨trivial, (callsIn_wide.2 (HC.out _)).mono ?_⟩
              rintro e w5 ⟨rfl, rfl⟩
              rw [HW5.out]
              refine hK _ _ ?_
              clear hK K
              refine wpAnyIn_take (i := 10) (v := ?_) rfl rfl (by kernel_rfl) (by kernel_rfl) (by kernel_rfl) (fun _ _ _ h => h) ⟨Or.inl ⟨by rfl, ?_⟩, fun _ => rfl⟩ ?_
              rotate_left
              · intro w; go_simp; with_reducible rfl
              refine wpAnyIn_ready (rs := [11]) (by kernel_rfl) (by simp) ?_
              refine AllReadyIn.cons rfl (fun K hK => ?_) ?_
              · go_simp
                refine hR.mono ?_
                rintro e W3 (⟨rfl, hJ3, hk3⟩ | ⟨rfl, hJx3⟩)
                · refine hK _ _ ?_
                  clear hK K
                  refine wpAnyIn_take (i := 12) (v := ?_) rfl rfl (by kernel_rfl) (by kernel_rfl) (by kernel_rfl) (fun _ _ _ h => h) ⟨Or.inl ⟨by rfl, ?_⟩, fun _ => rfl⟩ ?_
                  rotate_left
                  · intro w; go_simp; with_reducible rfl
                  refine wpAnyIn_done (by kernel_rfl) ?_ _
                  gi_wp2
                  go_roundw
                  case rel => exact finT W3 hJ3 hk3
                  case measure => simp [intOf]; omega
                · refine hK _ _ ?_
                  clear hK K
                  refine wpAnyIn_take (i := 12) (v := ?_) rfl rfl (by kernel_rfl) (by kernel_rfl) (by kernel_rfl) (fun _ _ _ h => h) ⟨Or.inl ⟨by rfl, ?_⟩, fun _ => rfl⟩ ?_
                  rotate_left
                  · intro w; go_simp; with_reducible rfl
                  refine wpAnyIn_done (by kernel_rfl) ?_ _
                  gi_wp2
                  refine bodyPost_ret (results_none rfl _ _ _) rfl ?_
                  exact finF W3 hJx3
              exact AllReadyIn.nil
            exact AllReadyIn.nil
          exact AllReadyIn.nil
        exact AllReadyIn.nil
      refine AllReadyIn.cons rfl (fun K hK => ?_) ?_
      · go_simp
        refine hK _ _ ?_
        clear hK K
        refine wpAnyIn_ready (rs := [4, 8]) (by kernel_rfl) (by simp) ?_
        refine AllReadyIn.cons rfl (fun K hK => ?_) ?_
        · go_simp
          refine hK _ _ ?_
          clear hK K
          refine wpAnyIn_take (i := 5) (v := ?_) rfl rfl (by kernel_rfl) (by kernel_rfl) (by kernel_rfl) (fun _ _ _ h => h) ⟨Or.inl ⟨by rfl, ?_⟩, fun _ => rfl⟩ ?_
          rotate_left
          · intro w; go_simp; with_reducible rfl
          refine wpAnyIn_ready (rs := [8]) (by kernel_rfl) (by simp) ?_
          refine AllReadyIn.cons rfl (fun K hK => ?_) ?_
          · go_simp
            refine hK _ _ ?_
            clear hK K
            refine wpAnyIn_ready (rs := [9]) (by kernel_rfl) (by simp) ?_
            refine AllReadyIn.cons rfl (fun K hK => ?_) ?_
            · go_simp
              refine ⟨trivial, (callsIn_wide.2 (HC.out _)).mono ?_⟩
              rintro e w5 ⟨rfl, rfl⟩
              rw [HW5.out]
              refine hK _ _ ?_
              clear hK K
              refine wpAnyIn_take (i := 10) (v := ?_) rfl rfl (by kernel_rfl) (by kernel_rfl) (by kernel_rfl) (fun _ _ _ h => h) ⟨Or.inl ⟨by rfl, ?_⟩, fun _ => rfl⟩ ?_
              rotate_left
              · intro w; go_simp; with_reducible rfl
              refine wpAnyIn_ready (rs := [11]) (by kernel_rfl) (by simp) ?_
              refine AllReadyIn.cons rfl (fun K hK => ?_) ?_
              · go_simp
                refine hR.mono ?_
                rintro e W3 (⟨rfl, hJ3, hk3⟩ | ⟨rfl, hJx3⟩)
                · refine hK _ _ ?_
                  clear hK K
                  refine wpAnyIn_take (i := 12) (v := ?_) rfl rfl (by kernel_rfl) (by kernel_rfl) (by kernel_rfl) (fun _ _ _ h => h) ⟨Or.inl ⟨by rfl, ?_⟩, fun _ => rfl⟩ ?_
                  rotate_left
                  · intro w; go_simp; with_reducible rfl
                  refine wpAnyIn_done (by kernel_rfl) ?_ _
                  gi_wp2
                  go_roundw
                  case rel => exact finT W3 hJ3 hk3
                  case measure => simp [intOf]; omega
                · refine hK _ _ ?_
                  clear hK K
                  refine wpAnyIn_take (i := 12) (v := ?_) rfl rfl (by kernel_rfl) (by kernel_rfl) (by kernel_rfl) (fun _ _ _ h => h) ⟨Or.inl ⟨by rfl, ?_⟩, fun _ => rfl⟩ ?_
                  rotate_left
                  · intro w; go_simp; with_reducible rfl
                  refine wpAnyIn_done (by kernel_rfl) ?_ _
                  gi_wp2
                  refine bodyPost_ret (results_none rfl _ _ _) rfl ?_
                  exact finF W3 hJx3
              exact AllReadyIn.nil
            exact AllReadyIn.nil
          exact AllReadyIn.nil
        refine AllReadyIn.cons rfl (fun K hK => ?_) ?_
        · go_simp
          refine hK _ _ ?_
          clear hK K
          refine wpAnyIn_ready (rs := [4, 9]) (by kernel_rfl) (by simp) ?_
          refine AllReadyIn.cons rfl (fun K hK => ?_) ?_
          · go_simp
            refine hK _ _ ?_
            clear hK K
            refine wpAnyIn_take (i := 5) (v := ?_) rfl rfl (by kernel_rfl) (by kernel_rfl) (by kernel_rfl) (fun _ _ _ h => h) ⟨Or.inl ⟨by rfl, ?_⟩, fun _ => rfl⟩ ?_
            rotate_left
            · intro w; go_simp; with_reducible rfl
            refine wpAnyIn_ready (rs := [9]) (by kernel_rfl) (by simp) ?_
            refine AllReadyIn.cons rfl (fun K hK => ?_) ?_
            · go_simp
              refine ⟨trivial, (callsIn_wide.2 (HC.out _)).mono ?_⟩
              rintro e w5 ⟨rfl, rfl⟩
              rw [HW5.out]
              refine hK _ _ ?_
              clear hK K
              refine wpAnyIn_take (i := 10) (v := ?_) rfl rfl (by kernel_rfl) (by kernel_rfl) (by kernel_rfl) (fun _ _ _ h => h) ⟨Or.inl ⟨by rfl, ?_⟩, fun _ => rfl⟩ ?_
              rotate_left
              · intro w; go_simp; with_reducible rfl
              refine wpAnyIn_ready (rs := [11]) (by kernel_rfl) (by simp) ?_
              refine AllReadyIn.cons rfl (fun K hK => ?_) ?_
              · go_simp
                refine hR.mono ?_
                rintro e W3 (⟨rfl, hJ3, hk3⟩ | ⟨rfl, hJx3⟩)
                · refine hK _ _ ?_
                  clear hK K
                  refine wpAnyIn_take (i := 12) (v := ?_) rfl rfl (by kernel_rfl) (by kernel_rfl) (by kernel_rfl) (fun _ _ _ h => h) ⟨Or.inl ⟨by rfl, ?_⟩, fun _ => rfl⟩ ?_
                  rotate_left
                  · intro w; go_simp; with_reducible rfl
                  refine wpAnyIn_done (by kernel_rfl) ?_ _
                  gi_wp2
                  go_roundw
                  case rel => exact finT W3 hJ3 hk3
                  case measure => simp [intOf]; omega
                · refine hK _ _ ?_
                  clear hK K
                  refine wpAnyIn_take (i := 12) (v := ?_) rfl rfl (by kernel_rfl) (by kernel_rfl) (by kernel_rfl) (fun _ _ _ h => h) ⟨Or.inl ⟨by rfl, ?_⟩, fun _ => rfl⟩ ?_
                  rotate_left
                  · intro w; go_simp; with_reducible rfl
                  refine wpAnyIn_done (by kernel_rfl) ?_ _
                  gi_wp2
                  refine bodyPost_ret (results_none rfl _ _ _) rfl ?_
                  exact finF W3 hJx3
              exact AllReadyIn.nil
            exact AllReadyIn.nil
          refine AllReadyIn.cons rfl (fun K hK => ?_) ?_
          · go_simp
            refine ⟨trivial, (callsIn_wide.2 (HC.out _)).mono ?_⟩
            rintro e w5 ⟨rfl, rfl⟩
            rw [HW5.out]
            refine hK _ _ ?_
            clear hK K
            refine wpAnyIn_ready (rs := [4]) (by kernel_rfl) (by simp) ?_
            refine AllReadyIn.cons rfl (fun K hK => ?_) ?_
            · go_simp
              refine hK _ _ ?_
              clear hK K
              refine wpAnyIn_take (i := 5) (v := ?_) rfl rfl (by kernel_rfl) (by kernel_rfl) (by kernel_rfl) (fun _ _ _ h => h) ⟨Or.inl ⟨by rfl, ?_⟩, fun _ => rfl⟩ ?_
              rotate_left
              · intro w; go_simp; with_reducible rfl
              refine wpAnyIn_take (i := 10) (v := ?_) rfl rfl (by kernel_rfl) (by kernel_rfl) (by kernel_rfl) (fun _ _ _ h => h) ⟨Or.inl ⟨by rfl, ?_⟩, fun _ => rfl⟩ ?_
              rotate_left
              · intro w; go_simp; with_reducible rfl
              refine wpAnyIn_ready (rs := [11]) (by kernel_rfl) (by simp) ?_
              refine AllReadyIn.cons rfl (fun K hK => ?_) ?_
              · go_simp
                refine hR.mono ?_
                rintro e W3 (⟨rfl, hJ3, hk3⟩ | ⟨rfl, hJx3⟩)
                · refine hK _ _ ?_
                  clear hK K
                  refine wpAnyIn_take (i := 12) (v := ?_) rfl rfl (by kernel_rfl) (by kernel_rfl) (by kernel_rfl) (fun _ _ _ h => h) ⟨Or.inl ⟨by rfl, ?_⟩, fun _ => rfl⟩ ?_
                  rotate_left
                  · intro w; go_simp; with_reducible rfl
                  refine wpAnyIn_done (by kernel_rfl) ?_ _
                  gi_wp2
                  go_roundw
                  case rel => exact finT W3 hJ3 hk3
                  case measure => simp [intOf]; omega
                · refine hK _ _ ?_
                  clear hK K
                  refine wpAnyIn_take (i := 12) (v := ?_) rfl rfl (by kernel_rfl) (by kernel_rfl) (by kernel_rfl) (fun _ _ _ h => h) ⟨Or.inl ⟨by rfl, ?_⟩, fun _ => rfl⟩ ?_
                  rotate_left
                  · intro w; go_simp; with_reducible rfl
                  refine wpAnyIn_done (by kernel_rfl) ?_ _
                  gi_wp2
                  refine bodyPost_ret (results_none rfl _ _ _) rfl ?_
                  exact finF W3 hJx3
              exact AllReadyIn.nil
            exact AllReadyIn.nil
          exact AllReadyIn.nil
        exact AllReadyIn.nil
      refine AllReadyIn.cons rfl (fun K hK => ?_) ?_
      · go_simp
        refine hK _ _ ?_
        clear hK K
        refine wpAnyIn_ready (rs := [4, 6]) (by kernel_rfl) (by simp) ?_
        refine AllReadyIn.cons rfl (fun K hK => ?_) ?_
        · go_simp
          refine hK _ _ ?_
          clear hK K
          refine wpAnyIn_take (i := 5) (v := ?_) rfl rfl (by kernel_rfl) (by kernel_rfl) (by kernel_rfl) (fun _ _ _ h => h) ⟨Or.inl ⟨by rfl, ?_⟩, fun _ => rfl⟩ ?_
          rotate_left
          · intro w; go_simp; with_reducible rfl
          refine wpAnyIn_ready (rs := [6]) (by kernel_rfl) (by simp) ?_
          refine AllReadyIn.cons rfl (fun K hK => ?_) ?_
          · go_simp
            refine hK _ _ ?_
            clear hK K
            refine wpAnyIn_ready (rs := [9]) (by kernel_rfl) (by simp) ?_
            refine AllReadyIn.cons rfl (fun K hK => ?_) ?_
            · go_simp
              refine ⟨trivial, (callsIn_wide.2 (HC.out _)).mono ?_⟩
              rintro e w5 ⟨rfl, rfl⟩
              rw [HW5.out]
              refine hK _ _ ?_
              clear hK K
              refine wpAnyIn_take (i := 10) (v := ?_) rfl rfl (by kernel_rfl) (by kernel_rfl) (by kernel_rfl) (fun _ _ _ h => h) ⟨Or.inl ⟨by rfl, ?_⟩, fun _ => rfl⟩ ?_
              rotate_left
              · intro w; go_simp; with_reducible rfl
              refine wpAnyIn_ready (rs := [11]) (by kernel_rfl) (by simp) ?_
              refine AllReadyIn.cons rfl (fun K hK => ?_) ?_
              · go_simp
                refine hR.mono ?_
                rintro e W3 (⟨rfl, hJ3, hk3⟩ | ⟨rfl, hJx3⟩)
                · refine hK _ _ ?_
                  clear hK K
                  refine wpAnyIn_take (i := 12) (v := ?_) rfl rfl (by kernel_rfl) (by kernel_rfl) (by kernel_rfl) (fun _ _ _ h => h) ⟨Or.inl ⟨by rfl, ?_⟩, fun _ => rfl⟩ ?_
                  rotate_left
                  · intro w; go_simp; with_reducible rfl
                  refine wpAnyIn_done (by kernel_rfl) ?_ _
                  gi_wp2
                  go_roundw
                  case rel => exact finT W3 hJ3 hk3
                  case measure => simp [intOf]; omega
                · refine hK _ _ ?_
                  clear hK K
                  refine wpAnyIn_take (i := 12) (v := ?_) rfl rfl (by kernel_rfl) (by kernel_rfl) (by kernel_rfl) (fun _ _ _ h => h) ⟨Or.inl ⟨by rfl, ?_⟩, fun _ => rfl⟩ ?_
                  rotate_left
                  · intro w; go_simp; with_reducible rfl
                  refine wpAnyIn_done (by kernel_rfl) ?_ _
                  gi_wp2
                  refine bodyPost_ret (results_none rfl _ _ _) rfl ?_
                  exact finF W3 hJx3
              exact AllReadyIn.nil
            exact AllReadyIn.nil
          exact AllReadyIn.nil
        refine AllReadyIn.cons rfl (fun K hK => ?_) ?_
        · go_simp
          refine hK _ _ ?_
          clear hK K
          refine wpAnyIn_ready (rs := [4, 9]) (by kernel_rfl) (by simp) ?_
          refine AllReadyIn.cons rfl (fun K hK => ?_) ?_
          · go_simp
            refine hK _ _ ?_
            clear hK K
            refine wpAnyIn_take (i := 5) (v := ?_) rfl rfl (by kernel_rfl) (by kernel_rfl) (by kernel_rfl) (fun _ _ _ h => h) ⟨Or.inl ⟨by rfl, ?_⟩, fun _ => rfl⟩ ?_
            rotate_left
            · intro w; go_simp; with_reducible rfl
            refine wpAnyIn_ready (rs := [9]) (by kernel_rfl) (by simp) ?_
            refine AllReadyIn.cons rfl (fun K hK => ?_) ?_
            · go_simp
              refine ⟨trivial, (callsIn_wide.2 (HC.out _)).mono ?_⟩
              rintro e w5 ⟨rfl, rfl⟩
              rw [HW5.out]
              refine hK _ _ ?_
              clear hK K
              refine wpAnyIn_take (i := 10) (v := ?_) rfl rfl (by kernel_rfl) (by kernel_rfl) (by kernel_rfl) (fun _ _ _ h => h) ⟨Or.inl ⟨by rfl, ?_⟩, fun _ => rfl⟩ ?_
              rotate_left
              · intro w; go_simp; with_reducible rfl
              refine wpAnyIn_ready (rs := [11]) (by kernel_rfl) (by simp) ?_
              refine AllReadyIn.cons rfl (fun K hK => ?_) ?_
              · go_simp
                refine hR.mono ?_
                rintro e W3 (⟨rfl, hJ3, hk3⟩ | ⟨rfl, hJx3⟩)
                · refine hK _ _ ?_
                  clear hK K
                  refine wpAnyIn_take (i := 12) (v := ?_) rfl rfl (by kernel_rfl) (by kernel_rfl) (by kernel_rfl) (fun _ _ _ h => h) ⟨Or.inl ⟨by rfl, ?_⟩, fun _ => rfl⟩ ?_
                  rotate_left
                  · intro w; go_simp; with_reducible rfl
                  refine wpAnyIn_done (by kernel_rfl) ?_ _
                  gi_wp2
                  go_roundw
                  case rel => exact finT W3 hJ3 hk3
                  case measure => simp [intOf]; omega
                · refine hK _ _ ?_
                  clear hK K
                  refine wpAnyIn_take (i := 12) (v := ?_) rfl rfl (by kernel_rfl) (by kernel_rfl) (by kernel_rfl) (fun _ _ _ h => h) ⟨Or.inl ⟨by rfl, ?_⟩, fun _ => rfl⟩ ?_
                  rotate_left
                  · intro w; go_simp; with_reducible rfl
                  refine wpAnyIn_done (by kernel_rfl) ?_ _
                  gi_wp2
                  refine bodyPost_ret (results_none rfl _ _ _) rfl ?_
                  exact finF W3 hJx3
              exact AllReadyIn.nil
            exact AllReadyIn.nil
          refine AllReadyIn.cons rfl (fun K hK => ?_) ?_
          · go_simp
            refine ⟨trivial, (callsIn_wide.2 (HC.out _)).mono ?_⟩
            rintro e w5 ⟨rfl, rfl⟩
            rw [HW5.out]
            refine hK _ _ ?_
            clear hK K
            refine wpAnyIn_ready (rs := [4]) (by kernel_rfl) (by simp) ?_
            refine AllReadyIn.cons rfl (fun K hK => ?_) ?_
            · go_simp
              refine hK _ _ ?_
              clear hK K
              refine wpAnyIn_take (i := 5) (v := ?_) rfl rfl (by kernel_rfl) (by kernel_rfl) (by kernel_rfl) (fun _ _ _ h => h) ⟨Or.inl ⟨by rfl, ?_⟩, fun _ => rfl⟩ ?_
              rotate_left
              · intro w; go_simp; with_reducible rfl
              refine wpAnyIn_take (i := 10) (v := ?_) rfl rfl (by kernel_rfl) (by kernel_rfl) (by kernel_rfl) (fun _ _ _ h => h) ⟨Or.inl ⟨by rfl, ?_⟩, fun _ => rfl⟩ ?_
              rotate_left
              · intro w; go_simp; with_reducible rfl
              refine wpAnyIn_ready (rs := [11]) (by kernel_rfl) (by simp) ?_
              refine AllReadyIn.cons rfl (fun K hK => ?_) ?_
              · go_simp
                refine hR.mono ?_
                rintro e W3 (⟨rfl, hJ3, hk3⟩ | ⟨rfl, hJx3⟩)
                · refine hK _ _ ?_
                  clear hK K
                  refine wpAnyIn_take (i := 12) (v := ?_) rfl rfl (by kernel_rfl) (by kernel_rfl) (by kernel_rfl) (fun _ _ _ h => h) ⟨Or.inl ⟨by rfl, ?_⟩, fun _ => rfl⟩ ?_
                  rotate_left
                  · intro w; go_simp; with_reducible rfl
                  refine wpAnyIn_done (by kernel_rfl) ?_ _
                  gi_wp2
                  go_roundw
                  case rel => exact finT W3 hJ3 hk3
                  case measure => simp [intOf]; omega
                · refine hK _ _ ?_
                  clear hK K
                  refine wpAnyIn_take (i := 12) (v := ?_) rfl rfl (by kernel_rfl) (by kernel_rfl) (by kernel_rfl) (fun _ _ _ h => h) ⟨Or.inl ⟨by rfl, ?_⟩, fun _ => rfl⟩ ?_
                  rotate_left
                  · intro w; go_simp; with_reducible rfl
                  refine wpAnyIn_done (by kernel_rfl) ?_ _
                  gi_wp2
                  refine bodyPost_ret (results_none rfl _ _ _) rfl ?_
                  exact finF W3 hJx3
              exact AllReadyIn.nil
            exact AllReadyIn.nil
          exact AllReadyIn.nil
        exact AllReadyIn.nil
      exact AllReadyIn.nil
    · obtain rfl : k = 2 := by omega
      gi_wp2
      go_end0
      exact ⟨⟨_, rfl⟩, .inl ⟨_, List.take_of_length_le (by show 2 ≤ 2; omega), hJs⟩⟩
theorem told_seq (wb hbx c h : Nat) (v : Value) (hc : 0 < c) (hc2 : c ≤ 32) (hh : h < 2 ^ 64) (w : World) (hb : w.heap[wb]? = some (.cells #[.int .i64 2, .int .i64 c, v] 165 (0, 0))) (hb2 : w.heap[hbx]? = some (.cells #[.int .u64 h] 50 (0, 0))) :
    SeqStopsK Fence.wide 8 Tryz.prog 222 #[.pointer (some ⟨wb, 0, none⟩), .pointer (some ⟨hbx, 0, none⟩)] (fun x : { n : Nat // n < 2 * c } => #[.int .i64 (x.1 : Nat)]) (KL [wb, hbx]) (fun ys => ys = toldPl c h hc) (fun pre => pre <+: toldPl c h hc) 2 w := fun l J Jx W hW hJ _ hY h0 =>
  told1 l wb hbx c h v hc hc2 hh J Jx hY W hJ (known hW (Nat.le_refl _) hb) (known hW (Nat.le_refl _) hb2) h0
end Go.Proofs.YtmkefodaibmkhaaGreatDoor
