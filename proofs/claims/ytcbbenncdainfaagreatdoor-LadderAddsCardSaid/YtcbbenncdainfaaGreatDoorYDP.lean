/- Package hist: Lower. The reference of layer 8: Right, Same. The reference of layer 9: digits, Bucket. The references of layers 7 and 9 in plain data: places digit by digit, bins put in. No program in sight. -/
import Derived.Test.YtcbbenncdainfaaGreatDoorYRB
namespace Go.Proofs.YtcbbenncdainfaaGreatDoor
open Go Go.RowKit Go.Shelf Go.Maps Go.Sort
theorem puts_snoc (l : List (Int × Int)) (a : List (Int × Int)) (c : Int × Int) : hiPuts a (l ++ [c]) = binPut (hiPuts a l) c.1 c.2 := by simp [hiPuts]
theorem take_ups (l : List (Int × Int)) (k : Nat) : BinUp (hiPuts [] ((l.take k).map fun b => (hiHalf b.1, b.2))) := hiPuts_up _ [] List.Pairwise.nil
theorem half_fin (l : List (Int × Int)) (f : Nat) (hf : f ≤ 3) (hbd : ∀ b ∈ l, boundsB f b.1 = true) (hbu : BinsU l) : BinsU (hiPuts [] (l.map fun b => (hiHalf b.1, b.2))) ∧ ∀ c ∈ hiPuts [] (l.map fun b => (hiHalf b.1, b.2)), I64 c.1 := by
 refine ⟨hiPuts_u64 _ [] (fun b hb => by cases hb) (fun c hc => by obtain ⟨d, hd, rfl⟩ := List.mem_map.1 hc; exact hbu d hd), fun c hc => ?_⟩
 rcases hiPuts_mem _ [] c hc with hd | ⟨d, hd, e⟩ | ⟨d, hd, e⟩
 ·cases hd
 ·cases hd
 ·obtain ⟨x, hx, rfl⟩ := List.mem_map.1 hd
  rw [e]
  have := bounds_le f hf x.1 (hbd x hx)
  unfold hiHalf I64
  show _ ∧ _
  split <;> omega
set_option maxRecDepth 100000 in
set_option maxHeartbeats 4000000 in
theorem hiLower_any (f : Nat) (l : List (Int × Int)) (a : Option Addr) (len cap : Nat) (w : World) (h1 : 1 ≤ f) (hf : f ≤ 3) (hL : SlE encB 2 w.heap.size w a len l) (hr : hiRight f l = true) (hbd : ∀ b ∈ l, boundsB f b.1 = true) (hbu : BinsU l) (hlen : len ≤ 1000) :
  Calls Tryz.prog 196 #[.agg #[.int .i64 f, .slice a len cap]] w fun e w' => ∃ a' len' cap', e = .returned (.tuple #[.agg #[.int .i64 ((f : Int) - 1), .slice a' len' cap'], .int .i64 0]) ∧ SlC encB 2 w'.heap.size w' a' len' cap' (hiLow l) ∧ Below w.heap.size w w' := by
 have HLL := Lib.hid hL.1
 have hp : ∀ b ∈ l, I64 b.1 := fun b hb => by have := bounds_le f hf b.1 (hbd b hb); unfold I64; omega
 obtain ⟨W0, hW0, hXp, hX0, hB0, hs0⟩ := boxes2 w #[.int .i64 f, .slice a len cap] 31 #[.int .i64 0, .slice none 0 0] 31
 have HRt := Lib.hid (hist_Right_any f l a len cap W0 ((hL.below hB0).mono hB0.size) (by unfold maxLen; omega) (fun b hb => (hp b hb).2))
 rw [hr] at HRt
 obtain ⟨z0, z1⟩ := cl2 hXp
 have HX0 := Lib.hid hX0
 have HXP := Lib.hid hXp
 have HB0 := Lib.hid hB0
 have HL := Lib.hid hL
 have hw1 : wrap64 ((f : Int) - 1) = (f : Int) - 1 := by unfold wrap64; omega
 have hw2 : IntKind.i64.wrap ((f : Int) - 1) = (f : Int) - 1 := IntWalk.i64_in _ (by omega)
 have HBl : Hid (∀ w1, Calls Tryz.prog 204 #[.int .i64 ((f : Int) - 1)] w1 fun e w' => ∃ b, e = .returned (.tuple #[.agg #[.map (some b), .int .i64 ((f : Int) - 1)], .nilIface]) ∧ MapIs w' b 0 [] ∧ w1.heap.size ≤ b ∧ Below w1.heap.size w1 w') := fun w1 => by
  have := hblank_any (f - 1) w1 (by omega)
  rwa [show ((f - 1 : Nat) : Int) = (f : Int) - 1 by omega] at this
 clear hL hr hX0 hB0 hXp
 go_enter Tryz.func196, Tryz.ntmps196
 go_wp2_with fail
 refine HRt.out.mono ?_
 rintro e w1 ⟨rfl, hb1⟩
 have hXp1 := known hb1 (Nat.le_refl _) HXP.out
 obtain ⟨y0, y1⟩ := cl2 hXp1
 have HXP1 := Lib.hid hXp1
 clear hXp1
 go_wp2_with fail
 refine (HBl.out _).mono ?_
 rintro e w2 ⟨b, rfl, hm2, hb2, hB2⟩
 obtain ⟨W3, hW3, hX3, hB3, hs3⟩ := boxes1 w2 #[.map (some b), .int .i64 ((f : Int) - 1)] 241
 have hB2s := hB2.size
 have hXp3 := known (hB2.trans (hB3.mono hB2s)) (Nat.le_refl _) HXP1.out
 have hXr3 := known (hB2.trans (hB3.mono hB2s)) (Nat.le_refl _) (known hb1 (Nat.le_refl _) HX0.out)
 have hM3 : MapIs W3 b 0 [] := hm2.kept (below_gb hB3 none) (by simp)
 have hb1s := hb1.size
 have hB03 : Below w.heap.size w W3 := (HB0.out.trans (hb1.mono HB0.out.size)).trans ((hB2.mono (by omega)).trans (hB3.mono (by omega)))
 have HX3 := Lib.hid hX3
 have HXR := Lib.hid hXr3
 have HXP3 := Lib.hid hXp3
 have HB03 := Lib.hid hB03
 have hbl := hm2.lt
 obtain ⟨x0, x1⟩ := cl2 hX3
 obtain ⟨q0, q1⟩ := cl2 hXp3
 clear hX3 hXr3 hXp3 hm2 hB2 hB3 hb1 hB03
 go_wp2_with fail
 go_loopw [7, 8, 9, 10, 30] (fun _ _ _ _ i wr => ∃ k : Nat, k ≤ len ∧ i = .int .i64 k ∧ MapIs wr b k (hiPuts [] ((l.take k).map fun b => (hiHalf b.1, b.2))) ∧ W3.grownBy wr (some b)) (fun _ _ _ _ i _ => len - (intOf i).toNat)
 case atStart => exact ⟨0, Nat.zero_le _, rfl, hM3, World.grownBy.refl _ _⟩
 case round =>
  obtain ⟨k, hk, rfl, hM, hG⟩ := hrel
  have hXw := (hG.block _ (Array.getElem?_eq_some_iff.1 HXP3.out).1 (fun e => by cases e; omega)).trans HXP3.out
  have hXr := (hG.block _ (Array.getElem?_eq_some_iff.1 HXR.out).1 (fun e => by cases e; omega)).trans HXR.out
  have hXx := (hG.block _ (Array.getElem?_eq_some_iff.1 HX3.out).1 (fun e => by cases e; omega)).trans HX3.out
  have hBw : Below w.heap.size w wr := HB03.out.grown hG HB03.out.size (fun j e => by cases e; omega)
  have hGs := hG.size
  by_cases hlt : k < len
  ·obtain ⟨c, b1, o1, hx, ea, hb1, p0, p1⟩ := bin_cells (HL.out.below hBw) hlt
   subst ea
   have HX := Lib.hid hx
   have hcm := List.mem_of_getElem? hx
   have hxi : I64 c.1 := hp c hcm
   have hxu : U64 c.2 := hbu c hcm
   have hcb := hbd c hcm
   obtain ⟨hlh, hlu⟩ := least_half f h1 hf c.1 hcb
   have hhi : I64 (hiHalf c.1) := by have := bounds_le f hf c.1 hcb; unfold hiHalf I64; split <;> omega
   obtain ⟨x1, x2⟩ := c
   dsimp only at p0 p1 hxi hxu hcb hlh hlu hhi
   obtain ⟨W4, hW4, hX4, hB4, hs4⟩ := boxes1 wr #[.int .i64 x1, .int .u64 x2] 123
   have HBL := Lib.hid (Bounds_least f h1 hf x1 W4 hcb)
   obtain ⟨lo, hlo⟩ : ∃ lo, hiLeast f x1 = lo := ⟨_, rfl⟩
   rw [hlo] at HBL hlu hlh
   have hXw4 := known hB4 (Nat.le_refl _) hXw
   have hXx4 := known hB4 (Nat.le_refl _) hXx
   obtain ⟨u0, u1⟩ := cl2 hX4
   obtain ⟨v0, v1⟩ := cl2 hXw4
   have HM4 : Hid (MapIs W4 b k (hiPuts [] ((l.take k).map fun b => (hiHalf b.1, b.2)))) := hM.kept (below_gb hB4 none) (by simp)
   have HX4 := Lib.hid hX4
   have HXx4 := Lib.hid hXx4
   have HG4 := Lib.hid (hG.trans (below_gb hB4 (some b)))
   clear hXw hXr hXx hX4 hXw4 hXx4 hM hB4 hG hx hBw
   go_wp2_with fail
   refine HBL.out.mono ?_
   rintro e w5 ⟨hi, rfl, hb5⟩
   have HXx5 : Hid (w5.drew.heap[w2.heap.size]? = some (.cells #[.map (some b), .int .i64 ((f : Int) - 1)] 241 (0, 0))) := known hb5.drew (Nat.le_refl _) HXx4.out
   have HX5 : Hid (w5.drew.heap[wr.heap.size]? = some (.cells #[.int .i64 x1, .int .u64 x2] 123 (0, 0))) := known hb5.drew (Nat.le_refl _) HX4.out
   have HM5 : Hid (MapIs w5.drew b k (hiPuts [] ((l.take k).map fun b => (hiHalf b.1, b.2)))) := HM4.out.kept (gb_drew (below_gb hb5 none)) (by simp)
   have HG5 : Hid (W3.grownBy w5.drew (some b)) := HG4.out.trans (gb_drew (below_gb hb5 (some b)))
   have HBK : Hid (Calls Tryz.prog 201 #[.int .i64 ((f : Int) - 1), .int .u64 lo] w5.drew fun e w' => e = .returned (.int .i64 (hiHalf x1)) ∧ Below w5.drew.heap.size w5.drew w') := by
    have := Bucket_any (f - 1) lo.toNat w5.drew (by omega) (by unfold U64 at hlu; omega)
    rwa [show ((f - 1 : Nat) : Int) = (f : Int) - 1 by omega, show ((lo.toNat : Nat) : Int) = lo by unfold U64 at hlu; omega, hlh] at this
   have HUP := take_ups l k
   have HP : Hid (∀ w4, Below w5.drew.heap.size w5.drew w4 → Calls Tryz.prog 200 #[.agg #[.map (some b), .int .i64 ((f : Int) - 1)], .int .i64 (hiHalf x1), .int .u64 x2] w4 fun e w' => e = .returned (.tuple #[]) ∧ MapIs w' b (k + 1) (binPut (hiPuts [] ((l.take k).map fun b => (hiHalf b.1, b.2))) (hiHalf x1) x2) ∧ w4.grownBy w' (some b)) := fun w4 hb4 =>
    put_any b k ((f : Int) - 1) (hiHalf x1) x2 _ w4 (HM5.out.kept (below_gb hb4 none) (by simp)) hhi hxu (by omega) HUP (hiPuts_u64 _ [] (fun b hb => by cases hb) (fun c hc => by obtain ⟨d, hd, rfl⟩ := List.mem_map.1 hc; exact hbu d (List.mem_of_mem_take hd)))
   have HC : Hid (∀ w4, Below w5.drew.heap.size w5.drew w4 → w4.cell? ⟨w2.heap.size, 0, none⟩ = some (.map (some b)) ∧ w4.cell? ⟨w2.heap.size, 1, none⟩ = some (.int .i64 ((f : Int) - 1)) ∧ w4.cell? ⟨wr.heap.size, 1, none⟩ = some (.int .u64 x2)) := fun w4 hb4 => by
    have h1 := known hb4 (Nat.le_refl _) HXx5.out
    exact ⟨cCc h1 0, cCc h1 1, cCc (known hb4 (Nat.le_refl _) HX5.out) 1⟩
   have HRel : Hid (∀ w4 w6, Below w5.drew.heap.size w5.drew w4 → MapIs w6 b (k + 1) (binPut (hiPuts [] ((l.take k).map fun b => (hiHalf b.1, b.2))) (hiHalf x1) x2) → w4.grownBy w6 (some b) → MapIs w6 b (k + 1) (hiPuts [] ((l.take (k + 1)).map fun b => (hiHalf b.1, b.2))) ∧ W3.grownBy w6 (some b)) := fun w4 w6 hb4 hm6 hg6 => by
    rw [take_snoc' HX.out, List.map_append]
    exact ⟨by rw [List.map_singleton, puts_snoc]; exact hm6, (HG5.out.trans (below_gb hb4 _)).trans hg6⟩
   obtain ⟨y0, y1, y2⟩ := HC.out _ (Below.refl _ _)
   clear hb5 hxu hxi hhi hcb hlh hlu hlo u0 u1 v0 v1 p0 p1 q0 q1 x0 hcm
   go_wp2_with fail
   -- REGION
   refine wp_region_any (by kernel_rfl) ?_
   change wpAny _ _ _ _ _ _ _ (World.drew _)
   refine tk 1 (v := ?_) rfl ?_ ?_
   rotate_left
   ·intro w; go_simp; with_reducible rfl
   refine tk 3 (v := ?_) rfl ?_ ?_
   rotate_left
   ·intro w; go_simp; with_reducible rfl
   refine tk 5 (v := ?_) rfl ?_ ?_
   rotate_left
   ·intro w; go_simp; with_reducible rfl
   refine wpAny_ready (rs := [0, 2, 6]) (by kernel_rfl) (by simp) ?_
   refine AllReady.cons rfl (fun K hK => ?_) ?_
   ·go_simp
    refine hK _ _ ?_
    clear hK K
    refine wpAny_ready (rs := [2, 6]) (by kernel_rfl) (by simp) ?_
    refine AllReady.cons rfl (fun K hK => ?_) ?_
    ·go_simp
     refine hK _ _ ?_
     clear hK K
     refine wpAny_ready (rs := [4, 6]) (by kernel_rfl) (by simp) ?_
     refine AllReady.cons rfl (fun K hK => ?_) ?_
     ·go_simp
      refine HBK.out.mono ?_
      rintro e w4 ⟨rfl, hb4⟩
      have hP := HP.out w4 hb4
      obtain ⟨u0, u1, v1⟩ := HC.out w4 hb4
      refine hK _ _ ?_
      clear hK K
      refine wpAny_ready (rs := [6]) (by kernel_rfl) (by simp) ?_
      refine AllReady.cons rfl (fun K hK => ?_) ?_
      ·go_simp
       refine hK _ _ ?_
       clear hK K
       refine wpAny_ready (rs := [7]) (by kernel_rfl) (by simp) ?_
       refine AllReady.cons rfl (fun K hK => ?_) ?_
       ·go_simp
        refine hP.mono ?_
        rintro e w6 ⟨rfl, hm6, hg6⟩
        refine hK _ _ ?_
        clear hK K
        refine wpAny_done (by kernel_rfl) ?_ _
        obtain ⟨hR1, hR2⟩ := HRel.out w4 w6 hb4 hm6 hg6
        clear hm6 hg6 hP hb4 u0 u1 v1
        go_wp2_with fail
        go_roundw
        case rel => exact ⟨k + 1, hlt, by simp, hR1, hR2⟩
        case measure => simp [intOf]; exact meas_succ hlt
       exact AllReady.nil
      exact AllReady.nil
     refine AllReady.cons rfl (fun K hK => ?_) ?_
     ·go_simp
      refine hK _ _ ?_
      clear hK K
      refine wpAny_ready (rs := [4]) (by kernel_rfl) (by simp) ?_
      refine AllReady.cons rfl (fun K hK => ?_) ?_
      ·go_simp
       refine HBK.out.mono ?_
       rintro e w4 ⟨rfl, hb4⟩
       have hP := HP.out w4 hb4
       obtain ⟨u0, u1, v1⟩ := HC.out w4 hb4
       refine hK _ _ ?_
       clear hK K
       refine wpAny_ready (rs := [7]) (by kernel_rfl) (by simp) ?_
       refine AllReady.cons rfl (fun K hK => ?_) ?_
       ·go_simp
        refine hP.mono ?_
        rintro e w6 ⟨rfl, hm6, hg6⟩
        refine hK _ _ ?_
        clear hK K
        refine wpAny_done (by kernel_rfl) ?_ _
        obtain ⟨hR1, hR2⟩ := HRel.out w4 w6 hb4 hm6 hg6
        clear hm6 hg6 hP hb4 u0 u1 v1
        go_wp2_with fail
        go_roundw
        case rel => exact ⟨k + 1, hlt, by simp, hR1, hR2⟩
        case measure => simp [intOf]; exact meas_succ hlt
       exact AllReady.nil
      exact AllReady.nil
     exact AllReady.nil
    refine AllReady.cons rfl (fun K hK => ?_) ?_
    ·go_simp
     refine hK _ _ ?_
     clear hK K
     refine wpAny_ready (rs := [2]) (by kernel_rfl) (by simp) ?_
     refine AllReady.cons rfl (fun K hK => ?_) ?_
     ·go_simp
      refine hK _ _ ?_
      clear hK K
      refine wpAny_ready (rs := [4]) (by kernel_rfl) (by simp) ?_
      refine AllReady.cons rfl (fun K hK => ?_) ?_
      ·go_simp
       refine HBK.out.mono ?_
       rintro e w4 ⟨rfl, hb4⟩
       have hP := HP.out w4 hb4
       obtain ⟨u0, u1, v1⟩ := HC.out w4 hb4
       refine hK _ _ ?_
       clear hK K
       refine wpAny_ready (rs := [7]) (by kernel_rfl) (by simp) ?_
       refine AllReady.cons rfl (fun K hK => ?_) ?_
       ·go_simp
        refine hP.mono ?_
        rintro e w6 ⟨rfl, hm6, hg6⟩
        refine hK _ _ ?_
        clear hK K
        refine wpAny_done (by kernel_rfl) ?_ _
        obtain ⟨hR1, hR2⟩ := HRel.out w4 w6 hb4 hm6 hg6
        clear hm6 hg6 hP hb4 u0 u1 v1
        go_wp2_with fail
        go_roundw
        case rel => exact ⟨k + 1, hlt, by simp, hR1, hR2⟩
        case measure => simp [intOf]; exact meas_succ hlt
       exact AllReady.nil
      exact AllReady.nil
     exact AllReady.nil
    exact AllReady.nil
   refine AllReady.cons rfl (fun K hK => ?_) ?_
   ·go_simp
    refine hK _ _ ?_
    clear hK K
    refine wpAny_ready (rs := [0, 4, 6]) (by kernel_rfl) (by simp) ?_
    refine AllReady.cons rfl (fun K hK => ?_) ?_
    ·go_simp
     refine hK _ _ ?_
     clear hK K
     refine wpAny_ready (rs := [4, 6]) (by kernel_rfl) (by simp) ?_
     refine AllReady.cons rfl (fun K hK => ?_) ?_
     ·go_simp
      refine HBK.out.mono ?_
      rintro e w4 ⟨rfl, hb4⟩
      have hP := HP.out w4 hb4
      obtain ⟨u0, u1, v1⟩ := HC.out w4 hb4
      refine hK _ _ ?_
      clear hK K
      refine wpAny_ready (rs := [6]) (by kernel_rfl) (by simp) ?_
      refine AllReady.cons rfl (fun K hK => ?_) ?_
      ·go_simp
       refine hK _ _ ?_
       clear hK K
       refine wpAny_ready (rs := [7]) (by kernel_rfl) (by simp) ?_
       refine AllReady.cons rfl (fun K hK => ?_) ?_
       ·go_simp
        refine hP.mono ?_
        rintro e w6 ⟨rfl, hm6, hg6⟩
        refine hK _ _ ?_
        clear hK K
        refine wpAny_done (by kernel_rfl) ?_ _
        obtain ⟨hR1, hR2⟩ := HRel.out w4 w6 hb4 hm6 hg6
        clear hm6 hg6 hP hb4 u0 u1 v1
        go_wp2_with fail
        go_roundw
        case rel => exact ⟨k + 1, hlt, by simp, hR1, hR2⟩
        case measure => simp [intOf]; exact meas_succ hlt
       exact AllReady.nil
      exact AllReady.nil
     refine AllReady.cons rfl (fun K hK => ?_) ?_
     ·go_simp
      refine hK _ _ ?_
      clear hK K
      refine wpAny_ready (rs := [4]) (by kernel_rfl) (by simp) ?_
      refine AllReady.cons rfl (fun K hK => ?_) ?_
      ·go_simp
       refine HBK.out.mono ?_
       rintro e w4 ⟨rfl, hb4⟩
       have hP := HP.out w4 hb4
       obtain ⟨u0, u1, v1⟩ := HC.out w4 hb4
       refine hK _ _ ?_
       clear hK K
       refine wpAny_ready (rs := [7]) (by kernel_rfl) (by simp) ?_
       refine AllReady.cons rfl (fun K hK => ?_) ?_
       ·go_simp
        refine hP.mono ?_
        rintro e w6 ⟨rfl, hm6, hg6⟩
        refine hK _ _ ?_
        clear hK K
        refine wpAny_done (by kernel_rfl) ?_ _
        obtain ⟨hR1, hR2⟩ := HRel.out w4 w6 hb4 hm6 hg6
        clear hm6 hg6 hP hb4 u0 u1 v1
        go_wp2_with fail
        go_roundw
        case rel => exact ⟨k + 1, hlt, by simp, hR1, hR2⟩
        case measure => simp [intOf]; exact meas_succ hlt
       exact AllReady.nil
      exact AllReady.nil
     exact AllReady.nil
    refine AllReady.cons rfl (fun K hK => ?_) ?_
    ·go_simp
     refine HBK.out.mono ?_
     rintro e w4 ⟨rfl, hb4⟩
     have hP := HP.out w4 hb4
     obtain ⟨u0, u1, v1⟩ := HC.out w4 hb4
     refine hK _ _ ?_
     clear hK K
     refine wpAny_ready (rs := [0, 6]) (by kernel_rfl) (by simp) ?_
     refine AllReady.cons rfl (fun K hK => ?_) ?_
     ·go_simp
      refine hK _ _ ?_
      clear hK K
      refine wpAny_ready (rs := [6]) (by kernel_rfl) (by simp) ?_
      refine AllReady.cons rfl (fun K hK => ?_) ?_
      ·go_simp
       refine hK _ _ ?_
       clear hK K
       refine wpAny_ready (rs := [7]) (by kernel_rfl) (by simp) ?_
       refine AllReady.cons rfl (fun K hK => ?_) ?_
       ·go_simp
        refine hP.mono ?_
        rintro e w6 ⟨rfl, hm6, hg6⟩
        refine hK _ _ ?_
        clear hK K
        refine wpAny_done (by kernel_rfl) ?_ _
        obtain ⟨hR1, hR2⟩ := HRel.out w4 w6 hb4 hm6 hg6
        clear hm6 hg6 hP hb4 u0 u1 v1
        go_wp2_with fail
        go_roundw
        case rel => exact ⟨k + 1, hlt, by simp, hR1, hR2⟩
        case measure => simp [intOf]; exact meas_succ hlt
       exact AllReady.nil
      exact AllReady.nil
     refine AllReady.cons rfl (fun K hK => ?_) ?_
     ·go_simp
      refine hK _ _ ?_
      clear hK K
      refine wpAny_ready (rs := [0]) (by kernel_rfl) (by simp) ?_
      refine AllReady.cons rfl (fun K hK => ?_) ?_
      ·go_simp
       refine hK _ _ ?_
       clear hK K
       refine wpAny_ready (rs := [7]) (by kernel_rfl) (by simp) ?_
       refine AllReady.cons rfl (fun K hK => ?_) ?_
       ·go_simp
        refine hP.mono ?_
        rintro e w6 ⟨rfl, hm6, hg6⟩
        refine hK _ _ ?_
        clear hK K
        refine wpAny_done (by kernel_rfl) ?_ _
        obtain ⟨hR1, hR2⟩ := HRel.out w4 w6 hb4 hm6 hg6
        clear hm6 hg6 hP hb4 u0 u1 v1
        go_wp2_with fail
        go_roundw
        case rel => exact ⟨k + 1, hlt, by simp, hR1, hR2⟩
        case measure => simp [intOf]; exact meas_succ hlt
       exact AllReady.nil
      exact AllReady.nil
     exact AllReady.nil
    refine AllReady.cons rfl (fun K hK => ?_) ?_
    ·go_simp
     refine hK _ _ ?_
     clear hK K
     refine wpAny_ready (rs := [0, 4]) (by kernel_rfl) (by simp) ?_
     refine AllReady.cons rfl (fun K hK => ?_) ?_
     ·go_simp
      refine hK _ _ ?_
      clear hK K
      refine wpAny_ready (rs := [4]) (by kernel_rfl) (by simp) ?_
      refine AllReady.cons rfl (fun K hK => ?_) ?_
      ·go_simp
       refine HBK.out.mono ?_
       rintro e w4 ⟨rfl, hb4⟩
       have hP := HP.out w4 hb4
       obtain ⟨u0, u1, v1⟩ := HC.out w4 hb4
       refine hK _ _ ?_
       clear hK K
       refine wpAny_ready (rs := [7]) (by kernel_rfl) (by simp) ?_
       refine AllReady.cons rfl (fun K hK => ?_) ?_
       ·go_simp
        refine hP.mono ?_
        rintro e w6 ⟨rfl, hm6, hg6⟩
        refine hK _ _ ?_
        clear hK K
        refine wpAny_done (by kernel_rfl) ?_ _
        obtain ⟨hR1, hR2⟩ := HRel.out w4 w6 hb4 hm6 hg6
        clear hm6 hg6 hP hb4 u0 u1 v1
        go_wp2_with fail
        go_roundw
        case rel => exact ⟨k + 1, hlt, by simp, hR1, hR2⟩
        case measure => simp [intOf]; exact meas_succ hlt
       exact AllReady.nil
      exact AllReady.nil
     refine AllReady.cons rfl (fun K hK => ?_) ?_
     ·go_simp
      refine HBK.out.mono ?_
      rintro e w4 ⟨rfl, hb4⟩
      have hP := HP.out w4 hb4
      obtain ⟨u0, u1, v1⟩ := HC.out w4 hb4
      refine hK _ _ ?_
      clear hK K
      refine wpAny_ready (rs := [0]) (by kernel_rfl) (by simp) ?_
      refine AllReady.cons rfl (fun K hK => ?_) ?_
      ·go_simp
       refine hK _ _ ?_
       clear hK K
       refine wpAny_ready (rs := [7]) (by kernel_rfl) (by simp) ?_
       refine AllReady.cons rfl (fun K hK => ?_) ?_
       ·go_simp
        refine hP.mono ?_
        rintro e w6 ⟨rfl, hm6, hg6⟩
        refine hK _ _ ?_
        clear hK K
        refine wpAny_done (by kernel_rfl) ?_ _
        obtain ⟨hR1, hR2⟩ := HRel.out w4 w6 hb4 hm6 hg6
        clear hm6 hg6 hP hb4 u0 u1 v1
        go_wp2_with fail
        go_roundw
        case rel => exact ⟨k + 1, hlt, by simp, hR1, hR2⟩
        case measure => simp [intOf]; exact meas_succ hlt
       exact AllReady.nil
      exact AllReady.nil
     exact AllReady.nil
    exact AllReady.nil
   refine AllReady.cons rfl (fun K hK => ?_) ?_
   ·go_simp
    refine hK _ _ ?_
    clear hK K
    refine wpAny_ready (rs := [0, 2]) (by kernel_rfl) (by simp) ?_
    refine AllReady.cons rfl (fun K hK => ?_) ?_
    ·go_simp
     refine hK _ _ ?_
     clear hK K
     refine wpAny_ready (rs := [2]) (by kernel_rfl) (by simp) ?_
     refine AllReady.cons rfl (fun K hK => ?_) ?_
     ·go_simp
      refine hK _ _ ?_
      clear hK K
      refine wpAny_ready (rs := [4]) (by kernel_rfl) (by simp) ?_
      refine AllReady.cons rfl (fun K hK => ?_) ?_
      ·go_simp
       refine HBK.out.mono ?_
       rintro e w4 ⟨rfl, hb4⟩
       have hP := HP.out w4 hb4
       obtain ⟨u0, u1, v1⟩ := HC.out w4 hb4
       refine hK _ _ ?_
       clear hK K
       refine wpAny_ready (rs := [7]) (by kernel_rfl) (by simp) ?_
       refine AllReady.cons rfl (fun K hK => ?_) ?_
       ·go_simp
        refine hP.mono ?_
        rintro e w6 ⟨rfl, hm6, hg6⟩
        refine hK _ _ ?_
        clear hK K
        refine wpAny_done (by kernel_rfl) ?_ _
        obtain ⟨hR1, hR2⟩ := HRel.out w4 w6 hb4 hm6 hg6
        clear hm6 hg6 hP hb4 u0 u1 v1
        go_wp2_with fail
        go_roundw
        case rel => exact ⟨k + 1, hlt, by simp, hR1, hR2⟩
        case measure => simp [intOf]; exact meas_succ hlt
       exact AllReady.nil
      exact AllReady.nil
     exact AllReady.nil
    refine AllReady.cons rfl (fun K hK => ?_) ?_
    ·go_simp
     refine hK _ _ ?_
     clear hK K
     refine wpAny_ready (rs := [0, 4]) (by kernel_rfl) (by simp) ?_
     refine AllReady.cons rfl (fun K hK => ?_) ?_
     ·go_simp
      refine hK _ _ ?_
      clear hK K
      refine wpAny_ready (rs := [4]) (by kernel_rfl) (by simp) ?_
      refine AllReady.cons rfl (fun K hK => ?_) ?_
      ·go_simp
       refine HBK.out.mono ?_
       rintro e w4 ⟨rfl, hb4⟩
       have hP := HP.out w4 hb4
       obtain ⟨u0, u1, v1⟩ := HC.out w4 hb4
       refine hK _ _ ?_
       clear hK K
       refine wpAny_ready (rs := [7]) (by kernel_rfl) (by simp) ?_
       refine AllReady.cons rfl (fun K hK => ?_) ?_
       ·go_simp
        refine hP.mono ?_
        rintro e w6 ⟨rfl, hm6, hg6⟩
        refine hK _ _ ?_
        clear hK K
        refine wpAny_done (by kernel_rfl) ?_ _
        obtain ⟨hR1, hR2⟩ := HRel.out w4 w6 hb4 hm6 hg6
        clear hm6 hg6 hP hb4 u0 u1 v1
        go_wp2_with fail
        go_roundw
        case rel => exact ⟨k + 1, hlt, by simp, hR1, hR2⟩
        case measure => simp [intOf]; exact meas_succ hlt
       exact AllReady.nil
      exact AllReady.nil
     refine AllReady.cons rfl (fun K hK => ?_) ?_
     ·go_simp
      refine HBK.out.mono ?_
      rintro e w4 ⟨rfl, hb4⟩
      have hP := HP.out w4 hb4
      obtain ⟨u0, u1, v1⟩ := HC.out w4 hb4
      refine hK _ _ ?_
      clear hK K
      refine wpAny_ready (rs := [0]) (by kernel_rfl) (by simp) ?_
      refine AllReady.cons rfl (fun K hK => ?_) ?_
      ·go_simp
       refine hK _ _ ?_
       clear hK K
       refine wpAny_ready (rs := [7]) (by kernel_rfl) (by simp) ?_
       refine AllReady.cons rfl (fun K hK => ?_) ?_
       ·go_simp
        refine hP.mono ?_
        rintro e w6 ⟨rfl, hm6, hg6⟩
        refine hK _ _ ?_
        clear hK K
        refine wpAny_done (by kernel_rfl) ?_ _
        obtain ⟨hR1, hR2⟩ := HRel.out w4 w6 hb4 hm6 hg6
        clear hm6 hg6 hP hb4 u0 u1 v1
        go_wp2_with fail
        go_roundw
        case rel => exact ⟨k + 1, hlt, by simp, hR1, hR2⟩
        case measure => simp [intOf]; exact meas_succ hlt
       exact AllReady.nil
      exact AllReady.nil
     exact AllReady.nil
    exact AllReady.nil
   exact AllReady.nil
   -- END
  ·obtain rfl : k = len := by omega
   have hMl : MapIs wr b k (hiPuts [] (l.map fun b => (hiHalf b.1, b.2))) := by have := hM; rwa [List.take_of_length_le (by rw [← HLL.out]; exact Nat.le_refl _)] at this
   have hup := take_ups l k
   rw [List.take_of_length_le (by rw [← HLL.out]; exact Nat.le_refl _)] at hup
   obtain ⟨hb1', hb2'⟩ := half_fin l f hf hbd hbu
   have HDn := Lib.hid (hdone9_any b k ((f : Int) - 1) _ wr hMl hup hb1' hb2' (by have := hiPuts_len (l.map fun b => (hiHalf b.1, b.2)) []; simp at this; have := HLL.out; omega) (by omega))
   rw [show hiDone (hiPuts [] (l.map fun b => (hiHalf b.1, b.2))) = hiLow l from rfl] at HDn
   have HE := Lib.hid (fun w7 a' len' cap' => hist_out (w := w) (w6 := wr) (w7 := w7) (b := b) (a := a') (len := len') (cap := cap') (f := (f : Int) - 1) (l := hiLow l) (by omega) hXr hBw)
   obtain ⟨u0, u1⟩ := cl2 hXx
   clear hXw hXr hXx hM hMl hG hBw hup hb1' hb2'
   go_wp2_with fail
   refine HDn.out.mono ?_
   rintro e w7 ⟨a', len', cap', rfl, hS7, ha7, hg7⟩
   obtain ⟨hR7, hY7⟩ := HE.out w7 a' len' cap' hS7 ha7 hg7
   obtain ⟨m0, m1⟩ := cl2 hR7
   obtain ⟨n0, n1⟩ := cz2 hR7
   have HY7 := Lib.hid hY7
   clear hR7 hY7 hS7 ha7 hg7
   go_wp2_with fail
   obtain ⟨hX8, hS8, hB8⟩ := HY7.out
   generalize (w7.setCell ⟨w.heap.size + 1, 0, none⟩ (.int .i64 ((f : Int) - 1))).setCell ⟨w.heap.size + 1, 1, none⟩ (.slice a' len' cap') = V at hX8 hS8 hB8 ⊢
   obtain ⟨q0, q1⟩ := cl2 hX8
   exact bodyPost_ret (v := .tuple #[.agg #[.int .i64 ((f : Int) - 1), .slice a' len' cap'], .int .i64 0]) (by simp [results, Tryz.f196, go_sem, q0, q1]) rfl ⟨a', len', cap', rfl, hS8, hB8⟩
end Go.Proofs.YtcbbenncdainfaaGreatDoor
namespace Go.Proofs.YtcbbenncdainfaaGreatDoor
open Go Go.RowKit Go.Shelf
def is08 (r c : Int) : Bool := (decide (1 ≤ r) && decide (r ≤ 4)) && (((c == 4 || c == 8) || c == 16) || c == 32)
theorem is08_shape (r c : Int) (hc : I64 c) : is08 r c = isShapeB r c := by
 unfold is08 isShapeB
 by_cases h : 4 ≤ c ∧ c ≤ 32
 ·obtain ⟨h1, h2⟩ := h
  obtain ⟨n, rfl⟩ : ∃ n : Nat, c = n := ⟨c.toNat, by omega⟩
  have key : ∀ n ∈ List.range 33, 4 ≤ n → ((((n : Int) == 4 || (n : Int) == 8) || (n : Int) == 16) || (n : Int) == 32) = (bits .and .i64 (n : Int) ((n : Int) - 1) == 0) := by decide +kernel
  rw [key n (List.mem_range.2 (by omega)) (by omega), decide_eq_true h1, decide_eq_true h2, Bool.and_true, Bool.and_true]
 ·have e1 : (((c == 4 || c == 8) || c == 16) || c == 32) = false := by simp; omega
  have e2 : (decide (4 ≤ c) && decide (c ≤ 32)) = false := by simp; omega
  rw [e1, Bool.and_false, Bool.and_assoc (decide (1 ≤ r) && decide (r ≤ 4)), e2, Bool.and_false, Bool.false_and]
set_option maxHeartbeats 1000000 in
theorem ref08_is_any (r c : Int) (w : World) : Calls Tryz.prog 81 #[.int .i64 r, .int .i64 c] w fun e w' => e = .returned (.bool (is08 r c)) ∧ w' = w := by
 by_cases h1 : 1 ≤ r
 case neg =>
  have H9 : Hid (is08 r c = false) := by rw [Hid, is08, decide_eq_false h1]; rfl
  generalize is08 r c = b at H9 ⊢
  go_enter Tryz.func81, Tryz.ntmps81
  go_wp2_with fail
  go_ret
  exact ⟨by rw [H9.out]; rfl, rfl⟩
 by_cases h2 : r ≤ 4
 case neg =>
  have H9 : Hid (is08 r c = false) := by rw [Hid, is08, decide_eq_false h2, Bool.and_false]; rfl
  generalize is08 r c = b at H9 ⊢
  go_enter Tryz.func81, Tryz.ntmps81
  go_wp2_with fail
  go_ret
  exact ⟨by rw [H9.out]; rfl, rfl⟩
 have H9 : Hid (is08 r c = (((c == 4 || c == 8) || c == 16) || c == 32)) := by rw [Hid, is08, decide_eq_true h1, decide_eq_true h2]; rfl
 generalize is08 r c = b at H9 ⊢
 by_cases e4 : c = 4
 ·have H8 : Hid (b = true) := by rw [Hid, H9.out, e4]; rfl
  clear H9
  subst e4
  go_enter Tryz.func81, Tryz.ntmps81
  go_wp2_with fail
  go_ret
  exact ⟨by rw [H8.out]; rfl, rfl⟩
 by_cases e8 : c = 8
 ·have H8 : Hid (b = true) := by rw [Hid, H9.out, e8]; rfl
  clear H9 e4
  subst e8
  go_enter Tryz.func81, Tryz.ntmps81
  go_wp2_with fail
  go_ret
  exact ⟨by rw [H8.out]; rfl, rfl⟩
 by_cases e16 : c = 16
 ·have H8 : Hid (b = true) := by rw [Hid, H9.out, e16]; rfl
  clear H9 e4 e8
  subst e16
  go_enter Tryz.func81, Tryz.ntmps81
  go_wp2_with fail
  go_ret
  exact ⟨by rw [H8.out]; rfl, rfl⟩
 have t4 : (c == 4) = false := beq_eq_false_iff_ne.2 e4
 have t8 : (c == 8) = false := beq_eq_false_iff_ne.2 e8
 have t16 : (c == 16) = false := beq_eq_false_iff_ne.2 e16
 by_cases e32 : c = 32
 ·have H8 : Hid (b = true) := by rw [Hid, H9.out, e32]; rfl
  clear H9 e4 e8 e16 t4 t8 t16
  subst e32
  go_enter Tryz.func81, Tryz.ntmps81
  go_wp2_with fail
  go_ret
  exact ⟨by rw [H8.out]; rfl, rfl⟩
 ·have t32 : (c == 32) = false := beq_eq_false_iff_ne.2 e32
  have H8 : Hid (b = false) := by rw [Hid, H9.out, t4, t8, t16, t32]; rfl
  clear H9 e4 e8 e16 e32
  go_enter Tryz.func81, Tryz.ntmps81
  go_wp2_with fail
  go_ret
  exact ⟨by rw [H8.out]; rfl, rfl⟩
set_option maxRecDepth 100000 in
set_option maxHeartbeats 1000000 in
theorem ref08_Right_any (r c : Int) (a : Option Addr) (len cap : Nat) (l : List Int) (w : World) (hc : I64 c) (hlen : len = l.length) :
  Calls Tryz.prog 56 #[.agg #[.int .i64 r, .int .i64 c, .slice a len cap]] w fun e w' => e = .returned (.bool (cmRight r c l)) ∧ Below w.heap.size w w' := by
 obtain ⟨W0, hW0, hX0, hB0, hs0⟩ := boxes1 w #[.int .i64 r, .int .i64 c, .slice a len cap] 28
 have HIS : Hid (∀ w, Calls Tryz.prog 81 #[.int .i64 r, .int .i64 c] w fun e w' => e = .returned (.bool (is08 r c)) ∧ w' = w) := fun w => ref08_is_any r c w
 have HB0 := Lib.hid hB0
 have HR : Hid (cmRight r c l = (is08 r c && ((len : Int) == r * c))) := by rw [Hid, cmRight, is08_shape r c hc, hlen]
 obtain ⟨d0, d1, d2⟩ := cl3 hX0
 clear hX0 hB0 hlen
 generalize cmRight r c l = bR at HR ⊢
 cases hi : is08 r c with
 | false =>
  rw [hi] at HIS
  have H9 : Hid (bR = false) := by rw [Hid, HR.out, hi]; rfl
  clear hi HR
  go_enter Tryz.func56, Tryz.ntmps56
  go_wp2_with (go_at_call 81; refine (HIS.out _).mono ?_; rintro e w1 ⟨rfl, rfl⟩)
  go_ret
  exact ⟨by rw [H9.out]; rfl, HB0.out⟩
 | true =>
  rw [hi] at HIS
  have h1 : 1 ≤ r ∧ r ≤ 4 ∧ 4 ≤ c ∧ c ≤ 32 := by
   simp only [is08, Bool.and_eq_true, Bool.or_eq_true, decide_eq_true_eq, beq_iff_eq] at hi
   omega
  obtain ⟨r1, r4, c4, c32⟩ := h1
  have hmul : 0 ≤ r * c ∧ r * c ≤ 128 := by
   refine ⟨Int.mul_nonneg (by omega) (by omega), ?_⟩
   calc r * c ≤ 4 * c := Int.mul_le_mul_of_nonneg_right r4 (by omega)
    _ ≤ 128 := by omega
  obtain ⟨m0, m1⟩ := hmul
  have H9 : Hid (bR = ((len : Int) == r * c)) := by rw [Hid, HR.out, hi]; rfl
  generalize hrc : r * c = rc at H9 m0 m1
  have hw : IntKind.i64.wrap (r * c) = rc := by rw [hrc]; exact IntWalk.i64_in _ (by omega)
  clear hi HR
  go_enter Tryz.func56, Tryz.ntmps56
  go_wp2_with (go_at_call 81; refine (HIS.out _).mono ?_; rintro e w1 ⟨rfl, rfl⟩)
  go_ret
  exact ⟨by rw [H9.out]; rfl, HB0.out⟩
set_option maxRecDepth 100000 in
set_option maxHeartbeats 1000000 in
theorem ref08_Same_any (r1 c1 : Int) (a1 : Option Addr) (len1 cap1 : Nat) (l1 : List Int) (r2 c2 : Int) (a2 : Option Addr) (len2 cap2 : Nat) (l2 : List Int) (w : World) (h1 : SlE encU 1 w.heap.size w a1 len1 l1) (h2 : SlE encU 1 w.heap.size w a2 len2 l2) (hm : len1 ≤ maxLen) :
  Calls Tryz.prog 42 #[.agg #[.int .i64 r1, .int .i64 c1, .slice a1 len1 cap1], .agg #[.int .i64 r2, .int .i64 c2, .slice a2 len2 cap2]] w fun e w' => e = .returned (.bool ((r1 == r2 && c1 == c2) && l1 == l2)) ∧ Below w.heap.size w w' := by
 obtain ⟨W0, hW0, hX0, hX1, hB0, hs0⟩ := boxes2 w #[.int .i64 r1, .int .i64 c1, .slice a1 len1 cap1] 28 #[.int .i64 r2, .int .i64 c2, .slice a2 len2 cap2] 28
 have HN := Lib.hid (ref06_Numbers_any a1 len1 cap1 l1 a2 len2 cap2 l2 W0 (h1.go hB0) (h2.go hB0) hm)
 have HB0 := Lib.hid hB0
 obtain ⟨d0, d1, d2⟩ := cl3 hX0
 obtain ⟨f0, f1, f2⟩ := cl3 hX1
 clear hX0 hX1 hB0 h1 h2
 generalize (l1 == l2) = bl at HN ⊢
 cases hr : (r1 == r2) with
 | false =>
  go_enter Tryz.func42, Tryz.ntmps42
  go_wp2_with fail
  go_ret
  exact ⟨rfl, HB0.out⟩
 | true =>
  cases hc : (c1 == c2) with
  | false =>
   go_enter Tryz.func42, Tryz.ntmps42
   go_wp2_with fail
   go_ret
   exact ⟨rfl, HB0.out⟩
  | true =>
   go_enter Tryz.func42, Tryz.ntmps42
   go_wp2_with (go_at_call 41; refine HN.out.mono ?_; rintro e w1 ⟨rfl, hb1⟩)
   go_ret
   exact ⟨rfl, HB0.out.trans (hb1.mono HB0.out.size)⟩
end Go.Proofs.YtcbbenncdainfaaGreatDoor
namespace Go.Proofs.YtcbbenncdainfaaGreatDoor
open Go Go.RowKit Go.Shelf
theorem bitLen_half (v : Nat) (h : v < 2 ^ 64) (h0 : v ≠ 0) : Lib.bitLen v = 1 + Lib.bitLen (v / 2) := by
 obtain ⟨a1, a2, a3⟩ := bitLen_bd v h h0
 by_cases h1 : v = 1
 ·subst h1; rfl
 obtain ⟨b1, b2, b3⟩ := bitLen_bd (v / 2) (by omega) (by omega)
 generalize Lib.bitLen v = m at *
 generalize Lib.bitLen (v / 2) = n at *
 obtain ⟨m', rfl⟩ : ∃ m', m = m' + 1 := ⟨m - 1, by omega⟩
 obtain ⟨n', rfl⟩ : ∃ n', n = n' + 1 := ⟨n - 1, by omega⟩
 simp only [Nat.add_sub_cancel, Nat.pow_succ] at *
 have c1 : 2 ^ n' < 2 ^ m' := by
  have : 2 ^ n' * 2 ≤ v := by omega
  have h2 : 2 ^ n' * 2 < 2 ^ m' * 2 := by omega
  omega
 have c2 : m' < n' + 2 := by
  apply (Nat.pow_lt_pow_iff_right (a := 2) (by omega)).1
  rw [Nat.pow_succ, Nat.pow_succ]
  omega
 have c3 := (Nat.pow_lt_pow_iff_right (a := 2) (by omega)).1 c1
 omega
theorem bitLen_0 : Lib.bitLen 0 = 0 := rfl
theorem ref09_digits_any (v : Nat) (hv : v < 2 ^ 64) (w : World) : Calls Tryz.prog 93 #[.int .u64 v] w fun e w' => e = .returned (.int .i64 (Lib.bitLen v)) ∧ w' = w := by
 have h64 : Lib.bitLen v ≤ 64 := by
  by_cases h : v = 0
  ·subst h; decide
  ·exact bitLen_64 v hv h
 have HD : Hid (Lib.bitLen v = 0 + Lib.bitLen v) := by rw [Hid, Nat.zero_add]
 have HV : Hid (v < 2 ^ 64) := hv
 generalize hd : Lib.bitLen v = d at h64 HD ⊢
 have HD2 : Hid (d = 0 + Lib.bitLen v) := by rw [Hid, Nat.zero_add, hd]
 clear HD hd hv
 go_enter Tryz.func93, Tryz.ntmps93
 go_wp2_with fail
 go_loopw [0, 3] (fun x n wr => ∃ (k u : Nat), x = .int .u64 u ∧ n = .int .i64 k ∧ Hid (u < 2 ^ 64) ∧ Hid (d = k + Lib.bitLen u) ∧ wr = w) (fun _ n _ => 65 - (intOf n).toNat)
 case atStart => exact ⟨0, v, rfl, rfl, HV, HD2, rfl⟩
 case round =>
  obtain ⟨k, u, rfl, rfl, HU, HK, rfl⟩ := hrel
  by_cases hu : u = 0
  ·subst hu
   have H9 : Hid (d = k) := by rw [Hid, HK.out, bitLen_0]; rfl
   go_wp2_with fail
   go_ret
   exact ⟨by rw [H9.out]; rfl, rfl⟩
  ·have H9 : Hid (d = k + 1 + Lib.bitLen (u / 2)) := by rw [Hid, HK.out, bitLen_half u HU.out hu]; omega
   have hu0 : (0 : Int) < u := by omega
   have hk : k < 64 := by
    have := H9.out
    omega
   have H8 : Hid (u / 2 < 2 ^ 64) := by have := HU.out; rw [Hid]; omega
   have hu64 : (u : Int) ≤ 18446744073709551615 := by have := HU.out; omega
   go_wp2_with fail
   go_roundw
   case rel => exact ⟨k + 1, u / 2, by go_num, by go_num, H8, H9, trivial⟩
   case measure => simp [intOf]; omega
def bkB (v i : Nat) : Nat := v * 2 ^ (64 - (Lib.bitLen v - 1)) % 2 ^ 64 / 2 ^ (64 - i)
theorem bkB_0 (v : Nat) : bkB v 0 = 0 := Nat.div_eq_of_lt (Nat.mod_lt _ (by decide))
theorem bkB_lt (v i : Nat) (hi : i ≤ 3) : bkB v i < 2 ^ i := by
 unfold bkB
 rw [Nat.div_lt_iff_lt_mul (Nat.two_pow_pos _), ← Nat.pow_add, show i + (64 - i) = 64 by omega]
 exact Nat.mod_lt _ (by decide)
theorem bkB_le (v i : Nat) (hi : i ≤ 3) : bkB v i < 8 := by
 have h := bkB_lt v i hi
 have : 2 ^ i ≤ 2 ^ 3 := Nat.pow_le_pow_right (by omega) hi
 omega
theorem bkB_succ (v i : Nat) (hi : i < 3) : bkB v (i + 1) = 2 * bkB v i + v * 2 ^ (64 - (Lib.bitLen v - 1)) / 2 ^ (63 - i) % 2 := by
 unfold bkB
 generalize v * 2 ^ (64 - (Lib.bitLen v - 1)) = y
 rcases (by omega : i = 0 ∨ i = 1 ∨ i = 2) with rfl | rfl | rfl <;> simp only [Nat.reduceSub, Nat.reduceAdd, Nat.reducePow] <;> omega
theorem bkB_one (v i : Nat) (h0 : 1 ≤ Lib.bitLen v) (hb : i + 2 ≤ Lib.bitLen v) (h64 : Lib.bitLen v ≤ 64) : v * 2 ^ (64 - (Lib.bitLen v - 1)) / 2 ^ (63 - i) = v / 2 ^ (Lib.bitLen v - 2 - i) := by
 generalize Lib.bitLen v = b at *
 have e : 63 - i = (64 - (b - 1)) + (b - 2 - i) := by omega
 rw [e, Nat.pow_add, ← Nat.div_div_eq_div_mul, Nat.mul_div_cancel _ (Nat.two_pow_pos _)]
theorem bkB_nil (v i : Nat) (h0 : 1 ≤ Lib.bitLen v) (hb : Lib.bitLen v < i + 2) (hi : i < 3) : v * 2 ^ (64 - (Lib.bitLen v - 1)) / 2 ^ (63 - i) % 2 = 0 := by
 generalize Lib.bitLen v = b at *
 have e : 64 - (b - 1) = (63 - i) + ((i + 1 - b) + 1) := by omega
 rw [e, Nat.pow_add, ← Nat.mul_assoc, Nat.mul_comm v, Nat.mul_assoc, Nat.mul_div_cancel_left _ (Nat.two_pow_pos _), Nat.pow_succ, ← Nat.mul_assoc, Nat.mul_mod_left]
theorem hiBk_eq (f v : Nat) (h : v ≠ 0) : hiBk f v = 1 + (((Lib.bitLen v - 1) * 2 ^ f + bkB v f : Nat) : Int) := by
 unfold hiBk bkB
 rw [if_neg h, Int.toNat_natCast]
set_option maxHeartbeats 1000000 in
theorem ref09_Bucket_any (f v : Nat) (hf : f ≤ 3) (hv : v < 2 ^ 64) (w : World) : Calls Tryz.prog 78 #[.int .i64 f, .int .u64 v] w fun e w' => e = .returned (.int .i64 (hiBk f v)) ∧ w' = w := by
 by_cases h0 : v = 0
 ·subst h0
  have H9 : Hid (hiBk f 0 = 0) := by rw [Hid]; rfl
  generalize hiBk f 0 = r at H9 ⊢
  have hf0 : (0 : Int) ≤ f ∧ (f : Int) ≤ 3 := by omega
  obtain ⟨g1, g2⟩ := hf0
  go_enter Tryz.func78, Tryz.ntmps78
  go_wp2_with fail
  go_ret
  exact ⟨by rw [H9.out]; rfl, rfl⟩
 obtain ⟨b1, -, -⟩ := bitLen_bd v hv h0
 have b2 := bitLen_64 v hv h0
 have HE := Lib.hid (hiBk_eq f v h0)
 generalize hiBk f v = r at HE ⊢
 have HDi := Lib.hid (ref09_digits_any v hv)
 have HS : Hid (∀ j, j < 3 → bkB v (j + 1) = 2 * bkB v j + (if j + 2 ≤ Lib.bitLen v then v / 2 ^ (Lib.bitLen v - 2 - j) % 2 else 0)) := fun j hj => by
  rw [bkB_succ v j hj]
  split
  ·rename_i h; rw [bkB_one v j b1 h b2]
  ·rename_i h; rw [bkB_nil v j b1 (by omega) hj]
 have HB0 := Lib.hid (bkB_0 v)
 have HBl : Hid (∀ j, j ≤ 3 → bkB v j < 8) := fun j hj => bkB_le v j hj
 generalize Lib.bitLen v = b at *
 have hv0 : (0 : Int) < v := by omega
 have hv64 : (v : Int) ≤ 18446744073709551615 := by omega
 have hf0 : (0 : Int) ≤ f ∧ (f : Int) ≤ 3 := by omega
 obtain ⟨g1, g2⟩ := hf0
 have hne : ((v : Int) == 0) = false := by rw [beq_eq_false_iff_ne]; omega
 clear h0 hv
 go_enter Tryz.func78, Tryz.ntmps78
 go_wp2_with (go_at_call 93; refine (HDi.out _).mono ?_; rintro e w1 ⟨rfl, rfl⟩)
 go_loopw [6, 7] (fun x i wr => ∃ (j u : Nat), i = .int .i64 ((j : Int) + 1) ∧ x = .int .i64 u ∧ j ≤ f ∧ Hid (u = bkB v j) ∧ u < 8 ∧ wr = w1) (fun _ i _ => 4 - (intOf i).toNat)
 case atStart => exact ⟨0, 0, rfl, rfl, Nat.zero_le _, HB0.out.symm, by omega, rfl⟩
 case round =>
  obtain ⟨j, u, rfl, rfl, hj, HU, hu8, rfl⟩ := hrel
  by_cases hlt : j < f
  ·have HN := Lib.hid (HS.out j (by omega))
   have HN8 := HBl.out (j + 1) (by omega)
   by_cases hc : j + 2 ≤ b
   ·obtain ⟨c, rfl⟩ : ∃ c, b = c + j + 2 := ⟨b - 2 - j, by omega⟩
    have e0 : (((c + j + 2 : Nat) : Int) - 1 - ((j : Int) + 1)) = (c : Int) := by omega
    have H9 : Hid (bkB v (j + 1) = 2 * u + v / 2 ^ c % 2) := by rw [Hid, HN.out, if_pos hc, ← HU.out, show c + j + 2 - 2 - j = c by omega]
    generalize hd : v / 2 ^ c = d at H9
    have hd2 : (v : Int) / 2 ^ c = (d : Int) := by rw [← hd]; simp
    go_wp2_with fail
    go_roundw
    case rel => exact ⟨j + 1, 2 * u + d % 2, by go_num, by go_num, by omega, H9.out.symm, by rw [← H9.out]; exact HN8, trivial⟩
    case measure => simp [intOf]; omega
   ·have H9 : Hid (bkB v (j + 1) = 2 * u) := by rw [Hid, HN.out, if_neg hc, ← HU.out]; rfl
    go_wp2_with fail
    go_roundw
    case rel => exact ⟨j + 1, 2 * u, by go_num, by go_num, by omega, H9.out.symm, by rw [← H9.out]; exact HN8, trivial⟩
    case measure => simp [intOf]; omega
  ·obtain rfl : j = f := by omega
   have H9 : Hid (r = 1 + (((b - 1) * 2 ^ j + u : Nat) : Int)) := by rw [Hid, HE.out, ← HU.out]
   rcases (by omega : j = 0 ∨ j = 1 ∨ j = 2 ∨ j = 3) with rfl | rfl | rfl | rfl
   all_goals go_wp2_with fail
   all_goals go_ret
   all_goals exact ⟨by rw [H9.out]; congr 1; show Value.int .i64 _ = Value.int .i64 _; congr 1; omega, rfl⟩
end Go.Proofs.YtcbbenncdainfaaGreatDoor
namespace Go.Proofs.YtcbbenncdainfaaGreatDoor
open Go Go.RowKit Go.Shelf
theorem bitLen_is {x m : Nat} (h1 : 2 ^ m ≤ x) (h2 : x < 2 ^ (m + 1)) (h : x < 2 ^ 64) : Lib.bitLen x = m + 1 := by
 have h0 : x ≠ 0 := by have := Nat.two_pow_pos m; omega
 obtain ⟨a1, a2, a3⟩ := bitLen_bd x h h0
 generalize Lib.bitLen x = n at *
 obtain ⟨n', rfl⟩ : ∃ n', n = n' + 1 := ⟨n - 1, by omega⟩
 rw [Nat.add_sub_cancel] at a2
 have c1 := (Nat.pow_lt_pow_iff_right (a := 2) (by omega)).1 (Nat.lt_of_le_of_lt h1 a3)
 have c2 := (Nat.pow_lt_pow_iff_right (a := 2) (by omega)).1 (Nat.lt_of_le_of_lt a2 h2)
 omega
def lowZ (b n k : Nat) : Prop := n % 2 ^ (64 - b) / 2 ^ (64 - k) = 0
theorem at_step (n k : Nat) (hk : k < 64) : n / 2 ^ (64 - (k + 1)) = 2 * (n / 2 ^ (64 - k)) + n / 2 ^ (63 - k) % 2 := by
 have e1 : 64 - (k + 1) = 63 - k := by omega
 have e2 : 64 - k = (63 - k) + 1 := by omega
 rw [e1, e2, Nat.pow_succ, ← Nat.div_div_eq_div_mul]
 generalize n / 2 ^ (63 - k) = m
 omega
theorem low_digit (b n k : Nat) (hb : b ≤ k) (hk : k < 64) (h : lowZ b n k) : n % 2 ^ (64 - b) / 2 ^ (63 - k) = n / 2 ^ (63 - k) % 2 := by
 unfold lowZ at h
 have e1 : 64 - b = (63 - k) + (k + 1 - b) := by omega
 have e2 : 64 - k = (63 - k) + 1 := by omega
 have h3 : n % 2 ^ (64 - b) / 2 ^ (63 - k) = n / 2 ^ (63 - k) % 2 ^ (k + 1 - b) := by rw [e1, Nat.pow_add, Nat.mod_mul_right_div_self]
 have h4 : n / 2 ^ (63 - k) % 2 ^ (k + 1 - b) % 2 = n / 2 ^ (63 - k) % 2 := Nat.mod_mod_of_dvd _ (by rw [show k + 1 - b = (k - b) + 1 by omega, Nat.pow_succ]; exact Nat.dvd_mul_left _ _)
 rw [e2, Nat.pow_succ, ← Nat.div_div_eq_div_mul, h3] at h
 rw [h3]
 omega
theorem low_next (b n k : Nat) (hb : b ≤ k) (hk : k < 64) (h : lowZ b n k) (hd : n / 2 ^ (63 - k) % 2 = 0) : lowZ b n (k + 1) := by
 have h1 := low_digit b n k hb hk h
 unfold lowZ
 rw [show 64 - (k + 1) = 63 - k by omega, h1, hd]
theorem low_start (b n : Nat) (_hb : b ≤ 64) : lowZ b n b := by
 unfold lowZ
 exact Nat.div_eq_of_lt (Nat.mod_lt _ (Nat.two_pow_pos _))
theorem shift_mod (b n : Nat) (hb : b ≤ 64) : n * 2 ^ b % 2 ^ 64 = n % 2 ^ (64 - b) * 2 ^ b := by
 conv => lhs; rw [show 64 = (64 - b) + b by omega, Nat.pow_add, Nat.mul_mod_mul_right]
theorem rank_one (b n k : Nat) (hb : b ≤ k) (hk : k < 64) (h : lowZ b n k) (hd : n / 2 ^ (63 - k) % 2 = 1) : hlRank b n = 1 + (k - b) := by
 have h1 := low_digit b n k hb hk h
 rw [hd] at h1
 have hq1 : 2 ^ (63 - k) ≤ n % 2 ^ (64 - b) := by
  have := Nat.div_mul_le_self (n % 2 ^ (64 - b)) (2 ^ (63 - k))
  rw [h1, Nat.one_mul] at this
  exact this
 have hq2 : n % 2 ^ (64 - b) < 2 ^ (63 - k + 1) := by
  rw [Nat.pow_succ]
  have := Nat.lt_div_mul_add (a := n % 2 ^ (64 - b)) (Nat.two_pow_pos (63 - k))
  rw [h1] at this
  omega
 unfold hlRank
 rw [shift_mod b n (by omega)]
 generalize n % 2 ^ (64 - b) = q at hq1 hq2
 have p1 : 2 ^ (63 - k + b) ≤ q * 2 ^ b := by rw [Nat.pow_add]; exact Nat.mul_le_mul_right _ hq1
 have p2 : q * 2 ^ b < 2 ^ (63 - k + b + 1) := by
  rw [show 63 - k + b + 1 = (63 - k + 1) + b by omega, Nat.pow_add]
  exact Nat.mul_lt_mul_of_pos_right hq2 (Nat.two_pow_pos b)
 have p3 : 2 ^ (63 - k + b + 1) ≤ 2 ^ 64 := Nat.pow_le_pow_right (by omega) (by omega)
 have h0 : q * 2 ^ b ≠ 0 := by have := Nat.two_pow_pos (63 - k + b); omega
 rw [if_neg h0, bitLen_is p1 p2 (by omega)]
 omega
theorem rank_none (b n : Nat) (hb : b ≤ 64) (h : lowZ b n 64) : hlRank b n = 65 - b := by
 unfold lowZ at h
 simp only [Nat.sub_self, Nat.pow_zero, Nat.div_one] at h
 unfold hlRank
 rw [shift_mod b n hb, h, Nat.zero_mul, if_pos rfl]
def refPut (l : List (Int × Int)) (p n : Int) : List (Int × Int) := if n = 0 then l else binPut l p n
theorem refPut_done (l : List (Int × Int)) (p n : Int) (h : ∀ b ∈ l, b.2 ≠ 0) (hu : BinsU l) (hn : U64 n) : refPut l p n = hiDone (binPut l p n) := by
 unfold refPut
 split
 ·rename_i h0; rw [h0, binPut_zero l _ h hu]
 ·rename_i h0; exact (hiDone_self (binPut_pos l _ n h hu hn h0)).symm
theorem hiAdd_ref (f : Int) (l : List (Int × Int)) (v : Nat) (n : Int) (h : ∀ b ∈ l, b.2 ≠ 0) (hu : BinsU l) (hn : U64 n) : hiAdd f l v n = refPut l (hiBk f v) n := (refPut_done l _ n h hu hn).symm
def refPuts (a l : List (Int × Int)) : List (Int × Int) := l.foldl (fun a b => refPut a b.1 b.2) a
theorem refPuts_eq : ∀ (l a : List (Int × Int)), (∀ b ∈ l, b.2 ≠ 0) → refPuts a l = hiPuts a l
 | [], _, _ => rfl
 | b :: l, a, h => by
  have h1 : refPut a b.1 b.2 = binPut a b.1 b.2 := if_neg (h b List.mem_cons_self)
  show refPuts (refPut a b.1 b.2) l = hiPuts (binPut a b.1 b.2) l
  rw [h1]
  exact refPuts_eq l _ (fun c hc => h c (List.mem_cons_of_mem _ hc))
theorem hiLow_ref {l : List (Int × Int)} (h : ∀ b ∈ l, b.2 ≠ 0) (hu : BinsU l) : hiLow l = refPuts [] (l.map fun b => (hiHalf b.1, b.2)) := by
 rw [hiLow_eq h hu, refPuts_eq _ _ (half_bins h hu).1]
theorem refPuts_snoc (a l : List (Int × Int)) (b : Int × Int) : refPuts a (l ++ [b]) = refPut (refPuts a l) b.1 b.2 := by unfold refPuts; rw [List.foldl_append]; rfl
theorem refPut_len (l : List (Int × Int)) (p n : Int) : (refPut l p n).length ≤ l.length + 1 := by
 unfold refPut
 split
 ·omega
 ·exact binPut_len l p n
theorem refPuts_len : ∀ (l a : List (Int × Int)), (refPuts a l).length ≤ a.length + l.length
 | [], _ => Nat.le_refl _
 | b :: l, a => by
  have h1 := refPuts_len l (refPut a b.1 b.2)
  have h2 := refPut_len a b.1 b.2
  show (refPuts (refPut a b.1 b.2) l).length ≤ _
  rw [List.length_cons]
  omega
theorem binPut_less {q m p n : Int} {t : List (Int × Int)} (h : q < p) : binPut ((q, m) :: t) p n = (q, m) :: binPut t p n := by rw [binPut, if_pos h]
theorem binPut_eq {q m n : Int} {t : List (Int × Int)} : binPut ((q, m) :: t) q n = (q, satI m n) :: t := by rw [binPut, if_neg (by omega), if_pos rfl]
theorem binPut_more {q m p n : Int} {t : List (Int × Int)} (h : ¬ q < p) (h2 : q ≠ p) : binPut ((q, m) :: t) p n = (p, n) :: (q, m) :: t := by rw [binPut, if_neg h, if_neg h2]
end Go.Proofs.YtcbbenncdainfaaGreatDoor
