/- Package hist: Lower. -/
import Derived.Test.YtcbbenncdainfaaGreatDoorZGG
namespace Go.Proofs.YtcbbenncdainfaaGreatDoor
open Go Go.RowKit Go.Shelf Go.Maps Go.Sort
theorem puts_snoc (l : List (Int × Int)) (a : List (Int × Int)) (c : Int × Int) : hiPuts a (l ++ [c]) = binPut (hiPuts a l) c.1 c.2 := by simp [hiPuts]
theorem take_ups (l : List (Int × Int)) (k : Nat) : BinUp (hiPuts [] ((l.take k).map fun b => (hiHalf b.1, b.2))) := hiPuts_up _ [] List.Pairwise.nil
theorem half_fin (l : List (Int × Int)) (f : Nat) (hf : f ≤ 3) (hbd : ∀ b ∈ l, boundsB f b.1 = true) (hbu : BinsU l) : BinsU (hiPuts [] (l.map fun b => (hiHalf b.1, b.2))) ∧ ∀ c ∈ hiPuts [] (l.map fun b => (hiHalf b.1, b.2)), I64 c.1 := by
 refine ⟨hiPuts_u64 _ [] (fun b hb => by cases hb) (fun c hc => by obtain ⟨d, hd, rfl⟩ := List.mem_map.1 hc; exact hbu d hd), fun c hc => ?_⟩
 rcases hiPuts_mem _ [] c hc with hd | ⟨d, hd, e⟩ | ⟨d, hd, e⟩
 ·cases hd
 ·cases hd
 ·obtain ⟨x, hx, rfl⟩ := List.mem_map.1 hd
  rw [e]
  have := bounds_le f hf x.1 (hbd x hx)
  unfold hiHalf I64
  show _ ∧ _
  split <;> omega
set_option maxRecDepth 100000 in
set_option maxHeartbeats 4000000 in
theorem hiLower_any (f : Nat) (l : List (Int × Int)) (a : Option Addr) (len cap : Nat) (w : World) (h1 : 1 ≤ f) (hf : f ≤ 3) (hL : SlE encB 2 w.heap.size w a len l) (hr : hiRight f l = true) (hbd : ∀ b ∈ l, boundsB f b.1 = true) (hbu : BinsU l) (hlen : len ≤ 1000) :
  Calls Tryz.prog 196 #[.agg #[.int .i64 f, .slice a len cap]] w fun e w' => ∃ a' len' cap', e = .returned (.tuple #[.agg #[.int .i64 ((f : Int) - 1), .slice a' len' cap'], .int .i64 0]) ∧ SlC encB 2 w'.heap.size w' a' len' cap' (hiLow l) ∧ Below w.heap.size w w' := by
 have HLL := Lib.hid hL.1
 have hp : ∀ b ∈ l, I64 b.1 := fun b hb => by have := bounds_le f hf b.1 (hbd b hb); unfold I64; omega
 obtain ⟨W0, hW0, hXp, hX0, hB0, hs0⟩ := boxes2 w #[.int .i64 f, .slice a len cap] 31 #[.int .i64 0, .slice none 0 0] 31
 have HRt := Lib.hid (hist_Right_any f l a len cap W0 ((hL.below hB0).mono hB0.size) (by unfold maxLen; omega) (fun b hb => (hp b hb).2))
 rw [hr] at HRt
 obtain ⟨z0, z1⟩ := cl2 hXp
 have HX0 := Lib.hid hX0
 have HXP := Lib.hid hXp
 have HB0 := Lib.hid hB0
 have HL := Lib.hid hL
 have hw1 : wrap64 ((f : Int) - 1) = (f : Int) - 1 := by unfold wrap64; omega
 have hw2 : IntKind.i64.wrap ((f : Int) - 1) = (f : Int) - 1 := IntWalk.i64_in _ (by omega)
 have HBl : Hid (∀ w1, Calls Tryz.prog 204 #[.int .i64 ((f : Int) - 1)] w1 fun e w' => ∃ b, e = .returned (.tuple #[.agg #[.map (some b), .int .i64 ((f : Int) - 1)], .nilIface]) ∧ MapIs w' b 0 [] ∧ w1.heap.size ≤ b ∧ Below w1.heap.size w1 w') := fun w1 => by
  have := hblank_any (f - 1) w1 (by omega)
  rwa [show ((f - 1 : Nat) : Int) = (f : Int) - 1 by omega] at this
 clear hL hr hX0 hB0 hXp
 go_enter Tryz.func196, Tryz.ntmps196
 go_wp2_with fail
 refine HRt.out.mono ?_
 rintro e w1 ⟨rfl, hb1⟩
 have hXp1 := known hb1 (Nat.le_refl _) HXP.out
 obtain ⟨y0, y1⟩ := cl2 hXp1
 have HXP1 := Lib.hid hXp1
 clear hXp1
 go_wp2_with fail
 refine (HBl.out _).mono ?_
 rintro e w2 ⟨b, rfl, hm2, hb2, hB2⟩
 obtain ⟨W3, hW3, hX3, hB3, hs3⟩ := boxes1 w2 #[.map (some b), .int .i64 ((f : Int) - 1)] 241
 have hB2s := hB2.size
 have hXp3 := known (hB2.trans (hB3.mono hB2s)) (Nat.le_refl _) HXP1.out
 have hXr3 := known (hB2.trans (hB3.mono hB2s)) (Nat.le_refl _) (known hb1 (Nat.le_refl _) HX0.out)
 have hM3 : MapIs W3 b 0 [] := hm2.kept (below_gb hB3 none) (by simp)
 have hb1s := hb1.size
 have hB03 : Below w.heap.size w W3 := (HB0.out.trans (hb1.mono HB0.out.size)).trans ((hB2.mono (by omega)).trans (hB3.mono (by omega)))
 have HX3 := Lib.hid hX3
 have HXR := Lib.hid hXr3
 have HXP3 := Lib.hid hXp3
 have HB03 := Lib.hid hB03
 have hbl := hm2.lt
 obtain ⟨x0, x1⟩ := cl2 hX3
 obtain ⟨q0, q1⟩ := cl2 hXp3
 clear hX3 hXr3 hXp3 hm2 hB2 hB3 hb1 hB03
 go_wp2_with fail
 go_loopw [7, 8, 9, 10, 30] (fun _ _ _ _ i wr => ∃ k : Nat, k ≤ len ∧ i = .int .i64 k ∧ MapIs wr b k (hiPuts [] ((l.take k).map fun b => (hiHalf b.1, b.2))) ∧ W3.grownBy wr (some b)) (fun _ _ _ _ i _ => len - (intOf i).toNat)
 case atStart => exact ⟨0, Nat.zero_le _, rfl, hM3, World.grownBy.refl _ _⟩
 case round =>
  obtain ⟨k, hk, rfl, hM, hG⟩ := hrel
  have hXw := (hG.block _ (Array.getElem?_eq_some_iff.1 HXP3.out).1 (fun e => by cases e; omega)).trans HXP3.out
  have hXr := (hG.block _ (Array.getElem?_eq_some_iff.1 HXR.out).1 (fun e => by cases e; omega)).trans HXR.out
  have hXx := (hG.block _ (Array.getElem?_eq_some_iff.1 HX3.out).1 (fun e => by cases e; omega)).trans HX3.out
  have hBw : Below w.heap.size w wr := HB03.out.grown hG HB03.out.size (fun j e => by cases e; omega)
  have hGs := hG.size
  by_cases hlt : k < len
  ·obtain ⟨c, b1, o1, hx, ea, hb1, p0, p1⟩ := bin_cells (HL.out.below hBw) hlt
   subst ea
   have HX := Lib.hid hx
   have hcm := List.mem_of_getElem? hx
   have hxi : I64 c.1 := hp c hcm
   have hxu : U64 c.2 := hbu c hcm
   have hcb := hbd c hcm
   obtain ⟨hlh, hlu⟩ := least_half f h1 hf c.1 hcb
   have hhi : I64 (hiHalf c.1) := by have := bounds_le f hf c.1 hcb; unfold hiHalf I64; split <;> omega
   obtain ⟨x1, x2⟩ := c
   dsimp only at p0 p1 hxi hxu hcb hlh hlu hhi
   obtain ⟨W4, hW4, hX4, hB4, hs4⟩ := boxes1 wr #[.int .i64 x1, .int .u64 x2] 123
   have HBL := Lib.hid (Bounds_least f h1 hf x1 W4 hcb)
   obtain ⟨lo, hlo⟩ : ∃ lo, hiLeast f x1 = lo := ⟨_, rfl⟩
   rw [hlo] at HBL hlu hlh
   have hXw4 := known hB4 (Nat.le_refl _) hXw
   have hXx4 := known hB4 (Nat.le_refl _) hXx
   obtain ⟨u0, u1⟩ := cl2 hX4
   obtain ⟨v0, v1⟩ := cl2 hXw4
   have HM4 : Hid (MapIs W4 b k (hiPuts [] ((l.take k).map fun b => (hiHalf b.1, b.2)))) := hM.kept (below_gb hB4 none) (by simp)
   have HX4 := Lib.hid hX4
   have HXx4 := Lib.hid hXx4
   have HG4 := Lib.hid (hG.trans (below_gb hB4 (some b)))
   clear hXw hXr hXx hX4 hXw4 hXx4 hM hB4 hG hx hBw
   go_wp2_with fail
   refine HBL.out.mono ?_
   rintro e w5 ⟨hi, rfl, hb5⟩
   have HXx5 : Hid (w5.drew.heap[w2.heap.size]? = some (.cells #[.map (some b), .int .i64 ((f : Int) - 1)] 241 (0, 0))) := known hb5.drew (Nat.le_refl _) HXx4.out
   have HX5 : Hid (w5.drew.heap[wr.heap.size]? = some (.cells #[.int .i64 x1, .int .u64 x2] 123 (0, 0))) := known hb5.drew (Nat.le_refl _) HX4.out
   have HM5 : Hid (MapIs w5.drew b k (hiPuts [] ((l.take k).map fun b => (hiHalf b.1, b.2)))) := HM4.out.kept (gb_drew (below_gb hb5 none)) (by simp)
   have HG5 : Hid (W3.grownBy w5.drew (some b)) := HG4.out.trans (gb_drew (below_gb hb5 (some b)))
   have HBK : Hid (Calls Tryz.prog 201 #[.int .i64 ((f : Int) - 1), .int .u64 lo] w5.drew fun e w' => e = .returned (.int .i64 (hiHalf x1)) ∧ Below w5.drew.heap.size w5.drew w') := by
    have := Bucket_any (f - 1) lo.toNat w5.drew (by omega) (by unfold U64 at hlu; omega)
    rwa [show ((f - 1 : Nat) : Int) = (f : Int) - 1 by omega, show ((lo.toNat : Nat) : Int) = lo by unfold U64 at hlu; omega, hlh] at this
   have HUP := take_ups l k
   have HP : Hid (∀ w4, Below w5.drew.heap.size w5.drew w4 → Calls Tryz.prog 200 #[.agg #[.map (some b), .int .i64 ((f : Int) - 1)], .int .i64 (hiHalf x1), .int .u64 x2] w4 fun e w' => e = .returned (.tuple #[]) ∧ MapIs w' b (k + 1) (binPut (hiPuts [] ((l.take k).map fun b => (hiHalf b.1, b.2))) (hiHalf x1) x2) ∧ w4.grownBy w' (some b)) := fun w4 hb4 =>
    put_any b k ((f : Int) - 1) (hiHalf x1) x2 _ w4 (HM5.out.kept (below_gb hb4 none) (by simp)) hhi hxu (by omega) HUP (hiPuts_u64 _ [] (fun b hb => by cases hb) (fun c hc => by obtain ⟨d, hd, rfl⟩ := List.mem_map.1 hc; exact hbu d (List.mem_of_mem_take hd)))
   have HC : Hid (∀ w4, Below w5.drew.heap.size w5.drew w4 → w4.cell? ⟨w2.heap.size, 0, none⟩ = some (.map (some b)) ∧ w4.cell? ⟨w2.heap.size, 1, none⟩ = some (.int .i64 ((f : Int) - 1)) ∧ w4.cell? ⟨wr.heap.size, 1, none⟩ = some (.int .u64 x2)) := fun w4 hb4 => by
    have h1 := known hb4 (Nat.le_refl _) HXx5.out
    exact ⟨cCc h1 0, cCc h1 1, cCc (known hb4 (Nat.le_refl _) HX5.out) 1⟩
   have HRel : Hid (∀ w4 w6, Below w5.drew.heap.size w5.drew w4 → MapIs w6 b (k + 1) (binPut (hiPuts [] ((l.take k).map fun b => (hiHalf b.1, b.2))) (hiHalf x1) x2) → w4.grownBy w6 (some b) → MapIs w6 b (k + 1) (hiPuts [] ((l.take (k + 1)).map fun b => (hiHalf b.1, b.2))) ∧ W3.grownBy w6 (some b)) := fun w4 w6 hb4 hm6 hg6 => by
    rw [take_snoc' HX.out, List.map_append]
    exact ⟨by rw [List.map_singleton, puts_snoc]; exact hm6, (HG5.out.trans (below_gb hb4 _)).trans hg6⟩
   obtain ⟨y0, y1, y2⟩ := HC.out _ (Below.refl _ _)
   clear hb5 hxu hxi hhi hcb hlh hlu hlo u0 u1 v0 v1 p0 p1 q0 q1 x0 hcm
   go_wp2_with fail
   -- REGION
   refine wp_region_any (by kernel_rfl) ?_
   change wpAny _ _ _ _ _ _ _ (World.drew _)
   refine tk 1 (v := ?_) rfl ?_ ?_
   rotate_left
   ·intro w; go_simp; with_reducible rfl
   refine tk 3 (v := ?_) rfl ?_ ?_
   rotate_left
   ·intro w; go_simp; with_reducible rfl
   refine tk 5 (v := ?_) rfl ?_ ?_
   rotate_left
   ·intro w; go_simp; with_reducible rfl
   refine wpAny_ready (rs := [0, 2, 6]) (by kernel_rfl) (by simp) ?_
   refine AllReady.cons rfl (fun K hK => ?_) ?_
   ·go_simp
    refine hK _ _ ?_
    clear hK K
    refine wpAny_ready (rs := [2, 6]) (by kernel_rfl) (by simp) ?_
    refine AllReady.cons rfl (fun K hK => ?_) ?_
    ·go_simp
     refine hK _ _ ?_
     clear hK K
     refine wpAny_ready (rs := [4, 6]) (by kernel_rfl) (by simp) ?_
     refine AllReady.cons rfl (fun K hK => ?_) ?_
     ·go_simp
      refine HBK.out.mono ?_
      rintro e w4 ⟨rfl, hb4⟩
      have hP := HP.out w4 hb4
      obtain ⟨u0, u1, v1⟩ := HC.out w4 hb4
      refine hK _ _ ?_
      clear hK K
      refine wpAny_ready (rs := [6]) (by kernel_rfl) (by simp) ?_
      refine AllReady.cons rfl (fun K hK => ?_) ?_
      ·go_simp
       refine hK _ _ ?_
       clear hK K
       refine wpAny_ready (rs := [7]) (by kernel_rfl) (by simp) ?_
       refine AllReady.cons rfl (fun K hK => ?_) ?_
       ·go_simp
        refine hP.mono ?_
        rintro e w6 ⟨rfl, hm6, hg6⟩
        refine hK _ _ ?_
        clear hK K
        refine wpAny_done (by kernel_rfl) ?_ _
        obtain ⟨hR1, hR2⟩ := HRel.out w4 w6 hb4 hm6 hg6
        clear hm6 hg6 hP hb4 u0 u1 v1
        go_wp2_with fail
        go_roundw
        case rel => exact ⟨k + 1, hlt, by simp, hR1, hR2⟩
        case measure => simp [intOf]; exact meas_succ hlt
       exact AllReady.nil
      exact AllReady.nil
     refine AllReady.cons rfl (fun K hK => ?_) ?_
     ·go_simp
      refine hK _ _ ?_
      clear hK K
      refine wpAny_ready (rs := [4]) (by kernel_rfl) (by simp) ?_
      refine AllReady.cons rfl (fun K hK => ?_) ?_
      ·go_simp
       refine HBK.out.mono ?_
       rintro e w4 ⟨rfl, hb4⟩
       have hP := HP.out w4 hb4
       obtain ⟨u0, u1, v1⟩ := HC.out w4 hb4
       refine hK _ _ ?_
       clear hK K
       refine wpAny_ready (rs := [7]) (by kernel_rfl) (by simp) ?_
       refine AllReady.cons rfl (fun K hK => ?_) ?_
       ·go_simp
        refine hP.mono ?_
        rintro e w6 ⟨rfl, hm6, hg6⟩
        refine hK _ _ ?_
        clear hK K
        refine wpAny_done (by kernel_rfl) ?_ _
        obtain ⟨hR1, hR2⟩ := HRel.out w4 w6 hb4 hm6 hg6
        clear hm6 hg6 hP hb4 u0 u1 v1
        go_wp2_with fail
        go_roundw
        case rel => exact ⟨k + 1, hlt, by simp, hR1, hR2⟩
        case measure => simp [intOf]; exact meas_succ hlt
       exact AllReady.nil
      exact AllReady.nil
     exact AllReady.nil
    refine AllReady.cons rfl (fun K hK => ?_) ?_
    ·go_simp
     refine hK _ _ ?_
     clear hK K
     refine wpAny_ready (rs := [2]) (by kernel_rfl) (by simp) ?_
     refine AllReady.cons rfl (fun K hK => ?_) ?_
     ·go_simp
      refine hK _ _ ?_
      clear hK K
      refine wpAny_ready (rs := [4]) (by kernel_rfl) (by simp) ?_
      refine AllReady.cons rfl (fun K hK => ?_) ?_
      ·go_simp
       refine HBK.out.mono ?_
       rintro e w4 ⟨rfl, hb4⟩
       have hP := HP.out w4 hb4
       obtain ⟨u0, u1, v1⟩ := HC.out w4 hb4
       refine hK _ _ ?_
       clear hK K
       refine wpAny_ready (rs := [7]) (by kernel_rfl) (by simp) ?_
       refine AllReady.cons rfl (fun K hK => ?_) ?_
       ·go_simp
        refine hP.mono ?_
        rintro e w6 ⟨rfl, hm6, hg6⟩
        refine hK _ _ ?_
        clear hK K
        refine wpAny_done (by kernel_rfl) ?_ _
        obtain ⟨hR1, hR2⟩ := HRel.out w4 w6 hb4 hm6 hg6
        clear hm6 hg6 hP hb4 u0 u1 v1
        go_wp2_with fail
        go_roundw
        case rel => exact ⟨k + 1, hlt, by simp, hR1, hR2⟩
        case measure => simp [intOf]; exact meas_succ hlt
       exact AllReady.nil
      exact AllReady.nil
     exact AllReady.nil
    exact AllReady.nil
   refine AllReady.cons rfl (fun K hK => ?_) ?_
   ·go_simp
    refine hK _ _ ?_
    clear hK K
    refine wpAny_ready (rs := [0, 4, 6]) (by kernel_rfl) (by simp) ?_
    refine AllReady.cons rfl (fun K hK => ?_) ?_
    ·go_simp
     refine hK _ _ ?_
     clear hK K
     refine wpAny_ready (rs := [4, 6]) (by kernel_rfl) (by simp) ?_
     refine AllReady.cons rfl (fun K hK => ?_) ?_
     ·go_simp
      refine HBK.out.mono ?_
      rintro e w4 ⟨rfl, hb4⟩
      have hP := HP.out w4 hb4
      obtain ⟨u0, u1, v1⟩ := HC.out w4 hb4
      refine hK _ _ ?_
      clear hK K
      refine wpAny_ready (rs := [6]) (by kernel_rfl) (by simp) ?_
      refine AllReady.cons rfl (fun K hK => ?_) ?_
      ·go_simp
       refine hK _ _ ?_
       clear hK K
       refine wpAny_ready (rs := [7]) (by kernel_rfl) (by simp) ?_
       refine AllReady.cons rfl (fun K hK => ?_) ?_
       ·go_simp
        refine hP.mono ?_
        rintro e w6 ⟨rfl, hm6, hg6⟩
        refine hK _ _ ?_
        clear hK K
        refine wpAny_done (by kernel_rfl) ?_ _
        obtain ⟨hR1, hR2⟩ := HRel.out w4 w6 hb4 hm6 hg6
        clear hm6 hg6 hP hb4 u0 u1 v1
        go_wp2_with fail
        go_roundw
        case rel => exact ⟨k + 1, hlt, by simp, hR1, hR2⟩
        case measure => simp [intOf]; exact meas_succ hlt
       exact AllReady.nil
      exact AllReady.nil
     refine AllReady.cons rfl (fun K hK => ?_) ?_
     ·go_simp
      refine hK _ _ ?_
      clear hK K
      refine wpAny_ready (rs := [4]) (by kernel_rfl) (by simp) ?_
      refine AllReady.cons rfl (fun K hK => ?_) ?_
      ·go_simp
       refine HBK.out.mono ?_
       rintro e w4 ⟨rfl, hb4⟩
       have hP := HP.out w4 hb4
       obtain ⟨u0, u1, v1⟩ := HC.out w4 hb4
       refine hK _ _ ?_
       clear hK K
       refine wpAny_ready (rs := [7]) (by kernel_rfl) (by simp) ?_
       refine AllReady.cons rfl (fun K hK => ?_) ?_
       ·go_simp
        refine hP.mono ?_
        rintro e w6 ⟨rfl, hm6, hg6⟩
        refine hK _ _ ?_
        clear hK K
        refine wpAny_done (by kernel_rfl) ?_ _
        obtain ⟨hR1, hR2⟩ := HRel.out w4 w6 hb4 hm6 hg6
        clear hm6 hg6 hP hb4 u0 u1 v1
        go_wp2_with fail
        go_roundw
        case rel => exact ⟨k + 1, hlt, by simp, hR1, hR2⟩
        case measure => simp [intOf]; exact meas_succ hlt
       exact AllReady.nil
      exact AllReady.nil
     exact AllReady.nil
    refine AllReady.cons rfl (fun K hK => ?_) ?_
    ·go_simp
     refine HBK.out.mono ?_
     rintro e w4 ⟨rfl, hb4⟩
     have hP := HP.out w4 hb4
     obtain ⟨u0, u1, v1⟩ := HC.out w4 hb4
     refine hK _ _ ?_
     clear hK K
     refine wpAny_ready (rs := [0, 6]) (by kernel_rfl) (by simp) ?_
     refine AllReady.cons rfl (fun K hK => ?_) ?_
     ·go_simp
      refine hK _ _ ?_
      clear hK K
      refine wpAny_ready (rs := [6]) (by kernel_rfl) (by simp) ?_
      refine AllReady.cons rfl (fun K hK => ?_) ?_
      ·go_simp
       refine hK _ _ ?_
       clear hK K
       refine wpAny_ready (rs := [7]) (by kernel_rfl) (by simp) ?_
       refine AllReady.cons rfl (fun K hK => ?_) ?_
       ·go_simp
        refine hP.mono ?_
        rintro e w6 ⟨rfl, hm6, hg6⟩
        refine hK _ _ ?_
        clear hK K
        refine wpAny_done (by kernel_rfl) ?_ _
        obtain ⟨hR1, hR2⟩ := HRel.out w4 w6 hb4 hm6 hg6
        clear hm6 hg6 hP hb4 u0 u1 v1
        go_wp2_with fail
        go_roundw
        case rel => exact ⟨k + 1, hlt, by simp, hR1, hR2⟩
        case measure => simp [intOf]; exact meas_succ hlt
       exact AllReady.nil
      exact AllReady.nil
     refine AllReady.cons rfl (fun K hK => ?_) ?_
     ·go_simp
      refine hK _ _ ?_
      clear hK K
      refine wpAny_ready (rs := [0]) (by kernel_rfl) (by simp) ?_
      refine AllReady.cons rfl (fun K hK => ?_) ?_
      ·go_simp
       refine hK _ _ ?_
       clear hK K
       refine wpAny_ready (rs := [7]) (by kernel_rfl) (by simp) ?_
       refine AllReady.cons rfl (fun K hK => ?_) ?_
       ·go_simp
        refine hP.mono ?_
        rintro e w6 ⟨rfl, hm6, hg6⟩
        refine hK _ _ ?_
        clear hK K
        refine wpAny_done (by kernel_rfl) ?_ _
        obtain ⟨hR1, hR2⟩ := HRel.out w4 w6 hb4 hm6 hg6
        clear hm6 hg6 hP hb4 u0 u1 v1
        go_wp2_with fail
        go_roundw
        case rel => exact ⟨k + 1, hlt, by simp, hR1, hR2⟩
        case measure => simp [intOf]; exact meas_succ hlt
       exact AllReady.nil
      exact AllReady.nil
     exact AllReady.nil
    refine AllReady.cons rfl (fun K hK => ?_) ?_
    ·go_simp
     refine hK _ _ ?_
     clear hK K
     refine wpAny_ready (rs := [0, 4]) (by kernel_rfl) (by simp) ?_
     refine AllReady.cons rfl (fun K hK => ?_) ?_
     ·go_simp
      refine hK _ _ ?_
      clear hK K
      refine wpAny_ready (rs := [4]) (by kernel_rfl) (by simp) ?_
      refine AllReady.cons rfl (fun K hK => ?_) ?_
      ·go_simp
       refine HBK.out.mono ?_
       rintro e w4 ⟨rfl, hb4⟩
       have hP := HP.out w4 hb4
       obtain ⟨u0, u1, v1⟩ := HC.out w4 hb4
       refine hK _ _ ?_
       clear hK K
       refine wpAny_ready (rs := [7]) (by kernel_rfl) (by simp) ?_
       refine AllReady.cons rfl (fun K hK => ?_) ?_
       ·go_simp
        refine hP.mono ?_
        rintro e w6 ⟨rfl, hm6, hg6⟩
        refine hK _ _ ?_
        clear hK K
        refine wpAny_done (by kernel_rfl) ?_ _
        obtain ⟨hR1, hR2⟩ := HRel.out w4 w6 hb4 hm6 hg6
        clear hm6 hg6 hP hb4 u0 u1 v1
        go_wp2_with fail
        go_roundw
        case rel => exact ⟨k + 1, hlt, by simp, hR1, hR2⟩
        case measure => simp [intOf]; exact meas_succ hlt
       exact AllReady.nil
      exact AllReady.nil
     refine AllReady.cons rfl (fun K hK => ?_) ?_
     ·go_simp
      refine HBK.out.mono ?_
      rintro e w4 ⟨rfl, hb4⟩
      have hP := HP.out w4 hb4
      obtain ⟨u0, u1, v1⟩ := HC.out w4 hb4
      refine hK _ _ ?_
      clear hK K
      refine wpAny_ready (rs := [0]) (by kernel_rfl) (by simp) ?_
      refine AllReady.cons rfl (fun K hK => ?_) ?_
      ·go_simp
       refine hK _ _ ?_
       clear hK K
       refine wpAny_ready (rs := [7]) (by kernel_rfl) (by simp) ?_
       refine AllReady.cons rfl (fun K hK => ?_) ?_
       ·go_simp
        refine hP.mono ?_
        rintro e w6 ⟨rfl, hm6, hg6⟩
        refine hK _ _ ?_
        clear hK K
        refine wpAny_done (by kernel_rfl) ?_ _
        obtain ⟨hR1, hR2⟩ := HRel.out w4 w6 hb4 hm6 hg6
        clear hm6 hg6 hP hb4 u0 u1 v1
        go_wp2_with fail
        go_roundw
        case rel => exact ⟨k + 1, hlt, by simp, hR1, hR2⟩
        case measure => simp [intOf]; exact meas_succ hlt
       exact AllReady.nil
      exact AllReady.nil
     exact AllReady.nil
    exact AllReady.nil
   refine AllReady.cons rfl (fun K hK => ?_) ?_
   ·go_simp
    refine hK _ _ ?_
    clear hK K
    refine wpAny_ready (rs := [0, 2]) (by kernel_rfl) (by simp) ?_
    refine AllReady.cons rfl (fun K hK => ?_) ?_
    ·go_simp
     refine hK _ _ ?_
     clear hK K
     refine wpAny_ready (rs := [2]) (by kernel_rfl) (by simp) ?_
     refine AllReady.cons rfl (fun K hK => ?_) ?_
     ·go_simp
      refine hK _ _ ?_
      clear hK K
      refine wpAny_ready (rs := [4]) (by kernel_rfl) (by simp) ?_
      refine AllReady.cons rfl (fun K hK => ?_) ?_
      ·go_simp
       refine HBK.out.mono ?_
       rintro e w4 ⟨rfl, hb4⟩
       have hP := HP.out w4 hb4
       obtain ⟨u0, u1, v1⟩ := HC.out w4 hb4
       refine hK _ _ ?_
       clear hK K
       refine wpAny_ready (rs := [7]) (by kernel_rfl) (by simp) ?_
       refine AllReady.cons rfl (fun K hK => ?_) ?_
       ·go_simp
        refine hP.mono ?_
        rintro e w6 ⟨rfl, hm6, hg6⟩
        refine hK _ _ ?_
        clear hK K
        refine wpAny_done (by kernel_rfl) ?_ _
        obtain ⟨hR1, hR2⟩ := HRel.out w4 w6 hb4 hm6 hg6
        clear hm6 hg6 hP hb4 u0 u1 v1
        go_wp2_with fail
        go_roundw
        case rel => exact ⟨k + 1, hlt, by simp, hR1, hR2⟩
        case measure => simp [intOf]; exact meas_succ hlt
       exact AllReady.nil
      exact AllReady.nil
     exact AllReady.nil
    refine AllReady.cons rfl (fun K hK => ?_) ?_
    ·go_simp
     refine hK _ _ ?_
     clear hK K
     refine wpAny_ready (rs := [0, 4]) (by kernel_rfl) (by simp) ?_
     refine AllReady.cons rfl (fun K hK => ?_) ?_
     ·go_simp
      refine hK _ _ ?_
      clear hK K
      refine wpAny_ready (rs := [4]) (by kernel_rfl) (by simp) ?_
      refine AllReady.cons rfl (fun K hK => ?_) ?_
      ·go_simp
       refine HBK.out.mono ?_
       rintro e w4 ⟨rfl, hb4⟩
       have hP := HP.out w4 hb4
       obtain ⟨u0, u1, v1⟩ := HC.out w4 hb4
       refine hK _ _ ?_
       clear hK K
       refine wpAny_ready (rs := [7]) (by kernel_rfl) (by simp) ?_
       refine AllReady.cons rfl (fun K hK => ?_) ?_
       ·go_simp
        refine hP.mono ?_
        rintro e w6 ⟨rfl, hm6, hg6⟩
        refine hK _ _ ?_
        clear hK K
        refine wpAny_done (by kernel_rfl) ?_ _
        obtain ⟨hR1, hR2⟩ := HRel.out w4 w6 hb4 hm6 hg6
        clear hm6 hg6 hP hb4 u0 u1 v1
        go_wp2_with fail
        go_roundw
        case rel => exact ⟨k + 1, hlt, by simp, hR1, hR2⟩
        case measure => simp [intOf]; exact meas_succ hlt
       exact AllReady.nil
      exact AllReady.nil
     refine AllReady.cons rfl (fun K hK => ?_) ?_
     ·go_simp
      refine HBK.out.mono ?_
      rintro e w4 ⟨rfl, hb4⟩
      have hP := HP.out w4 hb4
      obtain ⟨u0, u1, v1⟩ := HC.out w4 hb4
      refine hK _ _ ?_
      clear hK K
      refine wpAny_ready (rs := [0]) (by kernel_rfl) (by simp) ?_
      refine AllReady.cons rfl (fun K hK => ?_) ?_
      ·go_simp
       refine hK _ _ ?_
       clear hK K
       refine wpAny_ready (rs := [7]) (by kernel_rfl) (by simp) ?_
       refine AllReady.cons rfl (fun K hK => ?_) ?_
       ·go_simp
        refine hP.mono ?_
        rintro e w6 ⟨rfl, hm6, hg6⟩
        refine hK _ _ ?_
        clear hK K
        refine wpAny_done (by kernel_rfl) ?_ _
        obtain ⟨hR1, hR2⟩ := HRel.out w4 w6 hb4 hm6 hg6
        clear hm6 hg6 hP hb4 u0 u1 v1
        go_wp2_with fail
        go_roundw
        case rel => exact ⟨k + 1, hlt, by simp, hR1, hR2⟩
        case measure => simp [intOf]; exact meas_succ hlt
       exact AllReady.nil
      exact AllReady.nil
     exact AllReady.nil
    exact AllReady.nil
   exact AllReady.nil
   -- END
  ·obtain rfl : k = len := by omega
   have hMl : MapIs wr b k (hiPuts [] (l.map fun b => (hiHalf b.1, b.2))) := by have := hM; rwa [List.take_of_length_le (by rw [← HLL.out]; exact Nat.le_refl _)] at this
   have hup := take_ups l k
   rw [List.take_of_length_le (by rw [← HLL.out]; exact Nat.le_refl _)] at hup
   obtain ⟨hb1', hb2'⟩ := half_fin l f hf hbd hbu
   have HDn := Lib.hid (hdone9_any b k ((f : Int) - 1) _ wr hMl hup hb1' hb2' (by have := hiPuts_len (l.map fun b => (hiHalf b.1, b.2)) []; simp at this; have := HLL.out; omega) (by omega))
   rw [show hiDone (hiPuts [] (l.map fun b => (hiHalf b.1, b.2))) = hiLow l from rfl] at HDn
   have HE := Lib.hid (fun w7 a' len' cap' => hist_out (w := w) (w6 := wr) (w7 := w7) (b := b) (a := a') (len := len') (cap := cap') (f := (f : Int) - 1) (l := hiLow l) (by omega) hXr hBw)
   obtain ⟨u0, u1⟩ := cl2 hXx
   clear hXw hXr hXx hM hMl hG hBw hup hb1' hb2'
   go_wp2_with fail
   refine HDn.out.mono ?_
   rintro e w7 ⟨a', len', cap', rfl, hS7, ha7, hg7⟩
   obtain ⟨hR7, hY7⟩ := HE.out w7 a' len' cap' hS7 ha7 hg7
   obtain ⟨m0, m1⟩ := cl2 hR7
   obtain ⟨n0, n1⟩ := cz2 hR7
   have HY7 := Lib.hid hY7
   clear hR7 hY7 hS7 ha7 hg7
   go_wp2_with fail
   obtain ⟨hX8, hS8, hB8⟩ := HY7.out
   generalize (w7.setCell ⟨w.heap.size + 1, 0, none⟩ (.int .i64 ((f : Int) - 1))).setCell ⟨w.heap.size + 1, 1, none⟩ (.slice a' len' cap') = V at hX8 hS8 hB8 ⊢
   obtain ⟨q0, q1⟩ := cl2 hX8
   exact bodyPost_ret (v := .tuple #[.agg #[.int .i64 ((f : Int) - 1), .slice a' len' cap'], .int .i64 0]) (by simp [results, Tryz.f196, go_sem, q0, q1]) rfl ⟨a', len', cap', rfl, hS8, hB8⟩
end Go.Proofs.YtcbbenncdainfaaGreatDoor
