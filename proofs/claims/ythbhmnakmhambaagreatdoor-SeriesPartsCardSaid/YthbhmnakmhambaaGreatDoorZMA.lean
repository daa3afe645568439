/- Package exact: Merge. Printed by gen_ma.py. -/
import Derived.Test.YthbhmnakmhambaaGreatDoorZLH
namespace Go.Proofs.YthbhmnakmhambaaGreatDoor
open Go Go.RowKit Go.Shelf
set_option maxRecDepth 100000 in
set_option maxHeartbeats 1000000 in
theorem exMerge_any (l m : List Int) (a : Option Addr) (len cap : Nat) (a2 : Option Addr) (len2 cap2 : Nat) (w : World) (hL : SlE encU 1 w.heap.size w a len l) (hn : a = none → len = 0) (hM : SlE encU 1 w.heap.size w a2 len2 m) (hr : exRight l = true) (hr2 : exRight m = true) :
  Calls Tryz.prog 195 #[.agg #[.slice a len cap], .agg #[.slice a2 len2 cap2]] w (ExPost (exGather l m) w) := by
 obtain ⟨W0, hW0, hXx, hXy, hXr, hB0, hs0⟩ := boxes3 w #[.slice a len cap] 30 #[.slice a2 len2 cap2] 30 #[.slice none 0 0] 30
 have hL0 : SlE encU 1 W0.heap.size W0 a len l := (hL.below hB0).mono hB0.size
 have hM0 : SlE encU 1 W0.heap.size W0 a2 len2 m := (hM.below hB0).mono hB0.size
 have hu := exRight_up l hr
 have hu2 := exRight_up m hr2
 have HR1 := Lib.hid (exact_Right_any l a len cap W0 hL0)
 rw [hr] at HR1
 have HR2 : Hid (∀ w1, Below W0.heap.size W0 w1 → Calls Tryz.prog 137 #[.agg #[.slice a2 len2 cap2]] w1 fun e w' => e = .returned (.bool true) ∧ Below w1.heap.size w1 w') := fun w1 hb => by
  have h := exact_Right_any m a2 len2 cap2 w1 (hM0.go hb)
  rw [hr2] at h
  exact h
 have HG : Hid (∀ w1, Below W0.heap.size W0 w1 → Calls Tryz.prog 200 #[.slice a len cap, .slice a2 len2 cap2] w1 (GatherPost l m w1)) := fun w1 hb =>
  gather_any l m a len cap a2 len2 cap2 w1 (hL0.go hb) (hM0.go hb) hu.1 (by have := hL.1; have := hu.2; omega) (by have := hM.1; have := hu2.2; omega) hn
 have c0 : W0.cell? ⟨w.heap.size, 0, none⟩ = some (.slice a len cap) := cCc hXx 0
 have HXx := Lib.hid hXx
 have HXy := Lib.hid hXy
 have HXr : Hid (Boxed W0 (w.heap.size + 2) 30 (.slice none 0 0)) := hXr
 have HB0 := Lib.hid hB0
 clear hL hM hL0 hM0 hu hu2 hr hr2 hXx hXy hXr hB0 hn
 go_enter Tryz.func195, Tryz.ntmps195
 go_wp2_with fail
 refine HR1.out.mono ?_
 rintro e w1 ⟨rfl, hb1⟩
 have hY1 := known hb1 (Nat.le_refl _) HXy.out
 have d0 : w1.cell? ⟨w.heap.size + 1, 0, none⟩ = some (.slice a2 len2 cap2) := cCc hY1 0
 have HR2 := Lib.hid (HR2.out w1 hb1)
 go_wp2_with fail
 refine HR2.out.mono ?_
 rintro e w2 ⟨rfl, hb2⟩
 have hb02 : Below W0.heap.size W0 w2 := hb1.trans (hb2.mono hb1.size)
 have HG := Lib.hid (HG.out w2 hb02)
 have hX2 := known hb02 (Nat.le_refl _) HXx.out
 have hY2 := known hb02 (Nat.le_refl _) HXy.out
 have p0 : w2.cell? ⟨w.heap.size, 0, none⟩ = some (.slice a len cap) := cCc hX2 0
 have q0 : w2.cell? ⟨w.heap.size + 1, 0, none⟩ = some (.slice a2 len2 cap2) := cCc hY2 0
 have HB02 := Lib.hid hb02
 clear hb1 hb2 hb02 hY1 hX2 hY2
 go_wp2_with fail
 refine HG.out.mono ?_
 rintro e w3 ⟨hb3, hp⟩
 have hy3 : Boxed w3 (w.heap.size + 2) 30 (.slice none 0 0) := known (HB02.out.trans (hb3.mono HB02.out.size)) (Nat.le_refl _) HXr.out
 have hb03 : Below w.heap.size w w3 := HB0.out.trans ((HB02.out.trans (hb3.mono HB02.out.size)).mono HB0.out.size)
 have hz2 : w.heap.size + 2 < w2.heap.size := by have := HB02.out.size; omega
 have c4 := hy3.cell
 have f4 := hy3.frozen
 cases hg : exGather l m with
 | none =>
  rw [hg] at hp
  dsimp only at hp
  subst hp
  go_wp2_with fail
  have hy4 : Boxed (w3.alloc (.cells #[.slice none 0 0] 30)).drew w3.heap.size 30 (.slice none 0 0) := Boxed.new w3 30 (.slice none 0 0)
  have e4 := hy4.cell
  have hr4 : Boxed (w3.alloc (.cells #[.slice none 0 0] 30)).drew (w.heap.size + 2) 30 (.slice none 0 0) := hy3.alloc _
  have hz4 : w.heap.size + 2 < w3.heap.size := hy3.lt
  have hb4 : Below w.heap.size w (w3.alloc (.cells #[.slice none 0 0] 30)).drew := (hb03.alloc (by omega) _).drew
  have HY4 := Lib.hid hy4
  have HR4 := Lib.hid hr4
  refine wp_region_any (by kernel_rfl) ?_
  change wpAny _ _ _ _ _ _ _ (World.drew _)
  refine tk 1 (v := ?_) rfl ?_ ?_
  rotate_left
  ·intro w; go_simp; with_reducible rfl
  refine wpAny_ready (rs := [0, 2]) (by kernel_rfl) (by simp) ?_
  refine AllReady.cons rfl (fun K hK => ?_) ?_
  ·go_simp
   refine hK _ _ ?_
   clear hK K
   refine wpAny_ready (rs := [2]) (by kernel_rfl) (by simp) ?_
   refine AllReady.cons rfl (fun K hK => ?_) ?_
   ·go_simp
    refine (exErrno_fault _).mono ?_
    rintro e w5 ⟨rfl, hb5⟩
    have hy5 := (hb5.block _ HY4.out.lt).trans HY4.out
    have hr5 := (hb5.block _ HR4.out.lt).trans HR4.out
    have g1 := Boxed.cell hy5
    have g2 := Boxed.cell hr5
    have g3 := Boxed.frozen hr5
    refine hK _ _ ?_
    clear hK K
    refine wpAny_ready (rs := [3]) (by kernel_rfl) (by simp) ?_
    refine AllReady.cons rfl (fun K hK => ?_) ?_
    ·go_simp
     refine hK _ _ ?_
     clear hK K
     refine tk 4 (v := ?_) rfl ?_ ?_
     rotate_left
     ·intro w; go_simp; with_reducible rfl
     refine wpAny_done (by kernel_rfl) ?_ _
     go_wp2_with fail
     have g4 := (Boxed.set (.slice none 0 0) hr5).cell
     refine bodyPost_ret (v := .tuple #[.agg #[.slice none 0 0], .int .i64 60]) ?_ rfl ?_
     ·simp [results, Tryz.f195, go_sem, g4]
     ·refine ⟨(hb4.trans (hb5.mono hb4.size)).setCell (p := ⟨w.heap.size + 2, 0, none⟩) (by show _ ≤ _ + 2; omega) _, ?_⟩
      rw [hg]
    exact AllReady.nil
   exact AllReady.nil
  refine AllReady.cons rfl (fun K hK => ?_) ?_
  ·go_simp
   refine (exErrno_fault _).mono ?_
   rintro e w5 ⟨rfl, hb5⟩
   have hy5 := (hb5.block _ HY4.out.lt).trans HY4.out
   have hr5 := (hb5.block _ HR4.out.lt).trans HR4.out
   have g1 := Boxed.cell hy5
   have g2 := Boxed.cell hr5
   have g3 := Boxed.frozen hr5
   refine hK _ _ ?_
   clear hK K
   refine wpAny_ready (rs := [0]) (by kernel_rfl) (by simp) ?_
   refine AllReady.cons rfl (fun K hK => ?_) ?_
   ·go_simp
    refine hK _ _ ?_
    clear hK K
    refine wpAny_ready (rs := [3]) (by kernel_rfl) (by simp) ?_
    refine AllReady.cons rfl (fun K hK => ?_) ?_
    ·go_simp
     refine hK _ _ ?_
     clear hK K
     refine tk 4 (v := ?_) rfl ?_ ?_
     rotate_left
     ·intro w; go_simp; with_reducible rfl
     refine wpAny_done (by kernel_rfl) ?_ _
     go_wp2_with fail
     have g4 := (Boxed.set (.slice none 0 0) hr5).cell
     refine bodyPost_ret (v := .tuple #[.agg #[.slice none 0 0], .int .i64 60]) ?_ rfl ?_
     ·simp [results, Tryz.f195, go_sem, g4]
     ·refine ⟨(hb4.trans (hb5.mono hb4.size)).setCell (p := ⟨w.heap.size + 2, 0, none⟩) (by show _ ≤ _ + 2; omega) _, ?_⟩
      rw [hg]
    exact AllReady.nil
   exact AllReady.nil
  exact AllReady.nil
 | some z =>
  rw [hg] at hp
  obtain ⟨a3, cap3, rfl, hS3, hfar3⟩ := hp
  go_wp2_with fail
  have hy4 : Boxed (w3.alloc (.cells #[.slice a3 z.length cap3] 30)).drew w3.heap.size 30 (.slice a3 z.length cap3) := Boxed.new w3 30 (.slice a3 z.length cap3)
  have e4 := hy4.cell
  have hr4 : Boxed (w3.alloc (.cells #[.slice a3 z.length cap3] 30)).drew (w.heap.size + 2) 30 (.slice none 0 0) := hy3.alloc _
  have hz4 : w.heap.size + 2 < w3.heap.size := hy3.lt
  have hb4 : Below w.heap.size w (w3.alloc (.cells #[.slice a3 z.length cap3] 30)).drew := (hb03.alloc (by omega) _).drew
  have HY4 := Lib.hid hy4
  have HR4 := Lib.hid hr4
  refine wp_region_any (by kernel_rfl) ?_
  change wpAny _ _ _ _ _ _ _ (World.drew _)
  refine tk 1 (v := ?_) rfl ?_ ?_
  rotate_left
  ·intro w; go_simp; with_reducible rfl
  refine wpAny_ready (rs := [0, 2]) (by kernel_rfl) (by simp) ?_
  refine AllReady.cons rfl (fun K hK => ?_) ?_
  ·go_simp
   refine hK _ _ ?_
   clear hK K
   refine wpAny_ready (rs := [2]) (by kernel_rfl) (by simp) ?_
   refine AllReady.cons rfl (fun K hK => ?_) ?_
   ·go_simp
    refine (exErrno_nil _).mono ?_
    rintro e w5 ⟨rfl, hb5⟩
    have hy5 := (hb5.block _ HY4.out.lt).trans HY4.out
    have hr5 := (hb5.block _ HR4.out.lt).trans HR4.out
    have g1 := Boxed.cell hy5
    have g2 := Boxed.cell hr5
    have g3 := Boxed.frozen hr5
    refine hK _ _ ?_
    clear hK K
    refine wpAny_ready (rs := [3]) (by kernel_rfl) (by simp) ?_
    refine AllReady.cons rfl (fun K hK => ?_) ?_
    ·go_simp
     refine hK _ _ ?_
     clear hK K
     refine tk 4 (v := ?_) rfl ?_ ?_
     rotate_left
     ·intro w; go_simp; with_reducible rfl
     refine wpAny_done (by kernel_rfl) ?_ _
     go_wp2_with fail
     have g4 := (Boxed.set (.slice a3 z.length cap3) hr5).cell
     refine bodyPost_ret (v := .tuple #[.agg #[.slice a3 z.length cap3], .int .i64 0]) ?_ rfl ?_
     ·simp [results, Tryz.f195, go_sem, g4]
     ·refine ⟨(hb4.trans (hb5.mono hb4.size)).setCell (p := ⟨w.heap.size + 2, 0, none⟩) (by show _ ≤ _ + 2; omega) _, ?_⟩
      rw [hg]
      refine ⟨a3, cap3, rfl, ?_, fun x hx => ?_⟩
      ·rw [size_set]; exact (((hS3.go ((Below.refl _ _).alloc (Nat.le_refl _) _)).go (Below.refl _ _).drew).go hb5).set_far (fun y hy => by have h7 := hfar3 y hy; show w.heap.size + 2 ≠ _; omega) _
      ·have := hfar3 x hx; have := HB02.out.size; have := HB0.out.size; omega
    exact AllReady.nil
   exact AllReady.nil
  refine AllReady.cons rfl (fun K hK => ?_) ?_
  ·go_simp
   refine (exErrno_nil _).mono ?_
   rintro e w5 ⟨rfl, hb5⟩
   have hy5 := (hb5.block _ HY4.out.lt).trans HY4.out
   have hr5 := (hb5.block _ HR4.out.lt).trans HR4.out
   have g1 := Boxed.cell hy5
   have g2 := Boxed.cell hr5
   have g3 := Boxed.frozen hr5
   refine hK _ _ ?_
   clear hK K
   refine wpAny_ready (rs := [0]) (by kernel_rfl) (by simp) ?_
   refine AllReady.cons rfl (fun K hK => ?_) ?_
   ·go_simp
    refine hK _ _ ?_
    clear hK K
    refine wpAny_ready (rs := [3]) (by kernel_rfl) (by simp) ?_
    refine AllReady.cons rfl (fun K hK => ?_) ?_
    ·go_simp
     refine hK _ _ ?_
     clear hK K
     refine tk 4 (v := ?_) rfl ?_ ?_
     rotate_left
     ·intro w; go_simp; with_reducible rfl
     refine wpAny_done (by kernel_rfl) ?_ _
     go_wp2_with fail
     have g4 := (Boxed.set (.slice a3 z.length cap3) hr5).cell
     refine bodyPost_ret (v := .tuple #[.agg #[.slice a3 z.length cap3], .int .i64 0]) ?_ rfl ?_
     ·simp [results, Tryz.f195, go_sem, g4]
     ·refine ⟨(hb4.trans (hb5.mono hb4.size)).setCell (p := ⟨w.heap.size + 2, 0, none⟩) (by show _ ≤ _ + 2; omega) _, ?_⟩
      rw [hg]
      refine ⟨a3, cap3, rfl, ?_, fun x hx => ?_⟩
      ·rw [size_set]; exact (((hS3.go ((Below.refl _ _).alloc (Nat.le_refl _) _)).go (Below.refl _ _).drew).go hb5).set_far (fun y hy => by have h7 := hfar3 y hy; show w.heap.size + 2 ≠ _; omega) _
      ·have := hfar3 x hx; have := HB02.out.size; have := HB0.out.size; omega
    exact AllReady.nil
   exact AllReady.nil
  exact AllReady.nil
end Go.Proofs.YthbhmnakmhambaaGreatDoor
