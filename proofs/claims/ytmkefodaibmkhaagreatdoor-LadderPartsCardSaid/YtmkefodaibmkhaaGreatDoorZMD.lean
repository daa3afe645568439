/- Package cms: Merge. Printed by gen_mc.py. -/
import Derived.Test.YtmkefodaibmkhaaGreatDoorZMC
import Derived.Test.YtmkefodaibmkhaaGreatDoorZCE
namespace Go.Proofs.YtmkefodaibmkhaaGreatDoor
open Go Go.RowKit Go.Shelf

set_option maxRecDepth 100000 in
set_option maxHeartbeats 2000000 in
theorem cMerge_any (c : Nat) (l m : List Int) (a : Option Addr) (len cap : Nat) (a2 : Option Addr) (len2 cap2 : Nat) (w : World) (hs : isShapeB 2 c = true) (h2 : c ≤ 32) (hL : SlE encU 1 w.heap.size w a len l) (hl : l.length = 2 * c) (hlu : U64s l) (hn : a = none → len = 0) (hM : SlE encU 1 w.heap.size w a2 len2 m) (hm : m.length = 2 * c) (hmu : U64s m) :
    Calls Tryz.prog 213 #[.agg #[.int .i64 2, .int .i64 c, .slice a len cap], .agg #[.int .i64 2, .int .i64 c, .slice a2 len2 cap2]] w fun e w' => ∃ g, e = .returned (.tuple #[.agg #[.int .i64 2, .int .i64 c, .slice (some ⟨g, 0, none⟩) (2 * c) (2 * c)], .int .i64 0]) ∧ NumsAt w' g (cmMrg l m) ∧ w.heap.size ≤ g ∧ Below w.heap.size w w' := by
  have hB : Hid (∀ w1, Below w.heap.size w w1 → Calls Tryz.prog 214 #[.agg #[.int .i64 2, .int .i64 c, .slice a len cap]] w1 fun e w' => ∃ g, e = .returned (.tuple #[.agg #[.int .i64 2, .int .i64 c, .slice (some ⟨g, 0, none⟩) (2 * c) (2 * c)], .nilIface]) ∧ NumsAt w' g l ∧ w1.heap.size ≤ g ∧ Below w1.heap.size w1 w') := fun w1 hb => cbegin_any c l a len cap w1 hs h2 ((hL.below hb).mono hb.size) hl hn
  have hR : Hid (∀ w1, Below w.heap.size w w1 → Calls Tryz.prog 128 #[.agg #[.int .i64 2, .int .i64 c, .slice a2 len2 cap2]] w1 fun e w' => e = .returned (.bool true) ∧ Below w1.heap.size w1 w') := fun w1 hb => (cms_Right_any 2 c m a2 len2 cap2 w1 ((hM.below hb).mono hb.size).1).mono fun e w' h => ⟨by rw [h.1]; simp [cmRight, hs, hm], h.2⟩
  have HCC : Hid (c ≤ 32 ∧ l.length = 2 * c ∧ U64s l ∧ m.length = 2 * c ∧ U64s m) := ⟨h2, hl, hlu, hm, hmu⟩
  have HM := Lib.hid hM
  have HE := Lib.hid (chFold_mrg (2 * c) l m hl)
  clear hL hl hlu hs hn hM hm hmu
  obtain ⟨W0, hW0, hXp, hXy, hXr, hB0, hs0⟩ := boxes3 w #[.int .i64 2, .int .i64 c, .slice a len cap] 31 #[.int .i64 2, .int .i64 c, .slice a2 len2 cap2] 31 #[.int .i64 0, .int .i64 0, .slice none 0 0] 31
  have HXP := Lib.hid hXp
  have HXY := Lib.hid hXy
  have HXR := Lib.hid hXr
  have x0 : W0.cell? ⟨w.heap.size, 0, none⟩ = some (.int .i64 2) := cell_of_cells hXp 0
  have x1 : W0.cell? ⟨w.heap.size, 1, none⟩ = some (.int .i64 c) := cell_of_cells hXp 1
  have x2 : W0.cell? ⟨w.heap.size, 2, none⟩ = some (.slice a len cap) := cell_of_cells hXp 2
  clear hXp hXy hXr
  go_enter Tryz.func213, Tryz.ntmps213
  go_wp2_with fail
  refine (hB.out _ hB0).mono ?_
  rintro e w1 ⟨g, rfl, hr1, hg1, hb1⟩
  obtain ⟨W2, hW2, hX2, hB2, hs2⟩ := boxes1 w1 #[.int .i64 2, .int .i64 c, .slice (some ⟨g, 0, none⟩) (2 * c) (2 * c)] 165
  have hgl := hr1.lt
  have hb1s := hb1.size
  have hb12 : Below W0.heap.size W0 W2 := hb1.trans (hB2.mono hb1s)
  have hY2 := known hb12 (Nat.le_refl _) HXY.out
  have hRt := Lib.hid (hR.out W2 (hB0.trans (hb12.mono hB0.size)))
  have y0 : W2.cell? ⟨w.heap.size + 1, 0, none⟩ = some (.int .i64 2) := cell_of_cells hY2 0
  have y1 : W2.cell? ⟨w.heap.size + 1, 1, none⟩ = some (.int .i64 c) := cell_of_cells hY2 1
  have y2 : W2.cell? ⟨w.heap.size + 1, 2, none⟩ = some (.slice a2 len2 cap2) := cell_of_cells hY2 2
  have hr2 := hr1.block (hB2.block _ hgl)
  clear hY2
  go_wp2_with fail
  refine hRt.out.mono ?_
  rintro e w3 ⟨rfl, hb3⟩
  have hb13 : Below W0.heap.size W0 w3 := hb12.trans (hb3.mono hb12.size)
  have hP3 := known hb13 (Nat.le_refl _) HXP.out
  have hY3 := known hb13 (Nat.le_refl _) HXY.out
  have hR3 := known hb13 (Nat.le_refl _) HXR.out
  have hX3 := known hb3 (Nat.le_refl _) hX2
  have hr3 : NumsAt w3 g l := hr2.block (hb3.block _ (by omega))
  have hb3s := hb3.size
  have p0 : w3.cell? ⟨w.heap.size, 0, none⟩ = some (.int .i64 2) := cell_of_cells hP3 0
  have p1 : w3.cell? ⟨w.heap.size, 1, none⟩ = some (.int .i64 c) := cell_of_cells hP3 1
  have p2 : w3.cell? ⟨w.heap.size, 2, none⟩ = some (.slice a len cap) := cell_of_cells hP3 2
  have q0 : w3.cell? ⟨w.heap.size + 1, 0, none⟩ = some (.int .i64 2) := cell_of_cells hY3 0
  have q1 : w3.cell? ⟨w.heap.size + 1, 1, none⟩ = some (.int .i64 c) := cell_of_cells hY3 1
  have q2 : w3.cell? ⟨w.heap.size + 1, 2, none⟩ = some (.slice a2 len2 cap2) := cell_of_cells hY3 2
  obtain ⟨W5, hW5, hY5, hB5, hs5⟩ := boxes1 w3.drew #[.int .i64 2, .int .i64 c, .slice (some ⟨g, 0, none⟩) (2 * c) (2 * c)] 165
  have hzd : w3.drew.heap.size = w3.heap.size := rfl
  rw [hzd] at hY5 hB5 hs5
  have hB35 : Below w3.heap.size w3 W5 := (Below.refl _ w3).drew.trans hB5
  have hr5 : NumsAt W5 g l := hr3.block (hB35.block _ (by omega))
  have hX5 : W5.heap[w1.heap.size]? = some (.cells #[.int .i64 2, .int .i64 c, .slice (some ⟨g, 0, none⟩) (2 * c) (2 * c)] 165 (0, 0)) := known hB35 (Nat.le_refl _) hX3
  have hQ5 : W5.heap[w.heap.size + 1]? = some (.cells #[.int .i64 2, .int .i64 c, .slice a2 len2 cap2] 31 (0, 0)) := known hB35 (Nat.le_refl _) hY3
  have hR5 : W5.heap[w.heap.size + 2]? = some (.cells #[.int .i64 0, .int .i64 0, .slice none 0 0] 31 (0, 0)) := known hB35 (Nat.le_refl _) hR3
  have hB05 : Below w.heap.size w W5 := hB0.trans ((hb13.trans (hB35.mono hb13.size)).mono hB0.size)
  have hCH := change_mrg (mrgF m) w3.heap.size (w.heap.size + 1) g (2 * c) (2 * c) (2 * c) (2 * c) 2 c 2 c (some ⟨g, 0, none⟩) l W5 (by have := HCC.out.1; omega) hY5 hr5 HCC.out.2.1 HCC.out.2.2.1 (by intro k hk; simp at hk; omega)
    (fun W p x hG hx => by
      have hBW : Below w.heap.size W5 W := (Below.refl _ W5).grown hG hB05.size (fun k e => by cases e; omega)
      have hbb := hB05.trans hBW
      exact mrgF_any (w.heap.size + 1) p.1 x c m a2 len2 cap2 W ((hG.block _ (Array.getElem?_eq_some_iff.1 hQ5).1 (fun e => by cases e; omega)).trans hQ5) ((HM.out.below hbb).mono hbb.size) (by have := p.2; have := HM.out.1; have := HCC.out.2.2.2.1; omega) hx HCC.out.2.2.2.2)
    (fun p x hx => satI_u64 x _ hx (getD_u64 m HCC.out.2.2.2.2 p)) (fun p => p.2)
  have HW5 := Lib.hid hW5
  have HX5 := Lib.hid hX5
  have HR5 := Lib.hid hR5
  have HB05 := Lib.hid hB05
  have hXd : w3.drew.heap[w1.heap.size]? = some (.cells #[.int .i64 2, .int .i64 c, .slice (some ⟨g, 0, none⟩) (2 * c) (2 * c)] 165 (0, 0)) := hX3
  have d0 : w3.drew.cell? ⟨w1.heap.size, 0, none⟩ = some (.int .i64 2) := cell_of_cells hXd 0
  have d1 : w3.drew.cell? ⟨w1.heap.size, 1, none⟩ = some (.int .i64 c) := cell_of_cells hXd 1
  have d2 : w3.drew.cell? ⟨w1.heap.size, 2, none⟩ = some (.slice (some ⟨g, 0, none⟩) (2 * c) (2 * c)) := cell_of_cells hXd 2
  have b0 : W5.cell? ⟨w1.heap.size, 0, none⟩ = some (.int .i64 2) := cell_of_cells hX5 0
  have b1 : W5.cell? ⟨w1.heap.size, 1, none⟩ = some (.int .i64 c) := cell_of_cells hX5 1
  have b2 : W5.cell? ⟨w1.heap.size, 2, none⟩ = some (.slice (some ⟨g, 0, none⟩) (2 * c) (2 * c)) := cell_of_cells hX5 2
  have hgw : w.heap.size + 2 < g := by omega
  clear hW5 hX2 hX3 hXd hX5 hR5 hQ5 hY5 hB2 hB5 hB35 hB05 hr1 hr2 hr3 hr5 hb1 hb12 hb13 hb3 hP3 hY3 hR3
  have fin : ∀ w6, NumsAt w6 g (cmMrg l m) → W5.grownBy w6 (some g) → ∃ V, ((w6.setCell ⟨w.heap.size + 1 + 1, 0, none⟩ (.int .i64 2)).setCell ⟨w.heap.size + 1 + 1, 1, none⟩ (.int .i64 c)).setCell ⟨w.heap.size + 1 + 1, 2, none⟩ (.slice (some ⟨g, 0, none⟩) (2 * c) (2 * c)) = V ∧ V.heap[w.heap.size + 1 + 1]? = some (.cells #[.int .i64 2, .int .i64 c, .slice (some ⟨g, 0, none⟩) (2 * c) (2 * c)] 31 (0, 0)) ∧ NumsAt V g (cmMrg l m) ∧ Below w.heap.size w V := fun w6 hN6 hG6 => by
    have hR6 := (hG6.block _ (Array.getElem?_eq_some_iff.1 HR5.out).1 (fun e => by cases e; omega)).trans HR5.out
    have hne : w.heap.size + 1 + 1 ≠ g := by omega
    refine ⟨_, rfl, set_cells3 hR6, ((hN6.block (heap_set_other (p := ⟨w.heap.size + 1 + 1, 0, none⟩) hne _)).block (heap_set_other (p := ⟨w.heap.size + 1 + 1, 1, none⟩) hne _)).block (heap_set_other (p := ⟨w.heap.size + 1 + 1, 2, none⟩) hne _), ?_⟩
    exact (((HB05.out.grown hG6 HB05.out.size (fun k e => by cases e; omega)).setCell (p := ⟨w.heap.size + 1 + 1, 0, none⟩) (by show _ ≤ _ + 1 + 1; omega) _).setCell (p := ⟨w.heap.size + 1 + 1, 1, none⟩) (by show _ ≤ _ + 1 + 1; omega) _).setCell (p := ⟨w.heap.size + 1 + 1, 2, none⟩) (by show _ ≤ _ + 1 + 1; omega) _
  go_wp2_with fail
  refine wp_region_any (by kernel_rfl) ?_
  change wpAny _ _ _ _ _ _ _ (World.drew _)
  refine wpAny_take (i := 3) (v := ?_) rfl (by kernel_rfl) (by kernel_rfl) (by kernel_rfl) (fun _ _ _ h => h) (Or.inl ⟨by rfl, ?_⟩) ?_
  rotate_left
  · intro w; go_simp; with_reducible rfl
  refine wpAny_ready (rs := [0, 1]) (by kernel_rfl) (by simp) ?_
  refine AllReady.cons rfl (fun K hK => ?_) ?_
  · go_simp
    refine hK _ _ ?_
    clear hK K
    refine wpAny_ready (rs := [1]) (by kernel_rfl) (by simp) ?_
    refine AllReady.cons rfl (fun K hK => ?_) ?_
    · go_simp
      refine hK _ _ ?_
      clear hK K
      refine wpAny_ready (rs := [2]) (by kernel_rfl) (by simp) ?_
      refine AllReady.cons rfl (fun K hK => ?_) ?_
      · go_simp
        refine (all_any 2 c (.slice (some ⟨g, 0, none⟩) (2 * c) (2 * c)) _).mono ?_
        rintro e w5 ⟨rfl, rfl⟩
        rw [HW5.out]
        refine hK _ _ ?_
        clear hK K
        refine wpAny_ready (rs := [4]) (by kernel_rfl) (by simp) ?_
        refine AllReady.cons rfl (fun K hK => ?_) ?_
        · go_simp
          refine hCH.mono ?_
          rintro e w6 ⟨rfl, hN6, hG6⟩
          rw [HE.out] at hN6
          refine hK _ _ ?_
          clear hK K
          refine wpAny_done (by kernel_rfl) ?_ _
          have hX6 := (hG6.block _ (Array.getElem?_eq_some_iff.1 HX5.out).1 (fun e => by cases e; omega)).trans HX5.out
          have hR6 : w6.heap[w.heap.size + 1 + 1]? = _ := (hG6.block _ (Array.getElem?_eq_some_iff.1 HR5.out).1 (fun e => by cases e; omega)).trans HR5.out
          have z0 : w6.cell? ⟨w1.heap.size, 0, none⟩ = some (.int .i64 2) := cell_of_cells hX6 0
          have z1 : w6.cell? ⟨w1.heap.size, 1, none⟩ = some (.int .i64 c) := cell_of_cells hX6 1
          have z2 : w6.cell? ⟨w1.heap.size, 2, none⟩ = some (.slice (some ⟨g, 0, none⟩) (2 * c) (2 * c)) := cell_of_cells hX6 2
          have v0 : w6.cell? ⟨w.heap.size + 1 + 1, 0, none⟩ = some (.int .i64 0) := cell_of_cells hR6 0
          have v1 : w6.cell? ⟨w.heap.size + 1 + 1, 1, none⟩ = some (.int .i64 0) := cell_of_cells hR6 1
          have v2 : w6.cell? ⟨w.heap.size + 1 + 1, 2, none⟩ = some (.slice none 0 0) := cell_of_cells hR6 2
          have f0 : w6.frozen? ⟨w.heap.size + 1 + 1, 0, none⟩ = false := frozen_of_cells hR6 0
          have f1 : w6.frozen? ⟨w.heap.size + 1 + 1, 1, none⟩ = false := frozen_of_cells hR6 1
          have f2 : w6.frozen? ⟨w.heap.size + 1 + 1, 2, none⟩ = false := frozen_of_cells hR6 2
          obtain ⟨V, hV, hXV, hNV, hBV⟩ := fin w6 hN6 hG6
          clear fin hX6 hR6 hN6 hG6 hCH
          go_wp2_with fail
          have k0 := cell_of_cells hXV 0
          have k1 := cell_of_cells hXV 1
          have k2 := cell_of_cells hXV 2
          simp at k0 k1 k2
          exact bodyPost_ret (v := .tuple #[.agg #[.int .i64 2, .int .i64 c, .slice (some ⟨g, 0, none⟩) (2 * c) (2 * c)], .int .i64 0]) (by simp [results, Tryz.f213, go_sem, k0, k1, k2]) rfl ⟨g, rfl, hNV, by omega, hBV⟩
        exact AllReady.nil
      exact AllReady.nil
    exact AllReady.nil
  refine AllReady.cons rfl (fun K hK => ?_) ?_
  · go_simp
    refine hK _ _ ?_
    clear hK K
    refine wpAny_ready (rs := [0, 2]) (by kernel_rfl) (by simp) ?_
    refine AllReady.cons rfl (fun K hK => ?_) ?_
    · go_simp
      refine hK _ _ ?_
      clear hK K
      refine wpAny_ready (rs := [2]) (by kernel_rfl) (by simp) ?_
      refine AllReady.cons rfl (fun K hK => ?_) ?_
      · go_simp
        refine (all_any 2 c (.slice (some ⟨g, 0, none⟩) (2 * c) (2 * c)) _).mono ?_
        rintro e w5 ⟨rfl, rfl⟩
        rw [HW5.out]
        refine hK _ _ ?_
        clear hK K
        refine wpAny_ready (rs := [4]) (by kernel_rfl) (by simp) ?_
        refine AllReady.cons rfl (fun K hK => ?_) ?_
        · go_simp
          refine hCH.mono ?_
          rintro e w6 ⟨rfl, hN6, hG6⟩
          rw [HE.out] at hN6
          refine hK _ _ ?_
          clear hK K
          refine wpAny_done (by kernel_rfl) ?_ _
          have hX6 := (hG6.block _ (Array.getElem?_eq_some_iff.1 HX5.out).1 (fun e => by cases e; omega)).trans HX5.out
          have hR6 : w6.heap[w.heap.size + 1 + 1]? = _ := (hG6.block _ (Array.getElem?_eq_some_iff.1 HR5.out).1 (fun e => by cases e; omega)).trans HR5.out
          have z0 : w6.cell? ⟨w1.heap.size, 0, none⟩ = some (.int .i64 2) := cell_of_cells hX6 0
          have z1 : w6.cell? ⟨w1.heap.size, 1, none⟩ = some (.int .i64 c) := cell_of_cells hX6 1
          have z2 : w6.cell? ⟨w1.heap.size, 2, none⟩ = some (.slice (some ⟨g, 0, none⟩) (2 * c) (2 * c)) := cell_of_cells hX6 2
          have v0 : w6.cell? ⟨w.heap.size + 1 + 1, 0, none⟩ = some (.int .i64 0) := cell_of_cells hR6 0
          have v1 : w6.cell? ⟨w.heap.size + 1 + 1, 1, none⟩ = some (.int .i64 0) := cell_of_cells hR6 1
          have v2 : w6.cell? ⟨w.heap.size + 1 + 1, 2, none⟩ = some (.slice none 0 0) := cell_of_cells hR6 2
          have f0 : w6.frozen? ⟨w.heap.size + 1 + 1, 0, none⟩ = false := frozen_of_cells hR6 0
          have f1 : w6.frozen? ⟨w.heap.size + 1 + 1, 1, none⟩ = false := frozen_of_cells hR6 1
          have f2 : w6.frozen? ⟨w.heap.size + 1 + 1, 2, none⟩ = false := frozen_of_cells hR6 2
          obtain ⟨V, hV, hXV, hNV, hBV⟩ := fin w6 hN6 hG6
          clear fin hX6 hR6 hN6 hG6 hCH
          go_wp2_with fail
          have k0 := cell_of_cells hXV 0
          have k1 := cell_of_cells hXV 1
          have k2 := cell_of_cells hXV 2
          simp at k0 k1 k2
          exact bodyPost_ret (v := .tuple #[.agg #[.int .i64 2, .int .i64 c, .slice (some ⟨g, 0, none⟩) (2 * c) (2 * c)], .int .i64 0]) (by simp [results, Tryz.f213, go_sem, k0, k1, k2]) rfl ⟨g, rfl, hNV, by omega, hBV⟩
        exact AllReady.nil
      exact AllReady.nil
    refine AllReady.cons rfl (fun K hK => ?_) ?_
    · go_simp
      refine (all_any 2 c (.slice (some ⟨g, 0, none⟩) (2 * c) (2 * c)) _).mono ?_
      rintro e w5 ⟨rfl, rfl⟩
      rw [HW5.out]
      refine hK _ _ ?_
      clear hK K
      refine wpAny_ready (rs := [0]) (by kernel_rfl) (by simp) ?_
      refine AllReady.cons rfl (fun K hK => ?_) ?_
      · go_simp
        refine hK _ _ ?_
        clear hK K
        refine wpAny_ready (rs := [4]) (by kernel_rfl) (by simp) ?_
        refine AllReady.cons rfl (fun K hK => ?_) ?_
        · go_simp
          refine hCH.mono ?_
          rintro e w6 ⟨rfl, hN6, hG6⟩
          rw [HE.out] at hN6
          refine hK _ _ ?_
          clear hK K
          refine wpAny_done (by kernel_rfl) ?_ _
          have hX6 := (hG6.block _ (Array.getElem?_eq_some_iff.1 HX5.out).1 (fun e => by cases e; omega)).trans HX5.out
          have hR6 : w6.heap[w.heap.size + 1 + 1]? = _ := (hG6.block _ (Array.getElem?_eq_some_iff.1 HR5.out).1 (fun e => by cases e; omega)).trans HR5.out
          have z0 : w6.cell? ⟨w1.heap.size, 0, none⟩ = some (.int .i64 2) := cell_of_cells hX6 0
          have z1 : w6.cell? ⟨w1.heap.size, 1, none⟩ = some (.int .i64 c) := cell_of_cells hX6 1
          have z2 : w6.cell? ⟨w1.heap.size, 2, none⟩ = some (.slice (some ⟨g, 0, none⟩) (2 * c) (2 * c)) := cell_of_cells hX6 2
          have v0 : w6.cell? ⟨w.heap.size + 1 + 1, 0, none⟩ = some (.int .i64 0) := cell_of_cells hR6 0
          have v1 : w6.cell? ⟨w.heap.size + 1 + 1, 1, none⟩ = some (.int .i64 0) := cell_of_cells hR6 1
          have v2 : w6.cell? ⟨w.heap.size + 1 + 1, 2, none⟩ = some (.slice none 0 0) := cell_of_cells hR6 2
          have f0 : w6.frozen? ⟨w.heap.size + 1 + 1, 0, none⟩ = false := frozen_of_cells hR6 0
          have f1 : w6.frozen? ⟨w.heap.size + 1 + 1, 1, none⟩ = false := frozen_of_cells hR6 1
          have f2 : w6.frozen? ⟨w.heap.size + 1 + 1, 2, none⟩ = false := frozen_of_cells hR6 2
          obtain ⟨V, hV, hXV, hNV, hBV⟩ := fin w6 hN6 hG6
          clear fin hX6 hR6 hN6 hG6 hCH
          go_wp2_with fail
          have k0 := cell_of_cells hXV 0
          have k1 := cell_of_cells hXV 1
          have k2 := cell_of_cells hXV 2
          simp at k0 k1 k2
          exact bodyPost_ret (v := .tuple #[.agg #[.int .i64 2, .int .i64 c, .slice (some ⟨g, 0, none⟩) (2 * c) (2 * c)], .int .i64 0]) (by simp [results, Tryz.f213, go_sem, k0, k1, k2]) rfl ⟨g, rfl, hNV, by omega, hBV⟩
        exact AllReady.nil
      exact AllReady.nil
    exact AllReady.nil
  exact AllReady.nil
end Go.Proofs.YtmkefodaibmkhaaGreatDoor
