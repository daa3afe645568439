/- Package ladder: the four bodies' merge. Printed by gen_mg.py. Package ladder: a body's merge through the interface; even. -/
import Derived.Test.YtmkefodaibmkhaaGreatDoorZLG
import Derived.Test.YtmkefodaibmkhaaGreatDoorZMB
import Derived.Test.YtmkefodaibmkhaaGreatDoorZMD
import Derived.Test.YtmkefodaibmkhaaGreatDoorZME
import Derived.Test.YtmkefodaibmkhaaGreatDoorZLH
namespace Go.Proofs.YtmkefodaibmkhaaGreatDoor
open Go Go.RowKit Go.Shelf

set_option maxRecDepth 100000 in
set_option maxHeartbeats 2000000 in
theorem mrg_num (l m : List Int) (a : Option Addr) (len cap : Nat) (a2 : Option Addr) (len2 cap2 : Nat) (z : List Int) (w : World) (hS : SlC encU 1 w.heap.size w a len cap l) (hM : SlC encU 1 w.heap.size w a2 len2 cap2 m) (hr : exRight l = true) (hr2 : exRight m = true) (he : exGather l m = some z) :
    Calls Tryz.prog 170 #[.agg #[.slice a len cap], .iface 184 (.agg #[.slice a2 len2 cap2])] w (BodyPost (some (Bd.num z)) w) := by
  obtain ⟨W0, hW0, hXb, hB0, hs0⟩ := boxes1 w #[.slice a len cap] 184
  have hXd : W0.drew.heap[w.heap.size]? = some (.cells #[.slice a len cap] 184 (0, 0)) := hXb
  have c0 : W0.drew.cell? ⟨w.heap.size, 0, none⟩ = some (.slice a len cap) := cell_of_cells hXd 0
  have HA : Hid (∀ W, Below W0.heap.size W0 W → Calls Tryz.prog 175 #[.agg #[.slice a len cap], .agg #[.slice a2 len2 cap2]] W fun e w' => ∃ a' cap', e = .returned (.tuple #[.agg #[.slice a' z.length cap'], .int .i64 0]) ∧ BdAt w' (.iface 184 (.agg #[.slice a' z.length cap'])) (Bd.num z) ∧ Below W.heap.size W w') := by
    intro W hB
    have h := exMerge_any l m a len cap a2 len2 cap2 W ((hS.1.below (hB0.trans (hB.mono hB0.size))).mono (hB0.trans (hB.mono hB0.size)).size) (fun e => by have := hS.2.2.2.1 e; have := hS.2.1; omega) ((hM.1.below (hB0.trans (hB.mono hB0.size))).mono (hB0.trans (hB.mono hB0.size)).size) hr hr2
    rw [he] at h
    exact h.mono fun e w' ⟨hb, a', cap', e1, hS1, _⟩ => ⟨a', cap', e1, ⟨_, _, _, rfl, hS1⟩, hb⟩
  have hTA : ∀ w, (Instr.typeAssert (.iface 184 (.agg #[.slice a2 len2 cap2])) 66 184 false).run Tryz.prog w = .ok (.agg #[.slice a2 len2 cap2]) w := fun w => by kernel_rfl
  have hFl : ∀ w, (Instr.field 184 (.agg #[.slice a2 len2 cap2]) 0).run Tryz.prog w = .ok (.agg #[.slice a2 len2 cap2]) w := fun w => by kernel_rfl
  obtain ⟨Wa, hWa, hXa, hBa, hsa⟩ := boxes1 W0 #[.slice none 0 0] 27
  obtain ⟨W1, hW1, hX1, hB1⟩ : ∃ W1, (W0.alloc (.cells #[.slice none 0 0] 27)).drew = W1 ∧ W1.heap[W0.heap.size]? = some (.cells #[.slice none 0 0] 27 (0, 0)) ∧ Below W0.heap.size W0 W1 := ⟨_, rfl, by rw [hWa]; exact hXa, by rw [hWa]; exact hBa.drew⟩
  have hX1b : W1.heap[w.heap.size]? = some (.cells #[.slice a len cap] 184 (0, 0)) := known hB1 (Nat.le_refl _) hXb
  rw [hs0] at hX1
  have k0 : W1.cell? ⟨w.heap.size, 0, none⟩ = some (.slice a len cap) := cell_of_cells hX1b 0
  have HW1 := Lib.hid hW1
  have HX1 := Lib.hid hX1
  have HB0 := Lib.hid hB0
  have HB1 := Lib.hid hB1
  have HA1 := Lib.hid (HA.out W1 HB1.out)
  have HA0 := Lib.hid (HA.out W0.drew (Below.refl _ W0).drew)
  have hs0' : w.heap.size + 1 ≤ W0.heap.size := by omega
  obtain ⟨P, hP⟩ : ∃ P, BodyPost (some (Bd.num z)) w = P := ⟨_, rfl⟩
  have HP := Lib.hid hP
  rw [hP]
  clear hP HA hXb hB0 hXd hW1 hX1 hX1b hB1 hWa hXa hBa hsa hS hM hr hr2 he
  go_enter Tryz.func170, Tryz.ntmps170
  go_wp2_with fail
  refine wp_region_any (by kernel_rfl) ?_
  change wpAny _ _ _ _ _ _ _ (World.drew _)
  refine wpAny_take (i := 0) (v := ?_) rfl (by kernel_rfl) (by kernel_rfl) (by kernel_rfl) (fun _ _ _ h => h) (Or.inl ⟨by rfl, ?_⟩) ?_
  rotate_left
  · intro w; go_simp; with_reducible rfl
  refine wpAny_take (i := 2) (v := ?_) rfl (by kernel_rfl) (by kernel_rfl) (by kernel_rfl) (fun _ _ _ h => h) (Or.inl ⟨by rfl, ?_⟩) ?_
  rotate_left
  · intro w; go_simp; with_reducible rfl
  refine wpAny_take (i := 3) (v := ?_) rfl (by kernel_rfl) (by kernel_rfl) (by kernel_rfl) (fun _ _ _ h => h) (Or.inl ⟨by rfl, ?_⟩) ?_
  rotate_left
  · intro w; go_simp; with_reducible rfl
  refine wpAny_take (i := 4) (v := ?_) rfl (by kernel_rfl) (by kernel_rfl) (by kernel_rfl) (fun _ _ _ h => h) (Or.inl ⟨by rfl, ?_⟩) ?_
  rotate_left
  · intro w; go_simp; with_reducible rfl
  refine wpAny_ready (rs := [1, 9]) (by kernel_rfl) (by simp) ?_
  refine AllReady.cons rfl (fun K hK => ?_) ?_
  · go_simp
    refine hK _ _ ?_
    clear hK K
    refine wpAny_ready (rs := [5, 9]) (by kernel_rfl) (by simp) ?_
    refine AllReady.cons rfl (fun K hK => ?_) ?_
    · go_simp
      refine HA0.out.mono ?_
      rintro e w2 ⟨a', cap', rfl, hbd, hb2⟩
      obtain ⟨W3, hW3, hX3, hB3, hs3⟩ := boxes1 w2 #[.slice none 0 0] 27
      have hb23 := hb2.trans (hB3.mono hb2.size)
      have hbx : W0.heap.size ≤ w2.heap.size := hb2.size
      have hBw2 : Below w.heap.size w W3 := HB0.out.trans (((Below.refl _ W0).drew.trans hb23).mono HB0.out.size)
      have hbox : w.heap.size ≤ w2.heap.size := by omega
      replace hbd := hbd.go hB3
      obtain ⟨V, hV⟩ : ∃ V, (W3.setCell ⟨w2.heap.size, 0, none⟩ (.slice a' z.length cap')) = V := ⟨_, rfl⟩
      have hXV : V.heap[w2.heap.size]? = some (.cells #[.slice a' z.length cap'] 27 (0, 0)) := by rw [← hV]; exact (heap_set_known hX3 (.slice a' z.length cap'))
      have hOV : OnlyAt (w2.heap.size) W3 V := by rw [← hV]; exact ((OnlyAt.refl _ _).set _ _)
      have x0 : W3.cell? ⟨w2.heap.size, 0, none⟩ = some (.slice none 0 0) := cell_of_cells hX3 0
      have f0 : W3.frozen? ⟨w2.heap.size, 0, none⟩ = false := frozen_of_cells hX3 0
      have y0 : V.cell? ⟨w2.heap.size, 0, none⟩ = some (.slice a' z.length cap') := cell_of_cells hXV 0
      have hBV : Below w.heap.size w V := by rw [← hV]; exact (hBw2.setCell (p := ⟨w2.heap.size, 0, none⟩) hbox _)
      have HE : Hid (BdAt V (.iface 184 (.agg #[.slice a' z.length cap'])) (Bd.num z) ∧ Below w.heap.size w V) := ⟨BdAt.apart hbd hX3 (fun i u h => by rcases i with _ | i <;> simp at h) hOV, hBV⟩
      have HT := Lib.hid (told_ok (.iface 184 (.agg #[.slice a' z.length cap'])) V)
      clear hXV hOV hBV hX3 hbd
      have HW3 := Lib.hid hW3
      clear hb2 hb23 hBw2 hbx hbox hB3 hs3 hW3
      refine hK _ _ ?_
      clear hK K
      refine wpAny_take (i := 6) (v := ?_) rfl (by kernel_rfl) (by kernel_rfl) (by kernel_rfl) (fun _ _ _ h => h) (Or.inl ⟨by rfl, ?_⟩) ?_
      rotate_left
      · intro w; go_simp; with_reducible rfl
      refine wpAny_take (i := 7) (v := ?_) rfl (by kernel_rfl) (by kernel_rfl) (by kernel_rfl) (fun _ _ _ h => h) (Or.inl ⟨by rfl, ?_⟩) ?_
      rotate_left
      · intro w; go_simp; with_reducible rfl
      refine wpAny_take (i := 8) (v := ?_) rfl (by kernel_rfl) (by kernel_rfl) (by kernel_rfl) (fun _ _ _ h => h) (Or.inl ⟨by rfl, ?_⟩) ?_
      rotate_left
      · intro w; go_simp; with_reducible rfl
      refine wpAny_ready (rs := [9]) (by kernel_rfl) (by simp) ?_
      refine AllReady.cons rfl (fun K hK => ?_) ?_
      · go_simp
        rw [HW3.out]
        refine hK _ _ ?_
        clear hK K
        refine wpAny_ready (rs := [10]) (by kernel_rfl) (by simp) ?_
        refine AllReady.cons rfl (fun K hK => ?_) ?_
        · go_simp
          refine hK _ _ ?_
          clear hK K
          refine wpAny_take (i := 11) (v := ?_) rfl (by kernel_rfl) (by kernel_rfl) (by kernel_rfl) (fun _ _ _ h => h) (Or.inl ⟨by rfl, ?_⟩) ?_
          rotate_left
          · intro w; go_simp; with_reducible rfl
          refine wpAny_done (by kernel_rfl) ?_ _
          go_wp2_with fail
          refine HT.out.mono ?_
          rintro e w3 ⟨rfl, rfl⟩
          go_wp2_with fail
          rw [← HP.out]
          exact ⟨HE.out.2, _, rfl, HE.out.1⟩
        exact AllReady.nil
      exact AllReady.nil
    refine AllReady.cons rfl (fun K hK => ?_) ?_
    · go_simp
      rw [HW1.out]
      refine hK _ _ ?_
      clear hK K
      refine wpAny_ready (rs := [5]) (by kernel_rfl) (by simp) ?_
      refine AllReady.cons rfl (fun K hK => ?_) ?_
      · go_simp
        refine HA1.out.mono ?_
        rintro e w2 ⟨a', cap', rfl, hbd, hb2⟩
        have hX2 := known hb2 (Nat.le_refl _) HX1.out
        have hb12 := HB1.out.trans (hb2.mono HB1.out.size)
        have hbox : w.heap.size ≤ w.heap.size + 1 := Nat.le_succ _
        have hBw2 := HB0.out.trans (hb12.mono HB0.out.size)
        obtain ⟨V, hV⟩ : ∃ V, (w2.setCell ⟨w.heap.size + 1, 0, none⟩ (.slice a' z.length cap')) = V := ⟨_, rfl⟩
        have hXV : V.heap[w.heap.size + 1]? = some (.cells #[.slice a' z.length cap'] 27 (0, 0)) := by rw [← hV]; exact (heap_set_known hX2 (.slice a' z.length cap'))
        have hOV : OnlyAt (w.heap.size + 1) w2 V := by rw [← hV]; exact ((OnlyAt.refl _ _).set _ _)
        have x0 : w2.cell? ⟨w.heap.size + 1, 0, none⟩ = some (.slice none 0 0) := cell_of_cells hX2 0
        have f0 : w2.frozen? ⟨w.heap.size + 1, 0, none⟩ = false := frozen_of_cells hX2 0
        have y0 : V.cell? ⟨w.heap.size + 1, 0, none⟩ = some (.slice a' z.length cap') := cell_of_cells hXV 0
        have hBV : Below w.heap.size w V := by rw [← hV]; exact (hBw2.setCell (p := ⟨w.heap.size + 1, 0, none⟩) hbox _)
        have HE : Hid (BdAt V (.iface 184 (.agg #[.slice a' z.length cap'])) (Bd.num z) ∧ Below w.heap.size w V) := ⟨BdAt.apart hbd hX2 (fun i u h => by rcases i with _ | i <;> simp at h) hOV, hBV⟩
        have HT := Lib.hid (told_ok (.iface 184 (.agg #[.slice a' z.length cap'])) V)
        clear hXV hOV hBV hX2 hbd
        clear hb2 hb12 hBw2 hbox
        refine hK _ _ ?_
        clear hK K
        refine wpAny_take (i := 6) (v := ?_) rfl (by kernel_rfl) (by kernel_rfl) (by kernel_rfl) (fun _ _ _ h => h) (Or.inl ⟨by rfl, ?_⟩) ?_
        rotate_left
        · intro w; go_simp; with_reducible rfl
        refine wpAny_take (i := 7) (v := ?_) rfl (by kernel_rfl) (by kernel_rfl) (by kernel_rfl) (fun _ _ _ h => h) (Or.inl ⟨by rfl, ?_⟩) ?_
        rotate_left
        · intro w; go_simp; with_reducible rfl
        refine wpAny_take (i := 8) (v := ?_) rfl (by kernel_rfl) (by kernel_rfl) (by kernel_rfl) (fun _ _ _ h => h) (Or.inl ⟨by rfl, ?_⟩) ?_
        rotate_left
        · intro w; go_simp; with_reducible rfl
        refine wpAny_ready (rs := [10]) (by kernel_rfl) (by simp) ?_
        refine AllReady.cons rfl (fun K hK => ?_) ?_
        · go_simp
          refine hK _ _ ?_
          clear hK K
          refine wpAny_take (i := 11) (v := ?_) rfl (by kernel_rfl) (by kernel_rfl) (by kernel_rfl) (fun _ _ _ h => h) (Or.inl ⟨by rfl, ?_⟩) ?_
          rotate_left
          · intro w; go_simp; with_reducible rfl
          refine wpAny_done (by kernel_rfl) ?_ _
          go_wp2_with fail
          refine HT.out.mono ?_
          rintro e w3 ⟨rfl, rfl⟩
          go_wp2_with fail
          rw [← HP.out]
          exact ⟨HE.out.2, _, rfl, HE.out.1⟩
        exact AllReady.nil
      exact AllReady.nil
    exact AllReady.nil
  refine AllReady.cons rfl (fun K hK => ?_) ?_
  · go_simp
    rw [HW1.out]
    refine hK _ _ ?_
    clear hK K
    refine wpAny_ready (rs := [1]) (by kernel_rfl) (by simp) ?_
    refine AllReady.cons rfl (fun K hK => ?_) ?_
    · go_simp
      refine hK _ _ ?_
      clear hK K
      refine wpAny_ready (rs := [5]) (by kernel_rfl) (by simp) ?_
      refine AllReady.cons rfl (fun K hK => ?_) ?_
      · go_simp
        refine HA1.out.mono ?_
        rintro e w2 ⟨a', cap', rfl, hbd, hb2⟩
        have hX2 := known hb2 (Nat.le_refl _) HX1.out
        have hb12 := HB1.out.trans (hb2.mono HB1.out.size)
        have hbox : w.heap.size ≤ w.heap.size + 1 := Nat.le_succ _
        have hBw2 := HB0.out.trans (hb12.mono HB0.out.size)
        obtain ⟨V, hV⟩ : ∃ V, (w2.setCell ⟨w.heap.size + 1, 0, none⟩ (.slice a' z.length cap')) = V := ⟨_, rfl⟩
        have hXV : V.heap[w.heap.size + 1]? = some (.cells #[.slice a' z.length cap'] 27 (0, 0)) := by rw [← hV]; exact (heap_set_known hX2 (.slice a' z.length cap'))
        have hOV : OnlyAt (w.heap.size + 1) w2 V := by rw [← hV]; exact ((OnlyAt.refl _ _).set _ _)
        have x0 : w2.cell? ⟨w.heap.size + 1, 0, none⟩ = some (.slice none 0 0) := cell_of_cells hX2 0
        have f0 : w2.frozen? ⟨w.heap.size + 1, 0, none⟩ = false := frozen_of_cells hX2 0
        have y0 : V.cell? ⟨w.heap.size + 1, 0, none⟩ = some (.slice a' z.length cap') := cell_of_cells hXV 0
        have hBV : Below w.heap.size w V := by rw [← hV]; exact (hBw2.setCell (p := ⟨w.heap.size + 1, 0, none⟩) hbox _)
        have HE : Hid (BdAt V (.iface 184 (.agg #[.slice a' z.length cap'])) (Bd.num z) ∧ Below w.heap.size w V) := ⟨BdAt.apart hbd hX2 (fun i u h => by rcases i with _ | i <;> simp at h) hOV, hBV⟩
        have HT := Lib.hid (told_ok (.iface 184 (.agg #[.slice a' z.length cap'])) V)
        clear hXV hOV hBV hX2 hbd
        clear hb2 hb12 hBw2 hbox
        refine hK _ _ ?_
        clear hK K
        refine wpAny_take (i := 6) (v := ?_) rfl (by kernel_rfl) (by kernel_rfl) (by kernel_rfl) (fun _ _ _ h => h) (Or.inl ⟨by rfl, ?_⟩) ?_
        rotate_left
        · intro w; go_simp; with_reducible rfl
        refine wpAny_take (i := 7) (v := ?_) rfl (by kernel_rfl) (by kernel_rfl) (by kernel_rfl) (fun _ _ _ h => h) (Or.inl ⟨by rfl, ?_⟩) ?_
        rotate_left
        · intro w; go_simp; with_reducible rfl
        refine wpAny_take (i := 8) (v := ?_) rfl (by kernel_rfl) (by kernel_rfl) (by kernel_rfl) (fun _ _ _ h => h) (Or.inl ⟨by rfl, ?_⟩) ?_
        rotate_left
        · intro w; go_simp; with_reducible rfl
        refine wpAny_ready (rs := [10]) (by kernel_rfl) (by simp) ?_
        refine AllReady.cons rfl (fun K hK => ?_) ?_
        · go_simp
          refine hK _ _ ?_
          clear hK K
          refine wpAny_take (i := 11) (v := ?_) rfl (by kernel_rfl) (by kernel_rfl) (by kernel_rfl) (fun _ _ _ h => h) (Or.inl ⟨by rfl, ?_⟩) ?_
          rotate_left
          · intro w; go_simp; with_reducible rfl
          refine wpAny_done (by kernel_rfl) ?_ _
          go_wp2_with fail
          refine HT.out.mono ?_
          rintro e w3 ⟨rfl, rfl⟩
          go_wp2_with fail
          rw [← HP.out]
          exact ⟨HE.out.2, _, rfl, HE.out.1⟩
        exact AllReady.nil
      exact AllReady.nil
    exact AllReady.nil
  exact AllReady.nil
set_option maxRecDepth 100000 in
set_option maxHeartbeats 2000000 in
theorem mrg_full (l m : List Int) (a : Option Addr) (len cap : Nat) (a2 : Option Addr) (len2 cap2 : Nat) (w : World) (hS : SlC encU 1 w.heap.size w a len cap l) (hM : SlC encU 1 w.heap.size w a2 len2 cap2 m) (hr : exRight l = true) (hr2 : exRight m = true) (he : exGather l m = none) :
    Calls Tryz.prog 170 #[.agg #[.slice a len cap], .iface 184 (.agg #[.slice a2 len2 cap2])] w (BodyPost (none : Option Bd) w) := by
  obtain ⟨W0, hW0, hXb, hB0, hs0⟩ := boxes1 w #[.slice a len cap] 184
  have hXd : W0.drew.heap[w.heap.size]? = some (.cells #[.slice a len cap] 184 (0, 0)) := hXb
  have c0 : W0.drew.cell? ⟨w.heap.size, 0, none⟩ = some (.slice a len cap) := cell_of_cells hXd 0
  have HA : Hid (∀ W, Below W0.heap.size W0 W → Calls Tryz.prog 175 #[.agg #[.slice a len cap], .agg #[.slice a2 len2 cap2]] W fun e w' => e = .returned (.tuple #[.agg #[.slice none 0 0], .int .i64 60]) ∧ Below W.heap.size W w') := by
    intro W hB
    have h := exMerge_any l m a len cap a2 len2 cap2 W ((hS.1.below (hB0.trans (hB.mono hB0.size))).mono (hB0.trans (hB.mono hB0.size)).size) (fun e => by have := hS.2.2.2.1 e; have := hS.2.1; omega) ((hM.1.below (hB0.trans (hB.mono hB0.size))).mono (hB0.trans (hB.mono hB0.size)).size) hr hr2
    rw [he] at h
    exact h.mono fun e w' ⟨hb, e1⟩ => ⟨e1, hb⟩
  have hTA : ∀ w, (Instr.typeAssert (.iface 184 (.agg #[.slice a2 len2 cap2])) 66 184 false).run Tryz.prog w = .ok (.agg #[.slice a2 len2 cap2]) w := fun w => by kernel_rfl
  have hFl : ∀ w, (Instr.field 184 (.agg #[.slice a2 len2 cap2]) 0).run Tryz.prog w = .ok (.agg #[.slice a2 len2 cap2]) w := fun w => by kernel_rfl
  obtain ⟨Wa, hWa, hXa, hBa, hsa⟩ := boxes1 W0 #[.slice none 0 0] 27
  obtain ⟨W1, hW1, hX1, hB1⟩ : ∃ W1, (W0.alloc (.cells #[.slice none 0 0] 27)).drew = W1 ∧ W1.heap[W0.heap.size]? = some (.cells #[.slice none 0 0] 27 (0, 0)) ∧ Below W0.heap.size W0 W1 := ⟨_, rfl, by rw [hWa]; exact hXa, by rw [hWa]; exact hBa.drew⟩
  have hX1b : W1.heap[w.heap.size]? = some (.cells #[.slice a len cap] 184 (0, 0)) := known hB1 (Nat.le_refl _) hXb
  rw [hs0] at hX1
  have k0 : W1.cell? ⟨w.heap.size, 0, none⟩ = some (.slice a len cap) := cell_of_cells hX1b 0
  have HW1 := Lib.hid hW1
  have HX1 := Lib.hid hX1
  have HB0 := Lib.hid hB0
  have HB1 := Lib.hid hB1
  have HA1 := Lib.hid (HA.out W1 HB1.out)
  have HA0 := Lib.hid (HA.out W0.drew (Below.refl _ W0).drew)
  have hs0' : w.heap.size + 1 ≤ W0.heap.size := by omega
  obtain ⟨P, hP⟩ : ∃ P, BodyPost (none : Option Bd) w = P := ⟨_, rfl⟩
  have HP := Lib.hid hP
  rw [hP]
  clear hP HA hXb hB0 hXd hW1 hX1 hX1b hB1 hWa hXa hBa hsa hS hM hr hr2 he
  go_enter Tryz.func170, Tryz.ntmps170
  go_wp2_with fail
  refine wp_region_any (by kernel_rfl) ?_
  change wpAny _ _ _ _ _ _ _ (World.drew _)
  refine wpAny_take (i := 0) (v := ?_) rfl (by kernel_rfl) (by kernel_rfl) (by kernel_rfl) (fun _ _ _ h => h) (Or.inl ⟨by rfl, ?_⟩) ?_
  rotate_left
  · intro w; go_simp; with_reducible rfl
  refine wpAny_take (i := 2) (v := ?_) rfl (by kernel_rfl) (by kernel_rfl) (by kernel_rfl) (fun _ _ _ h => h) (Or.inl ⟨by rfl, ?_⟩) ?_
  rotate_left
  · intro w; go_simp; with_reducible rfl
  refine wpAny_take (i := 3) (v := ?_) rfl (by kernel_rfl) (by kernel_rfl) (by kernel_rfl) (fun _ _ _ h => h) (Or.inl ⟨by rfl, ?_⟩) ?_
  rotate_left
  · intro w; go_simp; with_reducible rfl
  refine wpAny_take (i := 4) (v := ?_) rfl (by kernel_rfl) (by kernel_rfl) (by kernel_rfl) (fun _ _ _ h => h) (Or.inl ⟨by rfl, ?_⟩) ?_
  rotate_left
  · intro w; go_simp; with_reducible rfl
  refine wpAny_ready (rs := [1, 9]) (by kernel_rfl) (by simp) ?_
  refine AllReady.cons rfl (fun K hK => ?_) ?_
  · go_simp
    refine hK _ _ ?_
    clear hK K
    refine wpAny_ready (rs := [5, 9]) (by kernel_rfl) (by simp) ?_
    refine AllReady.cons rfl (fun K hK => ?_) ?_
    · go_simp
      refine HA0.out.mono ?_
      rintro e w2 ⟨rfl, hb2⟩
      obtain ⟨W3, hW3, hX3, hB3, hs3⟩ := boxes1 w2 #[.slice none 0 0] 27
      have hb23 := hb2.trans (hB3.mono hb2.size)
      have hbx : W0.heap.size ≤ w2.heap.size := hb2.size
      have hBw2 : Below w.heap.size w W3 := HB0.out.trans (((Below.refl _ W0).drew.trans hb23).mono HB0.out.size)
      have hbox : w.heap.size ≤ w2.heap.size := by omega
      obtain ⟨V, hV⟩ : ∃ V, (W3.setCell ⟨w2.heap.size, 0, none⟩ (.slice none 0 0)) = V := ⟨_, rfl⟩
      have hXV : V.heap[w2.heap.size]? = some (.cells #[.slice none 0 0] 27 (0, 0)) := by rw [← hV]; exact (heap_set_known hX3 (.slice none 0 0))
      have hOV : OnlyAt (w2.heap.size) W3 V := by rw [← hV]; exact ((OnlyAt.refl _ _).set _ _)
      have x0 : W3.cell? ⟨w2.heap.size, 0, none⟩ = some (.slice none 0 0) := cell_of_cells hX3 0
      have f0 : W3.frozen? ⟨w2.heap.size, 0, none⟩ = false := frozen_of_cells hX3 0
      have y0 : V.cell? ⟨w2.heap.size, 0, none⟩ = some (.slice none 0 0) := cell_of_cells hXV 0
      have hBV : Below w.heap.size w V := by rw [← hV]; exact (hBw2.setCell (p := ⟨w2.heap.size, 0, none⟩) hbox _)
      have HE : Hid (Below w.heap.size w V) := hBV
      have HT := Lib.hid (told_no (.iface 184 (.agg #[.slice none 0 0])) V)
      clear hXV hOV hBV hX3
      have HW3 := Lib.hid hW3
      clear hb2 hb23 hBw2 hbx hbox hB3 hs3 hW3
      refine hK _ _ ?_
      clear hK K
      refine wpAny_take (i := 6) (v := ?_) rfl (by kernel_rfl) (by kernel_rfl) (by kernel_rfl) (fun _ _ _ h => h) (Or.inl ⟨by rfl, ?_⟩) ?_
      rotate_left
      · intro w; go_simp; with_reducible rfl
      refine wpAny_take (i := 7) (v := ?_) rfl (by kernel_rfl) (by kernel_rfl) (by kernel_rfl) (fun _ _ _ h => h) (Or.inl ⟨by rfl, ?_⟩) ?_
      rotate_left
      · intro w; go_simp; with_reducible rfl
      refine wpAny_take (i := 8) (v := ?_) rfl (by kernel_rfl) (by kernel_rfl) (by kernel_rfl) (fun _ _ _ h => h) (Or.inl ⟨by rfl, ?_⟩) ?_
      rotate_left
      · intro w; go_simp; with_reducible rfl
      refine wpAny_ready (rs := [9]) (by kernel_rfl) (by simp) ?_
      refine AllReady.cons rfl (fun K hK => ?_) ?_
      · go_simp
        rw [HW3.out]
        refine hK _ _ ?_
        clear hK K
        refine wpAny_ready (rs := [10]) (by kernel_rfl) (by simp) ?_
        refine AllReady.cons rfl (fun K hK => ?_) ?_
        · go_simp
          refine hK _ _ ?_
          clear hK K
          refine wpAny_take (i := 11) (v := ?_) rfl (by kernel_rfl) (by kernel_rfl) (by kernel_rfl) (fun _ _ _ h => h) (Or.inl ⟨by rfl, ?_⟩) ?_
          rotate_left
          · intro w; go_simp; with_reducible rfl
          refine wpAny_done (by kernel_rfl) ?_ _
          go_wp2_with fail
          refine HT.out.mono ?_
          rintro e w3 ⟨rfl, rfl⟩
          go_wp2_with fail
          rw [← HP.out]
          exact ⟨HE.out.alloc HE.out.size _, _, rfl, _, rfl, World.alloc_heap_new _ _⟩
        exact AllReady.nil
      exact AllReady.nil
    refine AllReady.cons rfl (fun K hK => ?_) ?_
    · go_simp
      rw [HW1.out]
      refine hK _ _ ?_
      clear hK K
      refine wpAny_ready (rs := [5]) (by kernel_rfl) (by simp) ?_
      refine AllReady.cons rfl (fun K hK => ?_) ?_
      · go_simp
        refine HA1.out.mono ?_
        rintro e w2 ⟨rfl, hb2⟩
        have hX2 := known hb2 (Nat.le_refl _) HX1.out
        have hb12 := HB1.out.trans (hb2.mono HB1.out.size)
        have hbox : w.heap.size ≤ w.heap.size + 1 := Nat.le_succ _
        have hBw2 := HB0.out.trans (hb12.mono HB0.out.size)
        obtain ⟨V, hV⟩ : ∃ V, (w2.setCell ⟨w.heap.size + 1, 0, none⟩ (.slice none 0 0)) = V := ⟨_, rfl⟩
        have hXV : V.heap[w.heap.size + 1]? = some (.cells #[.slice none 0 0] 27 (0, 0)) := by rw [← hV]; exact (heap_set_known hX2 (.slice none 0 0))
        have hOV : OnlyAt (w.heap.size + 1) w2 V := by rw [← hV]; exact ((OnlyAt.refl _ _).set _ _)
        have x0 : w2.cell? ⟨w.heap.size + 1, 0, none⟩ = some (.slice none 0 0) := cell_of_cells hX2 0
        have f0 : w2.frozen? ⟨w.heap.size + 1, 0, none⟩ = false := frozen_of_cells hX2 0
        have y0 : V.cell? ⟨w.heap.size + 1, 0, none⟩ = some (.slice none 0 0) := cell_of_cells hXV 0
        have hBV : Below w.heap.size w V := by rw [← hV]; exact (hBw2.setCell (p := ⟨w.heap.size + 1, 0, none⟩) hbox _)
        have HE : Hid (Below w.heap.size w V) := hBV
        have HT := Lib.hid (told_no (.iface 184 (.agg #[.slice none 0 0])) V)
        clear hXV hOV hBV hX2
        clear hb2 hb12 hBw2 hbox
        refine hK _ _ ?_
        clear hK K
        refine wpAny_take (i := 6) (v := ?_) rfl (by kernel_rfl) (by kernel_rfl) (by kernel_rfl) (fun _ _ _ h => h) (Or.inl ⟨by rfl, ?_⟩) ?_
        rotate_left
        · intro w; go_simp; with_reducible rfl
        refine wpAny_take (i := 7) (v := ?_) rfl (by kernel_rfl) (by kernel_rfl) (by kernel_rfl) (fun _ _ _ h => h) (Or.inl ⟨by rfl, ?_⟩) ?_
        rotate_left
        · intro w; go_simp; with_reducible rfl
        refine wpAny_take (i := 8) (v := ?_) rfl (by kernel_rfl) (by kernel_rfl) (by kernel_rfl) (fun _ _ _ h => h) (Or.inl ⟨by rfl, ?_⟩) ?_
        rotate_left
        · intro w; go_simp; with_reducible rfl
        refine wpAny_ready (rs := [10]) (by kernel_rfl) (by simp) ?_
        refine AllReady.cons rfl (fun K hK => ?_) ?_
        · go_simp
          refine hK _ _ ?_
          clear hK K
          refine wpAny_take (i := 11) (v := ?_) rfl (by kernel_rfl) (by kernel_rfl) (by kernel_rfl) (fun _ _ _ h => h) (Or.inl ⟨by rfl, ?_⟩) ?_
          rotate_left
          · intro w; go_simp; with_reducible rfl
          refine wpAny_done (by kernel_rfl) ?_ _
          go_wp2_with fail
          refine HT.out.mono ?_
          rintro e w3 ⟨rfl, rfl⟩
          go_wp2_with fail
          rw [← HP.out]
          exact ⟨HE.out.alloc HE.out.size _, _, rfl, _, rfl, World.alloc_heap_new _ _⟩
        exact AllReady.nil
      exact AllReady.nil
    exact AllReady.nil
  refine AllReady.cons rfl (fun K hK => ?_) ?_
  · go_simp
    rw [HW1.out]
    refine hK _ _ ?_
    clear hK K
    refine wpAny_ready (rs := [1]) (by kernel_rfl) (by simp) ?_
    refine AllReady.cons rfl (fun K hK => ?_) ?_
    · go_simp
      refine hK _ _ ?_
      clear hK K
      refine wpAny_ready (rs := [5]) (by kernel_rfl) (by simp) ?_
      refine AllReady.cons rfl (fun K hK => ?_) ?_
      · go_simp
        refine HA1.out.mono ?_
        rintro e w2 ⟨rfl, hb2⟩
        have hX2 := known hb2 (Nat.le_refl _) HX1.out
        have hb12 := HB1.out.trans (hb2.mono HB1.out.size)
        have hbox : w.heap.size ≤ w.heap.size + 1 := Nat.le_succ _
        have hBw2 := HB0.out.trans (hb12.mono HB0.out.size)
        obtain ⟨V, hV⟩ : ∃ V, (w2.setCell ⟨w.heap.size + 1, 0, none⟩ (.slice none 0 0)) = V := ⟨_, rfl⟩
        have hXV : V.heap[w.heap.size + 1]? = some (.cells #[.slice none 0 0] 27 (0, 0)) := by rw [← hV]; exact (heap_set_known hX2 (.slice none 0 0))
        have hOV : OnlyAt (w.heap.size + 1) w2 V := by rw [← hV]; exact ((OnlyAt.refl _ _).set _ _)
        have x0 : w2.cell? ⟨w.heap.size + 1, 0, none⟩ = some (.slice none 0 0) := cell_of_cells hX2 0
        have f0 : w2.frozen? ⟨w.heap.size + 1, 0, none⟩ = false := frozen_of_cells hX2 0
        have y0 : V.cell? ⟨w.heap.size + 1, 0, none⟩ = some (.slice none 0 0) := cell_of_cells hXV 0
        have hBV : Below w.heap.size w V := by rw [← hV]; exact (hBw2.setCell (p := ⟨w.heap.size + 1, 0, none⟩) hbox _)
        have HE : Hid (Below w.heap.size w V) := hBV
        have HT := Lib.hid (told_no (.iface 184 (.agg #[.slice none 0 0])) V)
        clear hXV hOV hBV hX2
        clear hb2 hb12 hBw2 hbox
        refine hK _ _ ?_
        clear hK K
        refine wpAny_take (i := 6) (v := ?_) rfl (by kernel_rfl) (by kernel_rfl) (by kernel_rfl) (fun _ _ _ h => h) (Or.inl ⟨by rfl, ?_⟩) ?_
        rotate_left
        · intro w; go_simp; with_reducible rfl
        refine wpAny_take (i := 7) (v := ?_) rfl (by kernel_rfl) (by kernel_rfl) (by kernel_rfl) (fun _ _ _ h => h) (Or.inl ⟨by rfl, ?_⟩) ?_
        rotate_left
        · intro w; go_simp; with_reducible rfl
        refine wpAny_take (i := 8) (v := ?_) rfl (by kernel_rfl) (by kernel_rfl) (by kernel_rfl) (fun _ _ _ h => h) (Or.inl ⟨by rfl, ?_⟩) ?_
        rotate_left
        · intro w; go_simp; with_reducible rfl
        refine wpAny_ready (rs := [10]) (by kernel_rfl) (by simp) ?_
        refine AllReady.cons rfl (fun K hK => ?_) ?_
        · go_simp
          refine hK _ _ ?_
          clear hK K
          refine wpAny_take (i := 11) (v := ?_) rfl (by kernel_rfl) (by kernel_rfl) (by kernel_rfl) (fun _ _ _ h => h) (Or.inl ⟨by rfl, ?_⟩) ?_
          rotate_left
          · intro w; go_simp; with_reducible rfl
          refine wpAny_done (by kernel_rfl) ?_ _
          go_wp2_with fail
          refine HT.out.mono ?_
          rintro e w3 ⟨rfl, rfl⟩
          go_wp2_with fail
          rw [← HP.out]
          exact ⟨HE.out.alloc HE.out.size _, _, rfl, _, rfl, World.alloc_heap_new _ _⟩
        exact AllReady.nil
      exact AllReady.nil
    exact AllReady.nil
  exact AllReady.nil
set_option maxRecDepth 100000 in
set_option maxHeartbeats 2000000 in
theorem mrg_reg (b : Nat) (r r2 : List Nat) (s s2 : ByteArray) (w : World) (h1 : 3 ≤ b) (h2 : b ≤ 8) (hl : r.length = 2 ^ b) (hr : ∀ i, r.getD i 0 ≤ 65 - b) (hl2 : r2.length = 2 ^ b) (hr2 : ∀ i, r2.getD i 0 ≤ 65 - b) (hs1 : s = hlStr r) (hs2 : s2 = hlStr r2) :
    Calls Tryz.prog 199 #[.agg #[.int .i64 b, .string s], .iface 187 (.agg #[.int .i64 b, .string s2])] w (BodyPost (some (Bd.reg b (hlMax r r2))) w) := by
  obtain ⟨W0, hW0, hXb, hB0, hs0⟩ := boxes1 w #[.int .i64 b, .string s] 187
  have hXd : W0.drew.heap[w.heap.size]? = some (.cells #[.int .i64 b, .string s] 187 (0, 0)) := hXb
  have c0 : W0.drew.cell? ⟨w.heap.size, 0, none⟩ = some (.int .i64 b) := cell_of_cells hXd 0
  have c1 : W0.drew.cell? ⟨w.heap.size, 1, none⟩ = some (.string s) := cell_of_cells hXd 1
  have HA : Hid (∀ W, Below W0.heap.size W0 W → Calls Tryz.prog 203 #[.agg #[.int .i64 b, .string s], .agg #[.int .i64 b, .string s2]] W fun e w' => ∃ s3, e = .returned (.tuple #[.agg #[.int .i64 b, .string s3], .int .i64 0]) ∧ BdAt w' (.iface 187 (.agg #[.int .i64 b, .string s3])) (Bd.reg b (hlMax r r2)) ∧ Below W.heap.size W w') := by
    intro W hB
    have h := hMerge_any b r r2 W h1 h2 hl hr hl2 hr2
    rw [← hs1, ← hs2] at h
    exact h.mono fun e w' ⟨e1, hb⟩ => ⟨_, e1, rfl, hb⟩
  have hTA : ∀ w, (Instr.typeAssert (.iface 187 (.agg #[.int .i64 b, .string s2])) 66 187 false).run Tryz.prog w = .ok (.agg #[.int .i64 b, .string s2]) w := fun w => by kernel_rfl
  have hFl : ∀ w, (Instr.field 187 (.agg #[.int .i64 b, .string s2]) 0).run Tryz.prog w = .ok (.agg #[.int .i64 b, .string s2]) w := fun w => by kernel_rfl
  obtain ⟨Wa, hWa, hXa, hBa, hsa⟩ := boxes1 W0 #[.int .i64 0, .string ⟨#[]⟩] 29
  obtain ⟨W1, hW1, hX1, hB1⟩ : ∃ W1, (W0.alloc (.cells #[.int .i64 0, .string ⟨#[]⟩] 29)).drew = W1 ∧ W1.heap[W0.heap.size]? = some (.cells #[.int .i64 0, .string ⟨#[]⟩] 29 (0, 0)) ∧ Below W0.heap.size W0 W1 := ⟨_, rfl, by rw [hWa]; exact hXa, by rw [hWa]; exact hBa.drew⟩
  have hX1b : W1.heap[w.heap.size]? = some (.cells #[.int .i64 b, .string s] 187 (0, 0)) := known hB1 (Nat.le_refl _) hXb
  rw [hs0] at hX1
  have k0 : W1.cell? ⟨w.heap.size, 0, none⟩ = some (.int .i64 b) := cell_of_cells hX1b 0
  have k1 : W1.cell? ⟨w.heap.size, 1, none⟩ = some (.string s) := cell_of_cells hX1b 1
  have HW1 := Lib.hid hW1
  have HX1 := Lib.hid hX1
  have HB0 := Lib.hid hB0
  have HB1 := Lib.hid hB1
  have HA1 := Lib.hid (HA.out W1 HB1.out)
  have HA0 := Lib.hid (HA.out W0.drew (Below.refl _ W0).drew)
  have hs0' : w.heap.size + 1 ≤ W0.heap.size := by omega
  obtain ⟨P, hP⟩ : ∃ P, BodyPost (some (Bd.reg b (hlMax r r2))) w = P := ⟨_, rfl⟩
  have HP := Lib.hid hP
  rw [hP]
  clear hP HA hXb hB0 hXd hW1 hX1 hX1b hB1 hWa hXa hBa hsa h1 h2 hl hr hl2 hr2 hs1 hs2
  go_enter Tryz.func199, Tryz.ntmps199
  go_wp2_with fail
  refine wp_region_any (by kernel_rfl) ?_
  change wpAny _ _ _ _ _ _ _ (World.drew _)
  refine wpAny_take (i := 0) (v := ?_) rfl (by kernel_rfl) (by kernel_rfl) (by kernel_rfl) (fun _ _ _ h => h) (Or.inl ⟨by rfl, ?_⟩) ?_
  rotate_left
  · intro w; go_simp; with_reducible rfl
  refine wpAny_take (i := 2) (v := ?_) rfl (by kernel_rfl) (by kernel_rfl) (by kernel_rfl) (fun _ _ _ h => h) (Or.inl ⟨by rfl, ?_⟩) ?_
  rotate_left
  · intro w; go_simp; with_reducible rfl
  refine wpAny_take (i := 3) (v := ?_) rfl (by kernel_rfl) (by kernel_rfl) (by kernel_rfl) (fun _ _ _ h => h) (Or.inl ⟨by rfl, ?_⟩) ?_
  rotate_left
  · intro w; go_simp; with_reducible rfl
  refine wpAny_take (i := 4) (v := ?_) rfl (by kernel_rfl) (by kernel_rfl) (by kernel_rfl) (fun _ _ _ h => h) (Or.inl ⟨by rfl, ?_⟩) ?_
  rotate_left
  · intro w; go_simp; with_reducible rfl
  refine wpAny_ready (rs := [1, 9]) (by kernel_rfl) (by simp) ?_
  refine AllReady.cons rfl (fun K hK => ?_) ?_
  · go_simp
    refine hK _ _ ?_
    clear hK K
    refine wpAny_ready (rs := [5, 9]) (by kernel_rfl) (by simp) ?_
    refine AllReady.cons rfl (fun K hK => ?_) ?_
    · go_simp
      refine HA0.out.mono ?_
      rintro e w2 ⟨s3, rfl, hbd, hb2⟩
      obtain ⟨W3, hW3, hX3, hB3, hs3⟩ := boxes1 w2 #[.int .i64 0, .string ⟨#[]⟩] 29
      have hb23 := hb2.trans (hB3.mono hb2.size)
      have hbx : W0.heap.size ≤ w2.heap.size := hb2.size
      have hBw2 : Below w.heap.size w W3 := HB0.out.trans (((Below.refl _ W0).drew.trans hb23).mono HB0.out.size)
      have hbox : w.heap.size ≤ w2.heap.size := by omega
      replace hbd := hbd.go hB3
      obtain ⟨V, hV⟩ : ∃ V, ((W3.setCell ⟨w2.heap.size, 0, none⟩ (.int .i64 b)).setCell ⟨w2.heap.size, 1, none⟩ (.string s3)) = V := ⟨_, rfl⟩
      have hXV : V.heap[w2.heap.size]? = some (.cells #[.int .i64 b, .string s3] 29 (0, 0)) := by rw [← hV]; exact (heap_set_known (heap_set_known hX3 (.int .i64 b)) (.string s3))
      have hOV : OnlyAt (w2.heap.size) W3 V := by rw [← hV]; exact (((OnlyAt.refl _ _).set _ _).set _ _)
      have x0 : W3.cell? ⟨w2.heap.size, 0, none⟩ = some (.int .i64 0) := cell_of_cells hX3 0
      have x1 : W3.cell? ⟨w2.heap.size, 1, none⟩ = some (.string ⟨#[]⟩) := cell_of_cells hX3 1
      have f0 : W3.frozen? ⟨w2.heap.size, 0, none⟩ = false := frozen_of_cells hX3 0
      have f1 : W3.frozen? ⟨w2.heap.size, 1, none⟩ = false := frozen_of_cells hX3 1
      have y0 : V.cell? ⟨w2.heap.size, 0, none⟩ = some (.int .i64 b) := cell_of_cells hXV 0
      have y1 : V.cell? ⟨w2.heap.size, 1, none⟩ = some (.string s3) := cell_of_cells hXV 1
      have hBV : Below w.heap.size w V := by rw [← hV]; exact ((hBw2.setCell (p := ⟨w2.heap.size, 0, none⟩) hbox _).setCell (p := ⟨w2.heap.size, 1, none⟩) hbox _)
      have HE : Hid (BdAt V (.iface 187 (.agg #[.int .i64 b, .string s3])) (Bd.reg b (hlMax r r2)) ∧ Below w.heap.size w V) := ⟨BdAt.apart hbd hX3 (fun i u h => by rcases i with _ | _ | i <;> simp at h) hOV, hBV⟩
      have HT := Lib.hid (told_ok (.iface 187 (.agg #[.int .i64 b, .string s3])) V)
      clear hXV hOV hBV hX3 hbd
      have HW3 := Lib.hid hW3
      clear hb2 hb23 hBw2 hbx hbox hB3 hs3 hW3
      refine hK _ _ ?_
      clear hK K
      refine wpAny_take (i := 6) (v := ?_) rfl (by kernel_rfl) (by kernel_rfl) (by kernel_rfl) (fun _ _ _ h => h) (Or.inl ⟨by rfl, ?_⟩) ?_
      rotate_left
      · intro w; go_simp; with_reducible rfl
      refine wpAny_take (i := 7) (v := ?_) rfl (by kernel_rfl) (by kernel_rfl) (by kernel_rfl) (fun _ _ _ h => h) (Or.inl ⟨by rfl, ?_⟩) ?_
      rotate_left
      · intro w; go_simp; with_reducible rfl
      refine wpAny_take (i := 8) (v := ?_) rfl (by kernel_rfl) (by kernel_rfl) (by kernel_rfl) (fun _ _ _ h => h) (Or.inl ⟨by rfl, ?_⟩) ?_
      rotate_left
      · intro w; go_simp; with_reducible rfl
      refine wpAny_ready (rs := [9]) (by kernel_rfl) (by simp) ?_
      refine AllReady.cons rfl (fun K hK => ?_) ?_
      · go_simp
        rw [HW3.out]
        refine hK _ _ ?_
        clear hK K
        refine wpAny_ready (rs := [10]) (by kernel_rfl) (by simp) ?_
        refine AllReady.cons rfl (fun K hK => ?_) ?_
        · go_simp
          refine hK _ _ ?_
          clear hK K
          refine wpAny_take (i := 11) (v := ?_) rfl (by kernel_rfl) (by kernel_rfl) (by kernel_rfl) (fun _ _ _ h => h) (Or.inl ⟨by rfl, ?_⟩) ?_
          rotate_left
          · intro w; go_simp; with_reducible rfl
          refine wpAny_done (by kernel_rfl) ?_ _
          go_wp2_with fail
          refine HT.out.mono ?_
          rintro e w3 ⟨rfl, rfl⟩
          go_wp2_with fail
          rw [← HP.out]
          exact ⟨HE.out.2, _, rfl, HE.out.1⟩
        exact AllReady.nil
      exact AllReady.nil
    refine AllReady.cons rfl (fun K hK => ?_) ?_
    · go_simp
      rw [HW1.out]
      refine hK _ _ ?_
      clear hK K
      refine wpAny_ready (rs := [5]) (by kernel_rfl) (by simp) ?_
      refine AllReady.cons rfl (fun K hK => ?_) ?_
      · go_simp
        refine HA1.out.mono ?_
        rintro e w2 ⟨s3, rfl, hbd, hb2⟩
        have hX2 := known hb2 (Nat.le_refl _) HX1.out
        have hb12 := HB1.out.trans (hb2.mono HB1.out.size)
        have hbox : w.heap.size ≤ w.heap.size + 1 := Nat.le_succ _
        have hBw2 := HB0.out.trans (hb12.mono HB0.out.size)
        obtain ⟨V, hV⟩ : ∃ V, ((w2.setCell ⟨w.heap.size + 1, 0, none⟩ (.int .i64 b)).setCell ⟨w.heap.size + 1, 1, none⟩ (.string s3)) = V := ⟨_, rfl⟩
        have hXV : V.heap[w.heap.size + 1]? = some (.cells #[.int .i64 b, .string s3] 29 (0, 0)) := by rw [← hV]; exact (heap_set_known (heap_set_known hX2 (.int .i64 b)) (.string s3))
        have hOV : OnlyAt (w.heap.size + 1) w2 V := by rw [← hV]; exact (((OnlyAt.refl _ _).set _ _).set _ _)
        have x0 : w2.cell? ⟨w.heap.size + 1, 0, none⟩ = some (.int .i64 0) := cell_of_cells hX2 0
        have x1 : w2.cell? ⟨w.heap.size + 1, 1, none⟩ = some (.string ⟨#[]⟩) := cell_of_cells hX2 1
        have f0 : w2.frozen? ⟨w.heap.size + 1, 0, none⟩ = false := frozen_of_cells hX2 0
        have f1 : w2.frozen? ⟨w.heap.size + 1, 1, none⟩ = false := frozen_of_cells hX2 1
        have y0 : V.cell? ⟨w.heap.size + 1, 0, none⟩ = some (.int .i64 b) := cell_of_cells hXV 0
        have y1 : V.cell? ⟨w.heap.size + 1, 1, none⟩ = some (.string s3) := cell_of_cells hXV 1
        have hBV : Below w.heap.size w V := by rw [← hV]; exact ((hBw2.setCell (p := ⟨w.heap.size + 1, 0, none⟩) hbox _).setCell (p := ⟨w.heap.size + 1, 1, none⟩) hbox _)
        have HE : Hid (BdAt V (.iface 187 (.agg #[.int .i64 b, .string s3])) (Bd.reg b (hlMax r r2)) ∧ Below w.heap.size w V) := ⟨BdAt.apart hbd hX2 (fun i u h => by rcases i with _ | _ | i <;> simp at h) hOV, hBV⟩
        have HT := Lib.hid (told_ok (.iface 187 (.agg #[.int .i64 b, .string s3])) V)
        clear hXV hOV hBV hX2 hbd
        clear hb2 hb12 hBw2 hbox
        refine hK _ _ ?_
        clear hK K
        refine wpAny_take (i := 6) (v := ?_) rfl (by kernel_rfl) (by kernel_rfl) (by kernel_rfl) (fun _ _ _ h => h) (Or.inl ⟨by rfl, ?_⟩) ?_
        rotate_left
        · intro w; go_simp; with_reducible rfl
        refine wpAny_take (i := 7) (v := ?_) rfl (by kernel_rfl) (by kernel_rfl) (by kernel_rfl) (fun _ _ _ h => h) (Or.inl ⟨by rfl, ?_⟩) ?_
        rotate_left
        · intro w; go_simp; with_reducible rfl
        refine wpAny_take (i := 8) (v := ?_) rfl (by kernel_rfl) (by kernel_rfl) (by kernel_rfl) (fun _ _ _ h => h) (Or.inl ⟨by rfl, ?_⟩) ?_
        rotate_left
        · intro w; go_simp; with_reducible rfl
        refine wpAny_ready (rs := [10]) (by kernel_rfl) (by simp) ?_
        refine AllReady.cons rfl (fun K hK => ?_) ?_
        · go_simp
          refine hK _ _ ?_
          clear hK K
          refine wpAny_take (i := 11) (v := ?_) rfl (by kernel_rfl) (by kernel_rfl) (by kernel_rfl) (fun _ _ _ h => h) (Or.inl ⟨by rfl, ?_⟩) ?_
          rotate_left
          · intro w; go_simp; with_reducible rfl
          refine wpAny_done (by kernel_rfl) ?_ _
          go_wp2_with fail
          refine HT.out.mono ?_
          rintro e w3 ⟨rfl, rfl⟩
          go_wp2_with fail
          rw [← HP.out]
          exact ⟨HE.out.2, _, rfl, HE.out.1⟩
        exact AllReady.nil
      exact AllReady.nil
    exact AllReady.nil
  refine AllReady.cons rfl (fun K hK => ?_) ?_
  · go_simp
    rw [HW1.out]
    refine hK _ _ ?_
    clear hK K
    refine wpAny_ready (rs := [1]) (by kernel_rfl) (by simp) ?_
    refine AllReady.cons rfl (fun K hK => ?_) ?_
    · go_simp
      refine hK _ _ ?_
      clear hK K
      refine wpAny_ready (rs := [5]) (by kernel_rfl) (by simp) ?_
      refine AllReady.cons rfl (fun K hK => ?_) ?_
      · go_simp
        refine HA1.out.mono ?_
        rintro e w2 ⟨s3, rfl, hbd, hb2⟩
        have hX2 := known hb2 (Nat.le_refl _) HX1.out
        have hb12 := HB1.out.trans (hb2.mono HB1.out.size)
        have hbox : w.heap.size ≤ w.heap.size + 1 := Nat.le_succ _
        have hBw2 := HB0.out.trans (hb12.mono HB0.out.size)
        obtain ⟨V, hV⟩ : ∃ V, ((w2.setCell ⟨w.heap.size + 1, 0, none⟩ (.int .i64 b)).setCell ⟨w.heap.size + 1, 1, none⟩ (.string s3)) = V := ⟨_, rfl⟩
        have hXV : V.heap[w.heap.size + 1]? = some (.cells #[.int .i64 b, .string s3] 29 (0, 0)) := by rw [← hV]; exact (heap_set_known (heap_set_known hX2 (.int .i64 b)) (.string s3))
        have hOV : OnlyAt (w.heap.size + 1) w2 V := by rw [← hV]; exact (((OnlyAt.refl _ _).set _ _).set _ _)
        have x0 : w2.cell? ⟨w.heap.size + 1, 0, none⟩ = some (.int .i64 0) := cell_of_cells hX2 0
        have x1 : w2.cell? ⟨w.heap.size + 1, 1, none⟩ = some (.string ⟨#[]⟩) := cell_of_cells hX2 1
        have f0 : w2.frozen? ⟨w.heap.size + 1, 0, none⟩ = false := frozen_of_cells hX2 0
        have f1 : w2.frozen? ⟨w.heap.size + 1, 1, none⟩ = false := frozen_of_cells hX2 1
        have y0 : V.cell? ⟨w.heap.size + 1, 0, none⟩ = some (.int .i64 b) := cell_of_cells hXV 0
        have y1 : V.cell? ⟨w.heap.size + 1, 1, none⟩ = some (.string s3) := cell_of_cells hXV 1
        have hBV : Below w.heap.size w V := by rw [← hV]; exact ((hBw2.setCell (p := ⟨w.heap.size + 1, 0, none⟩) hbox _).setCell (p := ⟨w.heap.size + 1, 1, none⟩) hbox _)
        have HE : Hid (BdAt V (.iface 187 (.agg #[.int .i64 b, .string s3])) (Bd.reg b (hlMax r r2)) ∧ Below w.heap.size w V) := ⟨BdAt.apart hbd hX2 (fun i u h => by rcases i with _ | _ | i <;> simp at h) hOV, hBV⟩
        have HT := Lib.hid (told_ok (.iface 187 (.agg #[.int .i64 b, .string s3])) V)
        clear hXV hOV hBV hX2 hbd
        clear hb2 hb12 hBw2 hbox
        refine hK _ _ ?_
        clear hK K
        refine wpAny_take (i := 6) (v := ?_) rfl (by kernel_rfl) (by kernel_rfl) (by kernel_rfl) (fun _ _ _ h => h) (Or.inl ⟨by rfl, ?_⟩) ?_
        rotate_left
        · intro w; go_simp; with_reducible rfl
        refine wpAny_take (i := 7) (v := ?_) rfl (by kernel_rfl) (by kernel_rfl) (by kernel_rfl) (fun _ _ _ h => h) (Or.inl ⟨by rfl, ?_⟩) ?_
        rotate_left
        · intro w; go_simp; with_reducible rfl
        refine wpAny_take (i := 8) (v := ?_) rfl (by kernel_rfl) (by kernel_rfl) (by kernel_rfl) (fun _ _ _ h => h) (Or.inl ⟨by rfl, ?_⟩) ?_
        rotate_left
        · intro w; go_simp; with_reducible rfl
        refine wpAny_ready (rs := [10]) (by kernel_rfl) (by simp) ?_
        refine AllReady.cons rfl (fun K hK => ?_) ?_
        · go_simp
          refine hK _ _ ?_
          clear hK K
          refine wpAny_take (i := 11) (v := ?_) rfl (by kernel_rfl) (by kernel_rfl) (by kernel_rfl) (fun _ _ _ h => h) (Or.inl ⟨by rfl, ?_⟩) ?_
          rotate_left
          · intro w; go_simp; with_reducible rfl
          refine wpAny_done (by kernel_rfl) ?_ _
          go_wp2_with fail
          refine HT.out.mono ?_
          rintro e w3 ⟨rfl, rfl⟩
          go_wp2_with fail
          rw [← HP.out]
          exact ⟨HE.out.2, _, rfl, HE.out.1⟩
        exact AllReady.nil
      exact AllReady.nil
    exact AllReady.nil
  exact AllReady.nil
set_option maxRecDepth 100000 in
set_option maxHeartbeats 2000000 in
theorem mrg_cnt (c : Nat) (l m : List Int) (a : Option Addr) (len cap : Nat) (a2 : Option Addr) (len2 cap2 : Nat) (w : World) (hc : c = 4 ∨ c = 8 ∨ c = 16 ∨ c = 32) (hS : SlC encU 1 w.heap.size w a len cap l) (hl : l.length = c + c) (hlu : U64s l) (hM : SlC encU 1 w.heap.size w a2 len2 cap2 m) (hm : m.length = c + c) (hmu : U64s m) :
    Calls Tryz.prog 209 #[.agg #[.int .i64 2, .int .i64 c, .slice a len cap], .iface 188 (.agg #[.int .i64 2, .int .i64 c, .slice a2 len2 cap2])] w (BodyPost (some (Bd.cnt c (cmMrg l m))) w) := by
  obtain ⟨W0, hW0, hXb, hB0, hs0⟩ := boxes1 w #[.int .i64 2, .int .i64 c, .slice a len cap] 188
  have hXd : W0.drew.heap[w.heap.size]? = some (.cells #[.int .i64 2, .int .i64 c, .slice a len cap] 188 (0, 0)) := hXb
  have c0 : W0.drew.cell? ⟨w.heap.size, 0, none⟩ = some (.int .i64 2) := cell_of_cells hXd 0
  have c1 : W0.drew.cell? ⟨w.heap.size, 1, none⟩ = some (.int .i64 c) := cell_of_cells hXd 1
  have c2 : W0.drew.cell? ⟨w.heap.size, 2, none⟩ = some (.slice a len cap) := cell_of_cells hXd 2
  have HA : Hid (∀ W, Below W0.heap.size W0 W → Calls Tryz.prog 213 #[.agg #[.int .i64 2, .int .i64 c, .slice a len cap], .agg #[.int .i64 2, .int .i64 c, .slice a2 len2 cap2]] W fun e w' => ∃ g, e = .returned (.tuple #[.agg #[.int .i64 2, .int .i64 c, .slice (some ⟨g, 0, none⟩) (2 * c) (2 * c)], .int .i64 0]) ∧ BdAt w' (.iface 188 (.agg #[.int .i64 2, .int .i64 c, .slice (some ⟨g, 0, none⟩) (2 * c) (2 * c)])) (Bd.cnt c (cmMrg l m)) ∧ Below W.heap.size W w') := by
    intro W hB
    have h := cMerge_any c l m a len cap a2 len2 cap2 W (shape_any c hc) (by omega) ((hS.1.below (hB0.trans (hB.mono hB0.size))).mono (hB0.trans (hB.mono hB0.size)).size) (by omega) hlu (fun e => by have := hS.2.2.2.1 e; have := hS.2.1; omega) ((hM.1.below (hB0.trans (hB.mono hB0.size))).mono (hB0.trans (hB.mono hB0.size)).size) (by omega) hmu
    exact h.mono fun e w' ⟨g, e1, hN, _, hb⟩ => ⟨g, e1, ⟨_, _, _, rfl, nums_slC hN (by rw [cmMrg_len]; omega) (by unfold maxLen; omega)⟩, hb⟩
  have hTA : ∀ w, (Instr.typeAssert (.iface 188 (.agg #[.int .i64 2, .int .i64 c, .slice a2 len2 cap2])) 66 188 false).run Tryz.prog w = .ok (.agg #[.int .i64 2, .int .i64 c, .slice a2 len2 cap2]) w := fun w => by kernel_rfl
  have hFl : ∀ w, (Instr.field 188 (.agg #[.int .i64 2, .int .i64 c, .slice a2 len2 cap2]) 0).run Tryz.prog w = .ok (.agg #[.int .i64 2, .int .i64 c, .slice a2 len2 cap2]) w := fun w => by kernel_rfl
  obtain ⟨Wa, hWa, hXa, hBa, hsa⟩ := boxes1 W0 #[.int .i64 0, .int .i64 0, .slice none 0 0] 31
  obtain ⟨W1, hW1, hX1, hB1⟩ : ∃ W1, (W0.alloc (.cells #[.int .i64 0, .int .i64 0, .slice none 0 0] 31)).drew = W1 ∧ W1.heap[W0.heap.size]? = some (.cells #[.int .i64 0, .int .i64 0, .slice none 0 0] 31 (0, 0)) ∧ Below W0.heap.size W0 W1 := ⟨_, rfl, by rw [hWa]; exact hXa, by rw [hWa]; exact hBa.drew⟩
  have hX1b : W1.heap[w.heap.size]? = some (.cells #[.int .i64 2, .int .i64 c, .slice a len cap] 188 (0, 0)) := known hB1 (Nat.le_refl _) hXb
  rw [hs0] at hX1
  have k0 : W1.cell? ⟨w.heap.size, 0, none⟩ = some (.int .i64 2) := cell_of_cells hX1b 0
  have k1 : W1.cell? ⟨w.heap.size, 1, none⟩ = some (.int .i64 c) := cell_of_cells hX1b 1
  have k2 : W1.cell? ⟨w.heap.size, 2, none⟩ = some (.slice a len cap) := cell_of_cells hX1b 2
  have HW1 := Lib.hid hW1
  have HX1 := Lib.hid hX1
  have HB0 := Lib.hid hB0
  have HB1 := Lib.hid hB1
  have HA1 := Lib.hid (HA.out W1 HB1.out)
  have HA0 := Lib.hid (HA.out W0.drew (Below.refl _ W0).drew)
  have hs0' : w.heap.size + 1 ≤ W0.heap.size := by omega
  obtain ⟨P, hP⟩ : ∃ P, BodyPost (some (Bd.cnt c (cmMrg l m))) w = P := ⟨_, rfl⟩
  have HP := Lib.hid hP
  rw [hP]
  clear hP HA hXb hB0 hXd hW1 hX1 hX1b hB1 hWa hXa hBa hsa hc hS hl hlu hM hm hmu
  go_enter Tryz.func209, Tryz.ntmps209
  go_wp2_with fail
  refine wp_region_any (by kernel_rfl) ?_
  change wpAny _ _ _ _ _ _ _ (World.drew _)
  refine wpAny_take (i := 0) (v := ?_) rfl (by kernel_rfl) (by kernel_rfl) (by kernel_rfl) (fun _ _ _ h => h) (Or.inl ⟨by rfl, ?_⟩) ?_
  rotate_left
  · intro w; go_simp; with_reducible rfl
  refine wpAny_take (i := 2) (v := ?_) rfl (by kernel_rfl) (by kernel_rfl) (by kernel_rfl) (fun _ _ _ h => h) (Or.inl ⟨by rfl, ?_⟩) ?_
  rotate_left
  · intro w; go_simp; with_reducible rfl
  refine wpAny_take (i := 3) (v := ?_) rfl (by kernel_rfl) (by kernel_rfl) (by kernel_rfl) (fun _ _ _ h => h) (Or.inl ⟨by rfl, ?_⟩) ?_
  rotate_left
  · intro w; go_simp; with_reducible rfl
  refine wpAny_take (i := 4) (v := ?_) rfl (by kernel_rfl) (by kernel_rfl) (by kernel_rfl) (fun _ _ _ h => h) (Or.inl ⟨by rfl, ?_⟩) ?_
  rotate_left
  · intro w; go_simp; with_reducible rfl
  refine wpAny_ready (rs := [1, 9]) (by kernel_rfl) (by simp) ?_
  refine AllReady.cons rfl (fun K hK => ?_) ?_
  · go_simp
    refine hK _ _ ?_
    clear hK K
    refine wpAny_ready (rs := [5, 9]) (by kernel_rfl) (by simp) ?_
    refine AllReady.cons rfl (fun K hK => ?_) ?_
    · go_simp
      refine HA0.out.mono ?_
      rintro e w2 ⟨g, rfl, hbd, hb2⟩
      obtain ⟨W3, hW3, hX3, hB3, hs3⟩ := boxes1 w2 #[.int .i64 0, .int .i64 0, .slice none 0 0] 31
      have hb23 := hb2.trans (hB3.mono hb2.size)
      have hbx : W0.heap.size ≤ w2.heap.size := hb2.size
      have hBw2 : Below w.heap.size w W3 := HB0.out.trans (((Below.refl _ W0).drew.trans hb23).mono HB0.out.size)
      have hbox : w.heap.size ≤ w2.heap.size := by omega
      replace hbd := hbd.go hB3
      obtain ⟨V, hV⟩ : ∃ V, (((W3.setCell ⟨w2.heap.size, 0, none⟩ (.int .i64 2)).setCell ⟨w2.heap.size, 1, none⟩ (.int .i64 c)).setCell ⟨w2.heap.size, 2, none⟩ (.slice (some ⟨g, 0, none⟩) (2 * c) (2 * c))) = V := ⟨_, rfl⟩
      have hXV : V.heap[w2.heap.size]? = some (.cells #[.int .i64 2, .int .i64 c, .slice (some ⟨g, 0, none⟩) (2 * c) (2 * c)] 31 (0, 0)) := by rw [← hV]; exact (heap_set_known (heap_set_known (heap_set_known hX3 (.int .i64 2)) (.int .i64 c)) (.slice (some ⟨g, 0, none⟩) (2 * c) (2 * c)))
      have hOV : OnlyAt (w2.heap.size) W3 V := by rw [← hV]; exact ((((OnlyAt.refl _ _).set _ _).set _ _).set _ _)
      have x0 : W3.cell? ⟨w2.heap.size, 0, none⟩ = some (.int .i64 0) := cell_of_cells hX3 0
      have x1 : W3.cell? ⟨w2.heap.size, 1, none⟩ = some (.int .i64 0) := cell_of_cells hX3 1
      have x2 : W3.cell? ⟨w2.heap.size, 2, none⟩ = some (.slice none 0 0) := cell_of_cells hX3 2
      have f0 : W3.frozen? ⟨w2.heap.size, 0, none⟩ = false := frozen_of_cells hX3 0
      have f1 : W3.frozen? ⟨w2.heap.size, 1, none⟩ = false := frozen_of_cells hX3 1
      have f2 : W3.frozen? ⟨w2.heap.size, 2, none⟩ = false := frozen_of_cells hX3 2
      have y0 : V.cell? ⟨w2.heap.size, 0, none⟩ = some (.int .i64 2) := cell_of_cells hXV 0
      have y1 : V.cell? ⟨w2.heap.size, 1, none⟩ = some (.int .i64 c) := cell_of_cells hXV 1
      have y2 : V.cell? ⟨w2.heap.size, 2, none⟩ = some (.slice (some ⟨g, 0, none⟩) (2 * c) (2 * c)) := cell_of_cells hXV 2
      have hBV : Below w.heap.size w V := by rw [← hV]; exact (((hBw2.setCell (p := ⟨w2.heap.size, 0, none⟩) hbox _).setCell (p := ⟨w2.heap.size, 1, none⟩) hbox _).setCell (p := ⟨w2.heap.size, 2, none⟩) hbox _)
      have HE : Hid (BdAt V (.iface 188 (.agg #[.int .i64 2, .int .i64 c, .slice (some ⟨g, 0, none⟩) (2 * c) (2 * c)])) (Bd.cnt c (cmMrg l m)) ∧ Below w.heap.size w V) := ⟨BdAt.apart hbd hX3 (fun i u h => by rcases i with _ | _ | _ | i <;> simp at h) hOV, hBV⟩
      have HT := Lib.hid (told_ok (.iface 188 (.agg #[.int .i64 2, .int .i64 c, .slice (some ⟨g, 0, none⟩) (2 * c) (2 * c)])) V)
      clear hXV hOV hBV hX3 hbd
      have HW3 := Lib.hid hW3
      clear hb2 hb23 hBw2 hbx hbox hB3 hs3 hW3
      refine hK _ _ ?_
      clear hK K
      refine wpAny_take (i := 6) (v := ?_) rfl (by kernel_rfl) (by kernel_rfl) (by kernel_rfl) (fun _ _ _ h => h) (Or.inl ⟨by rfl, ?_⟩) ?_
      rotate_left
      · intro w; go_simp; with_reducible rfl
      refine wpAny_take (i := 7) (v := ?_) rfl (by kernel_rfl) (by kernel_rfl) (by kernel_rfl) (fun _ _ _ h => h) (Or.inl ⟨by rfl, ?_⟩) ?_
      rotate_left
      · intro w; go_simp; with_reducible rfl
      refine wpAny_take (i := 8) (v := ?_) rfl (by kernel_rfl) (by kernel_rfl) (by kernel_rfl) (fun _ _ _ h => h) (Or.inl ⟨by rfl, ?_⟩) ?_
      rotate_left
      · intro w; go_simp; with_reducible rfl
      refine wpAny_ready (rs := [9]) (by kernel_rfl) (by simp) ?_
      refine AllReady.cons rfl (fun K hK => ?_) ?_
      · go_simp
        rw [HW3.out]
        refine hK _ _ ?_
        clear hK K
        refine wpAny_ready (rs := [10]) (by kernel_rfl) (by simp) ?_
        refine AllReady.cons rfl (fun K hK => ?_) ?_
        · go_simp
          refine hK _ _ ?_
          clear hK K
          refine wpAny_take (i := 11) (v := ?_) rfl (by kernel_rfl) (by kernel_rfl) (by kernel_rfl) (fun _ _ _ h => h) (Or.inl ⟨by rfl, ?_⟩) ?_
          rotate_left
          · intro w; go_simp; with_reducible rfl
          refine wpAny_done (by kernel_rfl) ?_ _
          go_wp2_with fail
          refine HT.out.mono ?_
          rintro e w3 ⟨rfl, rfl⟩
          go_wp2_with fail
          rw [← HP.out]
          exact ⟨HE.out.2, _, rfl, HE.out.1⟩
        exact AllReady.nil
      exact AllReady.nil
    refine AllReady.cons rfl (fun K hK => ?_) ?_
    · go_simp
      rw [HW1.out]
      refine hK _ _ ?_
      clear hK K
      refine wpAny_ready (rs := [5]) (by kernel_rfl) (by simp) ?_
      refine AllReady.cons rfl (fun K hK => ?_) ?_
      · go_simp
        refine HA1.out.mono ?_
        rintro e w2 ⟨g, rfl, hbd, hb2⟩
        have hX2 := known hb2 (Nat.le_refl _) HX1.out
        have hb12 := HB1.out.trans (hb2.mono HB1.out.size)
        have hbox : w.heap.size ≤ w.heap.size + 1 := Nat.le_succ _
        have hBw2 := HB0.out.trans (hb12.mono HB0.out.size)
        obtain ⟨V, hV⟩ : ∃ V, (((w2.setCell ⟨w.heap.size + 1, 0, none⟩ (.int .i64 2)).setCell ⟨w.heap.size + 1, 1, none⟩ (.int .i64 c)).setCell ⟨w.heap.size + 1, 2, none⟩ (.slice (some ⟨g, 0, none⟩) (2 * c) (2 * c))) = V := ⟨_, rfl⟩
        have hXV : V.heap[w.heap.size + 1]? = some (.cells #[.int .i64 2, .int .i64 c, .slice (some ⟨g, 0, none⟩) (2 * c) (2 * c)] 31 (0, 0)) := by rw [← hV]; exact (heap_set_known (heap_set_known (heap_set_known hX2 (.int .i64 2)) (.int .i64 c)) (.slice (some ⟨g, 0, none⟩) (2 * c) (2 * c)))
        have hOV : OnlyAt (w.heap.size + 1) w2 V := by rw [← hV]; exact ((((OnlyAt.refl _ _).set _ _).set _ _).set _ _)
        have x0 : w2.cell? ⟨w.heap.size + 1, 0, none⟩ = some (.int .i64 0) := cell_of_cells hX2 0
        have x1 : w2.cell? ⟨w.heap.size + 1, 1, none⟩ = some (.int .i64 0) := cell_of_cells hX2 1
        have x2 : w2.cell? ⟨w.heap.size + 1, 2, none⟩ = some (.slice none 0 0) := cell_of_cells hX2 2
        have f0 : w2.frozen? ⟨w.heap.size + 1, 0, none⟩ = false := frozen_of_cells hX2 0
        have f1 : w2.frozen? ⟨w.heap.size + 1, 1, none⟩ = false := frozen_of_cells hX2 1
        have f2 : w2.frozen? ⟨w.heap.size + 1, 2, none⟩ = false := frozen_of_cells hX2 2
        have y0 : V.cell? ⟨w.heap.size + 1, 0, none⟩ = some (.int .i64 2) := cell_of_cells hXV 0
        have y1 : V.cell? ⟨w.heap.size + 1, 1, none⟩ = some (.int .i64 c) := cell_of_cells hXV 1
        have y2 : V.cell? ⟨w.heap.size + 1, 2, none⟩ = some (.slice (some ⟨g, 0, none⟩) (2 * c) (2 * c)) := cell_of_cells hXV 2
        have hBV : Below w.heap.size w V := by rw [← hV]; exact (((hBw2.setCell (p := ⟨w.heap.size + 1, 0, none⟩) hbox _).setCell (p := ⟨w.heap.size + 1, 1, none⟩) hbox _).setCell (p := ⟨w.heap.size + 1, 2, none⟩) hbox _)
        have HE : Hid (BdAt V (.iface 188 (.agg #[.int .i64 2, .int .i64 c, .slice (some ⟨g, 0, none⟩) (2 * c) (2 * c)])) (Bd.cnt c (cmMrg l m)) ∧ Below w.heap.size w V) := ⟨BdAt.apart hbd hX2 (fun i u h => by rcases i with _ | _ | _ | i <;> simp at h) hOV, hBV⟩
        have HT := Lib.hid (told_ok (.iface 188 (.agg #[.int .i64 2, .int .i64 c, .slice (some ⟨g, 0, none⟩) (2 * c) (2 * c)])) V)
        clear hXV hOV hBV hX2 hbd
        clear hb2 hb12 hBw2 hbox
        refine hK _ _ ?_
        clear hK K
        refine wpAny_take (i := 6) (v := ?_) rfl (by kernel_rfl) (by kernel_rfl) (by kernel_rfl) (fun _ _ _ h => h) (Or.inl ⟨by rfl, ?_⟩) ?_
        rotate_left
        · intro w; go_simp; with_reducible rfl
        refine wpAny_take (i := 7) (v := ?_) rfl (by kernel_rfl) (by kernel_rfl) (by kernel_rfl) (fun _ _ _ h => h) (Or.inl ⟨by rfl, ?_⟩) ?_
        rotate_left
        · intro w; go_simp; with_reducible rfl
        refine wpAny_take (i := 8) (v := ?_) rfl (by kernel_rfl) (by kernel_rfl) (by kernel_rfl) (fun _ _ _ h => h) (Or.inl ⟨by rfl, ?_⟩) ?_
        rotate_left
        · intro w; go_simp; with_reducible rfl
        refine wpAny_ready (rs := [10]) (by kernel_rfl) (by simp) ?_
        refine AllReady.cons rfl (fun K hK => ?_) ?_
        · go_simp
          refine hK _ _ ?_
          clear hK K
          refine wpAny_take (i := 11) (v := ?_) rfl (by kernel_rfl) (by kernel_rfl) (by kernel_rfl) (fun _ _ _ h => h) (Or.inl ⟨by rfl, ?_⟩) ?_
          rotate_left
          · intro w; go_simp; with_reducible rfl
          refine wpAny_done (by kernel_rfl) ?_ _
          go_wp2_with fail
          refine HT.out.mono ?_
          rintro e w3 ⟨rfl, rfl⟩
          go_wp2_with fail
          rw [← HP.out]
          exact ⟨HE.out.2, _, rfl, HE.out.1⟩
        exact AllReady.nil
      exact AllReady.nil
    exact AllReady.nil
  refine AllReady.cons rfl (fun K hK => ?_) ?_
  · go_simp
    rw [HW1.out]
    refine hK _ _ ?_
    clear hK K
    refine wpAny_ready (rs := [1]) (by kernel_rfl) (by simp) ?_
    refine AllReady.cons rfl (fun K hK => ?_) ?_
    · go_simp
      refine hK _ _ ?_
      clear hK K
      refine wpAny_ready (rs := [5]) (by kernel_rfl) (by simp) ?_
      refine AllReady.cons rfl (fun K hK => ?_) ?_
      · go_simp
        refine HA1.out.mono ?_
        rintro e w2 ⟨g, rfl, hbd, hb2⟩
        have hX2 := known hb2 (Nat.le_refl _) HX1.out
        have hb12 := HB1.out.trans (hb2.mono HB1.out.size)
        have hbox : w.heap.size ≤ w.heap.size + 1 := Nat.le_succ _
        have hBw2 := HB0.out.trans (hb12.mono HB0.out.size)
        obtain ⟨V, hV⟩ : ∃ V, (((w2.setCell ⟨w.heap.size + 1, 0, none⟩ (.int .i64 2)).setCell ⟨w.heap.size + 1, 1, none⟩ (.int .i64 c)).setCell ⟨w.heap.size + 1, 2, none⟩ (.slice (some ⟨g, 0, none⟩) (2 * c) (2 * c))) = V := ⟨_, rfl⟩
        have hXV : V.heap[w.heap.size + 1]? = some (.cells #[.int .i64 2, .int .i64 c, .slice (some ⟨g, 0, none⟩) (2 * c) (2 * c)] 31 (0, 0)) := by rw [← hV]; exact (heap_set_known (heap_set_known (heap_set_known hX2 (.int .i64 2)) (.int .i64 c)) (.slice (some ⟨g, 0, none⟩) (2 * c) (2 * c)))
        have hOV : OnlyAt (w.heap.size + 1) w2 V := by rw [← hV]; exact ((((OnlyAt.refl _ _).set _ _).set _ _).set _ _)
        have x0 : w2.cell? ⟨w.heap.size + 1, 0, none⟩ = some (.int .i64 0) := cell_of_cells hX2 0
        have x1 : w2.cell? ⟨w.heap.size + 1, 1, none⟩ = some (.int .i64 0) := cell_of_cells hX2 1
        have x2 : w2.cell? ⟨w.heap.size + 1, 2, none⟩ = some (.slice none 0 0) := cell_of_cells hX2 2
        have f0 : w2.frozen? ⟨w.heap.size + 1, 0, none⟩ = false := frozen_of_cells hX2 0
        have f1 : w2.frozen? ⟨w.heap.size + 1, 1, none⟩ = false := frozen_of_cells hX2 1
        have f2 : w2.frozen? ⟨w.heap.size + 1, 2, none⟩ = false := frozen_of_cells hX2 2
        have y0 : V.cell? ⟨w.heap.size + 1, 0, none⟩ = some (.int .i64 2) := cell_of_cells hXV 0
        have y1 : V.cell? ⟨w.heap.size + 1, 1, none⟩ = some (.int .i64 c) := cell_of_cells hXV 1
        have y2 : V.cell? ⟨w.heap.size + 1, 2, none⟩ = some (.slice (some ⟨g, 0, none⟩) (2 * c) (2 * c)) := cell_of_cells hXV 2
        have hBV : Below w.heap.size w V := by rw [← hV]; exact (((hBw2.setCell (p := ⟨w.heap.size + 1, 0, none⟩) hbox _).setCell (p := ⟨w.heap.size + 1, 1, none⟩) hbox _).setCell (p := ⟨w.heap.size + 1, 2, none⟩) hbox _)
        have HE : Hid (BdAt V (.iface 188 (.agg #[.int .i64 2, .int .i64 c, .slice (some ⟨g, 0, none⟩) (2 * c) (2 * c)])) (Bd.cnt c (cmMrg l m)) ∧ Below w.heap.size w V) := ⟨BdAt.apart hbd hX2 (fun i u h => by rcases i with _ | _ | _ | i <;> simp at h) hOV, hBV⟩
        have HT := Lib.hid (told_ok (.iface 188 (.agg #[.int .i64 2, .int .i64 c, .slice (some ⟨g, 0, none⟩) (2 * c) (2 * c)])) V)
        clear hXV hOV hBV hX2 hbd
        clear hb2 hb12 hBw2 hbox
        refine hK _ _ ?_
        clear hK K
        refine wpAny_take (i := 6) (v := ?_) rfl (by kernel_rfl) (by kernel_rfl) (by kernel_rfl) (fun _ _ _ h => h) (Or.inl ⟨by rfl, ?_⟩) ?_
        rotate_left
        · intro w; go_simp; with_reducible rfl
        refine wpAny_take (i := 7) (v := ?_) rfl (by kernel_rfl) (by kernel_rfl) (by kernel_rfl) (fun _ _ _ h => h) (Or.inl ⟨by rfl, ?_⟩) ?_
        rotate_left
        · intro w; go_simp; with_reducible rfl
        refine wpAny_take (i := 8) (v := ?_) rfl (by kernel_rfl) (by kernel_rfl) (by kernel_rfl) (fun _ _ _ h => h) (Or.inl ⟨by rfl, ?_⟩) ?_
        rotate_left
        · intro w; go_simp; with_reducible rfl
        refine wpAny_ready (rs := [10]) (by kernel_rfl) (by simp) ?_
        refine AllReady.cons rfl (fun K hK => ?_) ?_
        · go_simp
          refine hK _ _ ?_
          clear hK K
          refine wpAny_take (i := 11) (v := ?_) rfl (by kernel_rfl) (by kernel_rfl) (by kernel_rfl) (fun _ _ _ h => h) (Or.inl ⟨by rfl, ?_⟩) ?_
          rotate_left
          · intro w; go_simp; with_reducible rfl
          refine wpAny_done (by kernel_rfl) ?_ _
          go_wp2_with fail
          refine HT.out.mono ?_
          rintro e w3 ⟨rfl, rfl⟩
          go_wp2_with fail
          rw [← HP.out]
          exact ⟨HE.out.2, _, rfl, HE.out.1⟩
        exact AllReady.nil
      exact AllReady.nil
    exact AllReady.nil
  exact AllReady.nil
set_option maxRecDepth 100000 in
set_option maxHeartbeats 2000000 in
theorem mrg_bkt (f : Nat) (l m : List (Int × Int)) (a : Option Addr) (len cap : Nat) (a2 : Option Addr) (len2 cap2 : Nat) (w : World) (hf : f ≤ 3) (hS : SlC encB 2 w.heap.size w a len cap l) (hr : hiRight f l = true) (hu : BinUp l) (hbu : BinsU l) (hlen : l.length ≤ 1000) (hp : ∀ b ∈ l, I64 b.1) (hM : SlC encB 2 w.heap.size w a2 len2 cap2 m) (hr2 : hiRight f m = true) (hmu : BinsU m) (hlen2 : m.length ≤ 1000) (hp2 : ∀ b ∈ m, I64 b.1) :
    Calls Tryz.prog 228 #[.agg #[.int .i64 f, .slice a len cap], .iface 190 (.agg #[.int .i64 f, .slice a2 len2 cap2])] w (BodyPost (some (Bd.bkt f (hiDone (hiPuts l m)))) w) := by
  obtain ⟨W0, hW0, hXb, hB0, hs0⟩ := boxes1 w #[.int .i64 f, .slice a len cap] 190
  have hXd : W0.drew.heap[w.heap.size]? = some (.cells #[.int .i64 f, .slice a len cap] 190 (0, 0)) := hXb
  have c0 : W0.drew.cell? ⟨w.heap.size, 0, none⟩ = some (.int .i64 f) := cell_of_cells hXd 0
  have c1 : W0.drew.cell? ⟨w.heap.size, 1, none⟩ = some (.slice a len cap) := cell_of_cells hXd 1
  have HA : Hid (∀ W, Below W0.heap.size W0 W → Calls Tryz.prog 232 #[.agg #[.int .i64 f, .slice a len cap], .agg #[.int .i64 f, .slice a2 len2 cap2]] W fun e w' => ∃ a' len' cap', e = .returned (.tuple #[.agg #[.int .i64 f, .slice a' len' cap'], .int .i64 0]) ∧ BdAt w' (.iface 190 (.agg #[.int .i64 f, .slice a' len' cap'])) (Bd.bkt f (hiDone (hiPuts l m))) ∧ Below W.heap.size W w') := by
    intro W hB
    have h := hiMerge_any f l m a len cap a2 len2 cap2 W hf ((hS.1.below (hB0.trans (hB.mono hB0.size))).mono (hB0.trans (hB.mono hB0.size)).size) hr hu hbu (by have := hS.1.1; omega) hp ((hM.1.below (hB0.trans (hB.mono hB0.size))).mono (hB0.trans (hB.mono hB0.size)).size) hr2 hmu (by have := hM.1.1; omega) hp2
    exact h.mono fun e w' ⟨a', len', cap', e1, hS1, hb⟩ => ⟨a', len', cap', e1, ⟨_, _, _, rfl, hS1⟩, hb⟩
  have hTA : ∀ w, (Instr.typeAssert (.iface 190 (.agg #[.int .i64 f, .slice a2 len2 cap2])) 66 190 false).run Tryz.prog w = .ok (.agg #[.int .i64 f, .slice a2 len2 cap2]) w := fun w => by kernel_rfl
  have hFl : ∀ w, (Instr.field 190 (.agg #[.int .i64 f, .slice a2 len2 cap2]) 0).run Tryz.prog w = .ok (.agg #[.int .i64 f, .slice a2 len2 cap2]) w := fun w => by kernel_rfl
  obtain ⟨Wa, hWa, hXa, hBa, hsa⟩ := boxes1 W0 #[.int .i64 0, .slice none 0 0] 34
  obtain ⟨W1, hW1, hX1, hB1⟩ : ∃ W1, (W0.alloc (.cells #[.int .i64 0, .slice none 0 0] 34)).drew = W1 ∧ W1.heap[W0.heap.size]? = some (.cells #[.int .i64 0, .slice none 0 0] 34 (0, 0)) ∧ Below W0.heap.size W0 W1 := ⟨_, rfl, by rw [hWa]; exact hXa, by rw [hWa]; exact hBa.drew⟩
  have hX1b : W1.heap[w.heap.size]? = some (.cells #[.int .i64 f, .slice a len cap] 190 (0, 0)) := known hB1 (Nat.le_refl _) hXb
  rw [hs0] at hX1
  have k0 : W1.cell? ⟨w.heap.size, 0, none⟩ = some (.int .i64 f) := cell_of_cells hX1b 0
  have k1 : W1.cell? ⟨w.heap.size, 1, none⟩ = some (.slice a len cap) := cell_of_cells hX1b 1
  have HW1 := Lib.hid hW1
  have HX1 := Lib.hid hX1
  have HB0 := Lib.hid hB0
  have HB1 := Lib.hid hB1
  have HA1 := Lib.hid (HA.out W1 HB1.out)
  have HA0 := Lib.hid (HA.out W0.drew (Below.refl _ W0).drew)
  have hs0' : w.heap.size + 1 ≤ W0.heap.size := by omega
  obtain ⟨P, hP⟩ : ∃ P, BodyPost (some (Bd.bkt f (hiDone (hiPuts l m)))) w = P := ⟨_, rfl⟩
  have HP := Lib.hid hP
  rw [hP]
  clear hP HA hXb hB0 hXd hW1 hX1 hX1b hB1 hWa hXa hBa hsa hf hS hr hu hbu hlen hp hM hr2 hmu hlen2 hp2
  go_enter Tryz.func228, Tryz.ntmps228
  go_wp2_with fail
  refine wp_region_any (by kernel_rfl) ?_
  change wpAny _ _ _ _ _ _ _ (World.drew _)
  refine wpAny_take (i := 0) (v := ?_) rfl (by kernel_rfl) (by kernel_rfl) (by kernel_rfl) (fun _ _ _ h => h) (Or.inl ⟨by rfl, ?_⟩) ?_
  rotate_left
  · intro w; go_simp; with_reducible rfl
  refine wpAny_take (i := 2) (v := ?_) rfl (by kernel_rfl) (by kernel_rfl) (by kernel_rfl) (fun _ _ _ h => h) (Or.inl ⟨by rfl, ?_⟩) ?_
  rotate_left
  · intro w; go_simp; with_reducible rfl
  refine wpAny_take (i := 3) (v := ?_) rfl (by kernel_rfl) (by kernel_rfl) (by kernel_rfl) (fun _ _ _ h => h) (Or.inl ⟨by rfl, ?_⟩) ?_
  rotate_left
  · intro w; go_simp; with_reducible rfl
  refine wpAny_take (i := 4) (v := ?_) rfl (by kernel_rfl) (by kernel_rfl) (by kernel_rfl) (fun _ _ _ h => h) (Or.inl ⟨by rfl, ?_⟩) ?_
  rotate_left
  · intro w; go_simp; with_reducible rfl
  refine wpAny_ready (rs := [1, 9]) (by kernel_rfl) (by simp) ?_
  refine AllReady.cons rfl (fun K hK => ?_) ?_
  · go_simp
    refine hK _ _ ?_
    clear hK K
    refine wpAny_ready (rs := [5, 9]) (by kernel_rfl) (by simp) ?_
    refine AllReady.cons rfl (fun K hK => ?_) ?_
    · go_simp
      refine HA0.out.mono ?_
      rintro e w2 ⟨a', len', cap', rfl, hbd, hb2⟩
      obtain ⟨W3, hW3, hX3, hB3, hs3⟩ := boxes1 w2 #[.int .i64 0, .slice none 0 0] 34
      have hb23 := hb2.trans (hB3.mono hb2.size)
      have hbx : W0.heap.size ≤ w2.heap.size := hb2.size
      have hBw2 : Below w.heap.size w W3 := HB0.out.trans (((Below.refl _ W0).drew.trans hb23).mono HB0.out.size)
      have hbox : w.heap.size ≤ w2.heap.size := by omega
      replace hbd := hbd.go hB3
      obtain ⟨V, hV⟩ : ∃ V, ((W3.setCell ⟨w2.heap.size, 0, none⟩ (.int .i64 f)).setCell ⟨w2.heap.size, 1, none⟩ (.slice a' len' cap')) = V := ⟨_, rfl⟩
      have hXV : V.heap[w2.heap.size]? = some (.cells #[.int .i64 f, .slice a' len' cap'] 34 (0, 0)) := by rw [← hV]; exact (heap_set_known (heap_set_known hX3 (.int .i64 f)) (.slice a' len' cap'))
      have hOV : OnlyAt (w2.heap.size) W3 V := by rw [← hV]; exact (((OnlyAt.refl _ _).set _ _).set _ _)
      have x0 : W3.cell? ⟨w2.heap.size, 0, none⟩ = some (.int .i64 0) := cell_of_cells hX3 0
      have x1 : W3.cell? ⟨w2.heap.size, 1, none⟩ = some (.slice none 0 0) := cell_of_cells hX3 1
      have f0 : W3.frozen? ⟨w2.heap.size, 0, none⟩ = false := frozen_of_cells hX3 0
      have f1 : W3.frozen? ⟨w2.heap.size, 1, none⟩ = false := frozen_of_cells hX3 1
      have y0 : V.cell? ⟨w2.heap.size, 0, none⟩ = some (.int .i64 f) := cell_of_cells hXV 0
      have y1 : V.cell? ⟨w2.heap.size, 1, none⟩ = some (.slice a' len' cap') := cell_of_cells hXV 1
      have hBV : Below w.heap.size w V := by rw [← hV]; exact ((hBw2.setCell (p := ⟨w2.heap.size, 0, none⟩) hbox _).setCell (p := ⟨w2.heap.size, 1, none⟩) hbox _)
      have HE : Hid (BdAt V (.iface 190 (.agg #[.int .i64 f, .slice a' len' cap'])) (Bd.bkt f (hiDone (hiPuts l m))) ∧ Below w.heap.size w V) := ⟨BdAt.apart hbd hX3 (fun i u h => by rcases i with _ | _ | i <;> simp at h) hOV, hBV⟩
      have HT := Lib.hid (told_ok (.iface 190 (.agg #[.int .i64 f, .slice a' len' cap'])) V)
      clear hXV hOV hBV hX3 hbd
      have HW3 := Lib.hid hW3
      clear hb2 hb23 hBw2 hbx hbox hB3 hs3 hW3
      refine hK _ _ ?_
      clear hK K
      refine wpAny_take (i := 6) (v := ?_) rfl (by kernel_rfl) (by kernel_rfl) (by kernel_rfl) (fun _ _ _ h => h) (Or.inl ⟨by rfl, ?_⟩) ?_
      rotate_left
      · intro w; go_simp; with_reducible rfl
      refine wpAny_take (i := 7) (v := ?_) rfl (by kernel_rfl) (by kernel_rfl) (by kernel_rfl) (fun _ _ _ h => h) (Or.inl ⟨by rfl, ?_⟩) ?_
      rotate_left
      · intro w; go_simp; with_reducible rfl
      refine wpAny_take (i := 8) (v := ?_) rfl (by kernel_rfl) (by kernel_rfl) (by kernel_rfl) (fun _ _ _ h => h) (Or.inl ⟨by rfl, ?_⟩) ?_
      rotate_left
      · intro w; go_simp; with_reducible rfl
      refine wpAny_ready (rs := [9]) (by kernel_rfl) (by simp) ?_
      refine AllReady.cons rfl (fun K hK => ?_) ?_
      · go_simp
        rw [HW3.out]
        refine hK _ _ ?_
        clear hK K
        refine wpAny_ready (rs := [10]) (by kernel_rfl) (by simp) ?_
        refine AllReady.cons rfl (fun K hK => ?_) ?_
        · go_simp
          refine hK _ _ ?_
          clear hK K
          refine wpAny_take (i := 11) (v := ?_) rfl (by kernel_rfl) (by kernel_rfl) (by kernel_rfl) (fun _ _ _ h => h) (Or.inl ⟨by rfl, ?_⟩) ?_
          rotate_left
          · intro w; go_simp; with_reducible rfl
          refine wpAny_done (by kernel_rfl) ?_ _
          go_wp2_with fail
          refine HT.out.mono ?_
          rintro e w3 ⟨rfl, rfl⟩
          go_wp2_with fail
          rw [← HP.out]
          exact ⟨HE.out.2, _, rfl, HE.out.1⟩
        exact AllReady.nil
      exact AllReady.nil
    refine AllReady.cons rfl (fun K hK => ?_) ?_
    · go_simp
      rw [HW1.out]
      refine hK _ _ ?_
      clear hK K
      refine wpAny_ready (rs := [5]) (by kernel_rfl) (by simp) ?_
      refine AllReady.cons rfl (fun K hK => ?_) ?_
      · go_simp
        refine HA1.out.mono ?_
        rintro e w2 ⟨a', len', cap', rfl, hbd, hb2⟩
        have hX2 := known hb2 (Nat.le_refl _) HX1.out
        have hb12 := HB1.out.trans (hb2.mono HB1.out.size)
        have hbox : w.heap.size ≤ w.heap.size + 1 := Nat.le_succ _
        have hBw2 := HB0.out.trans (hb12.mono HB0.out.size)
        obtain ⟨V, hV⟩ : ∃ V, ((w2.setCell ⟨w.heap.size + 1, 0, none⟩ (.int .i64 f)).setCell ⟨w.heap.size + 1, 1, none⟩ (.slice a' len' cap')) = V := ⟨_, rfl⟩
        have hXV : V.heap[w.heap.size + 1]? = some (.cells #[.int .i64 f, .slice a' len' cap'] 34 (0, 0)) := by rw [← hV]; exact (heap_set_known (heap_set_known hX2 (.int .i64 f)) (.slice a' len' cap'))
        have hOV : OnlyAt (w.heap.size + 1) w2 V := by rw [← hV]; exact (((OnlyAt.refl _ _).set _ _).set _ _)
        have x0 : w2.cell? ⟨w.heap.size + 1, 0, none⟩ = some (.int .i64 0) := cell_of_cells hX2 0
        have x1 : w2.cell? ⟨w.heap.size + 1, 1, none⟩ = some (.slice none 0 0) := cell_of_cells hX2 1
        have f0 : w2.frozen? ⟨w.heap.size + 1, 0, none⟩ = false := frozen_of_cells hX2 0
        have f1 : w2.frozen? ⟨w.heap.size + 1, 1, none⟩ = false := frozen_of_cells hX2 1
        have y0 : V.cell? ⟨w.heap.size + 1, 0, none⟩ = some (.int .i64 f) := cell_of_cells hXV 0
        have y1 : V.cell? ⟨w.heap.size + 1, 1, none⟩ = some (.slice a' len' cap') := cell_of_cells hXV 1
        have hBV : Below w.heap.size w V := by rw [← hV]; exact ((hBw2.setCell (p := ⟨w.heap.size + 1, 0, none⟩) hbox _).setCell (p := ⟨w.heap.size + 1, 1, none⟩) hbox _)
        have HE : Hid (BdAt V (.iface 190 (.agg #[.int .i64 f, .slice a' len' cap'])) (Bd.bkt f (hiDone (hiPuts l m))) ∧ Below w.heap.size w V) := ⟨BdAt.apart hbd hX2 (fun i u h => by rcases i with _ | _ | i <;> simp at h) hOV, hBV⟩
        have HT := Lib.hid (told_ok (.iface 190 (.agg #[.int .i64 f, .slice a' len' cap'])) V)
        clear hXV hOV hBV hX2 hbd
        clear hb2 hb12 hBw2 hbox
        refine hK _ _ ?_
        clear hK K
        refine wpAny_take (i := 6) (v := ?_) rfl (by kernel_rfl) (by kernel_rfl) (by kernel_rfl) (fun _ _ _ h => h) (Or.inl ⟨by rfl, ?_⟩) ?_
        rotate_left
        · intro w; go_simp; with_reducible rfl
        refine wpAny_take (i := 7) (v := ?_) rfl (by kernel_rfl) (by kernel_rfl) (by kernel_rfl) (fun _ _ _ h => h) (Or.inl ⟨by rfl, ?_⟩) ?_
        rotate_left
        · intro w; go_simp; with_reducible rfl
        refine wpAny_take (i := 8) (v := ?_) rfl (by kernel_rfl) (by kernel_rfl) (by kernel_rfl) (fun _ _ _ h => h) (Or.inl ⟨by rfl, ?_⟩) ?_
        rotate_left
        · intro w; go_simp; with_reducible rfl
        refine wpAny_ready (rs := [10]) (by kernel_rfl) (by simp) ?_
        refine AllReady.cons rfl (fun K hK => ?_) ?_
        · go_simp
          refine hK _ _ ?_
          clear hK K
          refine wpAny_take (i := 11) (v := ?_) rfl (by kernel_rfl) (by kernel_rfl) (by kernel_rfl) (fun _ _ _ h => h) (Or.inl ⟨by rfl, ?_⟩) ?_
          rotate_left
          · intro w; go_simp; with_reducible rfl
          refine wpAny_done (by kernel_rfl) ?_ _
          go_wp2_with fail
          refine HT.out.mono ?_
          rintro e w3 ⟨rfl, rfl⟩
          go_wp2_with fail
          rw [← HP.out]
          exact ⟨HE.out.2, _, rfl, HE.out.1⟩
        exact AllReady.nil
      exact AllReady.nil
    exact AllReady.nil
  refine AllReady.cons rfl (fun K hK => ?_) ?_
  · go_simp
    rw [HW1.out]
    refine hK _ _ ?_
    clear hK K
    refine wpAny_ready (rs := [1]) (by kernel_rfl) (by simp) ?_
    refine AllReady.cons rfl (fun K hK => ?_) ?_
    · go_simp
      refine hK _ _ ?_
      clear hK K
      refine wpAny_ready (rs := [5]) (by kernel_rfl) (by simp) ?_
      refine AllReady.cons rfl (fun K hK => ?_) ?_
      · go_simp
        refine HA1.out.mono ?_
        rintro e w2 ⟨a', len', cap', rfl, hbd, hb2⟩
        have hX2 := known hb2 (Nat.le_refl _) HX1.out
        have hb12 := HB1.out.trans (hb2.mono HB1.out.size)
        have hbox : w.heap.size ≤ w.heap.size + 1 := Nat.le_succ _
        have hBw2 := HB0.out.trans (hb12.mono HB0.out.size)
        obtain ⟨V, hV⟩ : ∃ V, ((w2.setCell ⟨w.heap.size + 1, 0, none⟩ (.int .i64 f)).setCell ⟨w.heap.size + 1, 1, none⟩ (.slice a' len' cap')) = V := ⟨_, rfl⟩
        have hXV : V.heap[w.heap.size + 1]? = some (.cells #[.int .i64 f, .slice a' len' cap'] 34 (0, 0)) := by rw [← hV]; exact (heap_set_known (heap_set_known hX2 (.int .i64 f)) (.slice a' len' cap'))
        have hOV : OnlyAt (w.heap.size + 1) w2 V := by rw [← hV]; exact (((OnlyAt.refl _ _).set _ _).set _ _)
        have x0 : w2.cell? ⟨w.heap.size + 1, 0, none⟩ = some (.int .i64 0) := cell_of_cells hX2 0
        have x1 : w2.cell? ⟨w.heap.size + 1, 1, none⟩ = some (.slice none 0 0) := cell_of_cells hX2 1
        have f0 : w2.frozen? ⟨w.heap.size + 1, 0, none⟩ = false := frozen_of_cells hX2 0
        have f1 : w2.frozen? ⟨w.heap.size + 1, 1, none⟩ = false := frozen_of_cells hX2 1
        have y0 : V.cell? ⟨w.heap.size + 1, 0, none⟩ = some (.int .i64 f) := cell_of_cells hXV 0
        have y1 : V.cell? ⟨w.heap.size + 1, 1, none⟩ = some (.slice a' len' cap') := cell_of_cells hXV 1
        have hBV : Below w.heap.size w V := by rw [← hV]; exact ((hBw2.setCell (p := ⟨w.heap.size + 1, 0, none⟩) hbox _).setCell (p := ⟨w.heap.size + 1, 1, none⟩) hbox _)
        have HE : Hid (BdAt V (.iface 190 (.agg #[.int .i64 f, .slice a' len' cap'])) (Bd.bkt f (hiDone (hiPuts l m))) ∧ Below w.heap.size w V) := ⟨BdAt.apart hbd hX2 (fun i u h => by rcases i with _ | _ | i <;> simp at h) hOV, hBV⟩
        have HT := Lib.hid (told_ok (.iface 190 (.agg #[.int .i64 f, .slice a' len' cap'])) V)
        clear hXV hOV hBV hX2 hbd
        clear hb2 hb12 hBw2 hbox
        refine hK _ _ ?_
        clear hK K
        refine wpAny_take (i := 6) (v := ?_) rfl (by kernel_rfl) (by kernel_rfl) (by kernel_rfl) (fun _ _ _ h => h) (Or.inl ⟨by rfl, ?_⟩) ?_
        rotate_left
        · intro w; go_simp; with_reducible rfl
        refine wpAny_take (i := 7) (v := ?_) rfl (by kernel_rfl) (by kernel_rfl) (by kernel_rfl) (fun _ _ _ h => h) (Or.inl ⟨by rfl, ?_⟩) ?_
        rotate_left
        · intro w; go_simp; with_reducible rfl
        refine wpAny_take (i := 8) (v := ?_) rfl (by kernel_rfl) (by kernel_rfl) (by kernel_rfl) (fun _ _ _ h => h) (Or.inl ⟨by rfl, ?_⟩) ?_
        rotate_left
        · intro w; go_simp; with_reducible rfl
        refine wpAny_ready (rs := [10]) (by kernel_rfl) (by simp) ?_
        refine AllReady.cons rfl (fun K hK => ?_) ?_
        · go_simp
          refine hK _ _ ?_
          clear hK K
          refine wpAny_take (i := 11) (v := ?_) rfl (by kernel_rfl) (by kernel_rfl) (by kernel_rfl) (fun _ _ _ h => h) (Or.inl ⟨by rfl, ?_⟩) ?_
          rotate_left
          · intro w; go_simp; with_reducible rfl
          refine wpAny_done (by kernel_rfl) ?_ _
          go_wp2_with fail
          refine HT.out.mono ?_
          rintro e w3 ⟨rfl, rfl⟩
          go_wp2_with fail
          rw [← HP.out]
          exact ⟨HE.out.2, _, rfl, HE.out.1⟩
        exact AllReady.nil
      exact AllReady.nil
    exact AllReady.nil
  exact AllReady.nil
end Go.Proofs.YtmkefodaibmkhaaGreatDoor
namespace Go.Proofs.YtmkefodaibmkhaaGreatDoor
open Go Go.RowKit Go.Shelf

theorem m_mrg_num (x : Value) (w : World) : (method 441 184 (.agg #[x]) "aviary/ladder.merge").run Tryz.prog w = .ok (170, .agg #[x]) w := by kernel_rfl
theorem m_mrg_reg (x y : Value) (w : World) : (method 441 187 (.agg #[x, y]) "aviary/ladder.merge").run Tryz.prog w = .ok (199, .agg #[x, y]) w := by kernel_rfl
theorem m_mrg_cnt (x y z : Value) (w : World) : (method 441 188 (.agg #[x, y, z]) "aviary/ladder.merge").run Tryz.prog w = .ok (209, .agg #[x, y, z]) w := by kernel_rfl
theorem m_mrg_bkt (x y : Value) (w : World) : (method 441 190 (.agg #[x, y]) "aviary/ladder.merge").run Tryz.prog w = .ok (228, .agg #[x, y]) w := by kernel_rfl
/-- merge, whatever the body is. -/
theorem merge_at_any {w : World} {v : Value} {B : Bd} {kind level : Nat} (hb : BdAt w v B) (hok : B.Ok kind level) : ∃ T rv f, v = .iface T rv ∧ (∀ W, (method 441 T rv "aviary/ladder.merge").run Tryz.prog W = .ok (f, rv) W) ∧ (∀ args W, (callFunc f args).run Tryz.prog W = .ok (.enter f args) W) ∧
    ∀ W v2 B2, BdAt W v B → BdAt W v2 B2 → B2.Ok kind level → Calls Tryz.prog f #[rv, v2] W (BodyPost (B.merge B2) W) := by
  cases B with
  | num l =>
    obtain ⟨a, len, cap, rfl, -⟩ := hb
    obtain ⟨rfl, rfl, o3, o4, o5⟩ := hok
    refine ⟨_, _, _, rfl, fun W => m_mrg_num _ W, enters_of Tryz.func170 (by kernel_rfl) rfl, fun W v2 B2 hW hW2 hok2 => ?_⟩
    cases B2 with
    | num m =>
      obtain ⟨a', len', cap', e, hS⟩ := hW
      cases e
      obtain ⟨a2, len2, cap2, rfl, hS2⟩ := hW2
      cases he : exGather l m with
      | some z =>
        have h := mrg_num l m a len cap a2 len2 cap2 z W hS hS2 (up_right l o3 o4) (up_right m hok2.2.2.1 hok2.2.2.2.1) he
        show Calls _ _ _ _ (BodyPost ((exGather l m).map Bd.num) W)
        rw [he]
        exact h
      | none =>
        have h := mrg_full l m a len cap a2 len2 cap2 W hS hS2 (up_right l o3 o4) (up_right m hok2.2.2.1 hok2.2.2.2.1) he
        show Calls _ _ _ _ (BodyPost ((exGather l m).map Bd.num) W)
        rw [he]
        exact h
    | reg b r => exact absurd hok2.2.1 (by omega)
    | cnt c m => exact absurd hok2.1 (by omega)
    | bkt f m => exact absurd hok2.1 (by omega)
  | reg b r =>
    obtain rfl : v = _ := hb
    obtain ⟨rfl, o2, o3, o4, o5, o6⟩ := hok
    refine ⟨_, _, _, rfl, fun W => m_mrg_reg _ _ W, enters_of Tryz.func199 (by kernel_rfl) rfl, fun W v2 B2 hW hW2 hok2 => ?_⟩
    cases B2 with
    | num m => exact absurd hok2.2.1 (by omega)
    | reg b' r2 =>
      obtain rfl : v2 = _ := hW2
      obtain ⟨-, -, -, p4, p5, p6⟩ := hok2
      obtain rfl : b = b' := by omega
      exact mrg_reg b r r2 _ _ W (by omega) (by omega) o5 o6 p5 p6 rfl rfl
    | cnt c m => exact absurd hok2.1 (by omega)
    | bkt f m => exact absurd hok2.1 (by omega)
  | cnt c l =>
    obtain ⟨a, len, cap, rfl, -⟩ := hb
    obtain ⟨rfl, o2, o3, o4, o5⟩ := hok
    refine ⟨_, _, _, rfl, fun W => m_mrg_cnt _ _ _ W, enters_of Tryz.func209 (by kernel_rfl) rfl, fun W v2 B2 hW hW2 hok2 => ?_⟩
    cases B2 with
    | num m => exact absurd hok2.1 (by omega)
    | reg b r => exact absurd hok2.1 (by omega)
    | cnt c' m =>
      obtain ⟨a', len', cap', e, hS⟩ := hW
      cases e
      obtain ⟨a2, len2, cap2, rfl, hS2⟩ := hW2
      obtain ⟨-, p2, p3, p4, p5⟩ := hok2
      obtain rfl : c = c' := same_cols o3 p3
      exact mrg_cnt c l m a len cap a2 len2 cap2 W (cols_of o3 o2) hS o4 o5 hS2 p4 p5
    | bkt f m => exact absurd hok2.1 (by omega)
  | bkt f l =>
    obtain ⟨a, len, cap, rfl, -⟩ := hb
    obtain ⟨rfl, o2, o3, o4, o5, o6, o7⟩ := hok
    refine ⟨_, _, _, rfl, fun W => m_mrg_bkt _ _ W, enters_of Tryz.func228 (by kernel_rfl) rfl, fun W v2 B2 hW hW2 hok2 => ?_⟩
    cases B2 with
    | num m => exact absurd hok2.1 (by omega)
    | reg b r => exact absurd hok2.1 (by omega)
    | cnt c m => exact absurd hok2.1 (by omega)
    | bkt f' m =>
      obtain ⟨a', len', cap', e, hS⟩ := hW
      cases e
      obtain ⟨a2, len2, cap2, rfl, hS2⟩ := hW2
      obtain ⟨-, p2, p3, p4, p5, p6, p7⟩ := hok2
      obtain rfl : f = f' := by omega
      have hf : f ≤ 3 := by omega
      exact mrg_bkt f l m a len cap a2 len2 cap2 W hf hS (hiRight_of f l hf o4 o5 o7) o4 o6 (by have := bins_len f l hf o4 o7; omega) (bins_i64 f l hf o7) hS2 (hiRight_of f m hf p4 p5 p7) p6 (by have := bins_len f m hf p4 p7; omega) (bins_i64 f m hf p7)
set_option maxRecDepth 100000 in
set_option maxHeartbeats 2000000 in
theorem even_any (v1 v2 : Value) (B1 B2 : Bd) (kind L1 L2 t : Nat) (w : World) (hb1 : BdAt w v1 B1) (hb2 : BdAt w v2 B2) (hok1 : B1.Ok kind L1) (hok2 : B2.Ok kind L2) (h1 : L1 ≤ t) (h2 : L2 ≤ t) (ht : t ≤ botN kind) :
    Calls Tryz.prog 85 #[.agg #[v1, .int .i64 kind, .int .i64 L1], .agg #[v2, .int .i64 kind, .int .i64 L2], .int .i64 t] w fun e w' => ∃ u1 u2, e = .returned (.tuple #[.agg #[u1, .int .i64 kind, .int .i64 t], .agg #[u2, .int .i64 kind, .int .i64 t], .nilIface]) ∧ BdAt w' u1 (wkTo (L1, B1) t).2 ∧ BdAt w' u2 (wkTo (L2, B2) t).2 ∧ Below w.heap.size w w' := by
  obtain ⟨T1, rv1, rfl⟩ := bd_iface hb1
  obtain ⟨T2, rv2, rfl⟩ := bd_iface hb2
  have e1 : (wkTo (L1, B1) t).1 = t := (wkTo_ok t ht _ (L1, B1) rfl hok1).2.trans (by show max L1 t = t; omega)
  have e2 : (wkTo (L2, B2) t).1 = t := (wkTo_ok t ht _ (L2, B2) rfl hok2).2.trans (by show max L2 t = t; omega)
  have HT1 : Hid (∀ W, BdAt W (.iface T1 rv1) B1 → Calls Tryz.prog 39 #[.agg #[.iface T1 rv1, .int .i64 kind, .int .i64 L1], .int .i64 t] W fun e w' => ∃ v', e = .returned (.tuple #[.agg #[v', .int .i64 kind, .int .i64 t], .nilIface]) ∧ BdAt w' v' (wkTo (L1, B1) t).2 ∧ Below W.heap.size W w') := fun W h => by
    have h3 := to_any (.iface T1 rv1) B1 kind L1 t W h hok1 ht
    rw [e1] at h3
    exact h3
  have HT2 : Hid (∀ W, BdAt W (.iface T2 rv2) B2 → Calls Tryz.prog 39 #[.agg #[.iface T2 rv2, .int .i64 kind, .int .i64 L2], .int .i64 t] W fun e w' => ∃ v', e = .returned (.tuple #[.agg #[v', .int .i64 kind, .int .i64 t], .nilIface]) ∧ BdAt w' v' (wkTo (L2, B2) t).2 ∧ Below W.heap.size W w') := fun W h => by
    have h3 := to_any (.iface T2 rv2) B2 kind L2 t W h hok2 ht
    rw [e2] at h3
    exact h3
  generalize (wkTo (L1, B1) t).2 = D1 at HT1
  generalize (wkTo (L2, B2) t).2 = D2 at HT2
  obtain ⟨W0, hW0, hXa, hXb, hXr, hB0, hs0⟩ := boxes3 w #[.iface T1 rv1, .int .i64 kind, .int .i64 L1] 68 #[.iface T2 rv2, .int .i64 kind, .int .i64 L2] 68 #[.nilIface, .int .i64 0, .int .i64 0] 68
  obtain ⟨W1, hW1, hXq, hB1, hs1⟩ := boxes1 W0 #[.nilIface, .int .i64 0, .int .i64 0] 68
  rw [hs0] at hXq hs1
  have hXa1 := known hB1 (by omega) hXa
  have hXb1 := known hB1 (by omega) hXb
  have hXr1 := known hB1 (by omega) hXr
  have c0 : W1.cell? ⟨w.heap.size, 0, none⟩ = some (.iface T1 rv1) := cell_of_cells hXa1 0
  have c1 : W1.cell? ⟨w.heap.size, 1, none⟩ = some (.int .i64 kind) := cell_of_cells hXa1 1
  have c2 : W1.cell? ⟨w.heap.size, 2, none⟩ = some (.int .i64 L1) := cell_of_cells hXa1 2
  have hB01 := hB0.trans (hB1.mono hB0.size)
  have HT1 := Lib.hid (HT1.out W1 (hb1.go hB01))
  have HB2 := Lib.hid (hb2.go hB01)
  have HXA := Lib.hid hXa1
  have HXB := Lib.hid hXb1
  have HXR := Lib.hid hXr1
  have HXQ := Lib.hid hXq
  have HB01 := Lib.hid hB01
  clear hXa hXb hXr hXq hXa1 hXb1 hXr1 hB0 hB1 hB01 hb1 hb2 hok1 hok2 h1 h2 ht e1 e2
  go_enter Tryz.func85, Tryz.ntmps85
  go_wp2_with fail
  refine HT1.out.mono ?_
  rintro e w2 ⟨u1, rfl, hu1, hb12⟩
  obtain ⟨S1, rs1, rfl⟩ := bd_iface hu1
  have hA2 := known hb12 (Nat.le_refl _) HXA.out
  have p0 : w2.cell? ⟨w.heap.size, 0, none⟩ = some (.iface T1 rv1) := cell_of_cells hA2 0
  have p1 : w2.cell? ⟨w.heap.size, 1, none⟩ = some (.int .i64 kind) := cell_of_cells hA2 1
  have p2 : w2.cell? ⟨w.heap.size, 2, none⟩ = some (.int .i64 L1) := cell_of_cells hA2 2
  have f0 : w2.frozen? ⟨w.heap.size, 0, none⟩ = false := frozen_of_cells hA2 0
  have f1 : w2.frozen? ⟨w.heap.size, 1, none⟩ = false := frozen_of_cells hA2 1
  have f2 : w2.frozen? ⟨w.heap.size, 2, none⟩ = false := frozen_of_cells hA2 2
  obtain ⟨V1, hV1, hX1, hO1, hQ1⟩ := store3 (.iface S1 rs1) (.int .i64 kind) (.int .i64 t) hA2
  have hBV1 : Below w.heap.size w V1 := hQ1 _ _ (HB01.out.trans (hb12.mono HB01.out.size)) (Nat.le_refl _)
  have hXB1 := (hO1.2 (w.heap.size + 1) (by omega)).trans (known hb12 (Nat.le_refl _) HXB.out)
  have hXR1 := (hO1.2 (w.heap.size + 2) (by omega)).trans (known hb12 (Nat.le_refl _) HXR.out)
  have hXQ1 := (hO1.2 (w.heap.size + 2 + 1) (by omega)).trans (known hb12 (Nat.le_refl _) HXQ.out)
  have hu1' : BdAt V1 (.iface S1 rs1) D1 := BdAt.set_work hu1 hA2 (by simp) (by simp) (by simp) hO1
  have HT2 := Lib.hid (HT2.out V1 (BdAt.set_work (HB2.out.go hb12) hA2 (by simp) (by simp) (by simp) hO1))
  have q0 : V1.cell? ⟨w.heap.size + 1, 0, none⟩ = some (.iface T2 rv2) := cell_of_cells hXB1 0
  have q1 : V1.cell? ⟨w.heap.size + 1, 1, none⟩ = some (.int .i64 kind) := cell_of_cells hXB1 1
  have q2 : V1.cell? ⟨w.heap.size + 1, 2, none⟩ = some (.int .i64 L2) := cell_of_cells hXB1 2
  have HX1 := Lib.hid hX1
  have HXB1 := Lib.hid hXB1
  have HXR1 := Lib.hid hXR1
  have HXQ1 := Lib.hid hXQ1
  have HU1 := Lib.hid hu1'
  have HBV1 := Lib.hid hBV1
  clear hX1 hO1 hQ1 hXB1 hXR1 hXQ1 hu1 hu1' hBV1 hA2 hb12
  go_wp2_with fail
  refine HT2.out.mono ?_
  rintro e w3 ⟨u2, rfl, hu2, hb23⟩
  obtain ⟨S2, rs2, rfl⟩ := bd_iface hu2
  have hB3 := known hb23 (Nat.le_refl _) HXB1.out
  have r0 : w3.cell? ⟨w.heap.size + 1, 0, none⟩ = some (.iface T2 rv2) := cell_of_cells hB3 0
  have r1 : w3.cell? ⟨w.heap.size + 1, 1, none⟩ = some (.int .i64 kind) := cell_of_cells hB3 1
  have r2 : w3.cell? ⟨w.heap.size + 1, 2, none⟩ = some (.int .i64 L2) := cell_of_cells hB3 2
  have g0 : w3.frozen? ⟨w.heap.size + 1, 0, none⟩ = false := frozen_of_cells hB3 0
  have g1 : w3.frozen? ⟨w.heap.size + 1, 1, none⟩ = false := frozen_of_cells hB3 1
  have g2 : w3.frozen? ⟨w.heap.size + 1, 2, none⟩ = false := frozen_of_cells hB3 2
  obtain ⟨V2, hV2, hX2, hO2, hQ2⟩ := store3 (.iface S2 rs2) (.int .i64 kind) (.int .i64 t) hB3
  have hBV2 : Below w.heap.size w V2 := hQ2 _ _ (HBV1.out.trans (hb23.mono HBV1.out.size)) (Nat.le_succ _)
  have hXA2 := (hO2.2 w.heap.size (by omega)).trans (known hb23 (Nat.le_refl _) HX1.out)
  have hXR2 := (hO2.2 (w.heap.size + 2) (by omega)).trans (known hb23 (Nat.le_refl _) HXR1.out)
  have hXQ2 := (hO2.2 (w.heap.size + 2 + 1) (by omega)).trans (known hb23 (Nat.le_refl _) HXQ1.out)
  have hu1V : BdAt V2 (.iface S1 rs1) D1 := BdAt.set_work (HU1.out.go hb23) hB3 (by simp) (by simp) (by simp) hO2
  have hu2V : BdAt V2 (.iface S2 rs2) D2 := BdAt.set_work hu2 hB3 (by simp) (by simp) (by simp) hO2
  have x0 : V2.cell? ⟨w.heap.size, 0, none⟩ = some (.iface S1 rs1) := cell_of_cells hXA2 0
  have x1 : V2.cell? ⟨w.heap.size, 1, none⟩ = some (.int .i64 kind) := cell_of_cells hXA2 1
  have x2 : V2.cell? ⟨w.heap.size, 2, none⟩ = some (.int .i64 t) := cell_of_cells hXA2 2
  have y0 : V2.cell? ⟨w.heap.size + 1, 0, none⟩ = some (.iface S2 rs2) := cell_of_cells hX2 0
  have y1 : V2.cell? ⟨w.heap.size + 1, 1, none⟩ = some (.int .i64 kind) := cell_of_cells hX2 1
  have y2 : V2.cell? ⟨w.heap.size + 1, 2, none⟩ = some (.int .i64 t) := cell_of_cells hX2 2
  have z0 : V2.cell? ⟨w.heap.size + 2, 0, none⟩ = some (.nilIface) := cell_of_cells hXR2 0
  have z1 : V2.cell? ⟨w.heap.size + 2, 1, none⟩ = some (.int .i64 0) := cell_of_cells hXR2 1
  have z2 : V2.cell? ⟨w.heap.size + 2, 2, none⟩ = some (.int .i64 0) := cell_of_cells hXR2 2
  have h0 : V2.frozen? ⟨w.heap.size + 2, 0, none⟩ = false := frozen_of_cells hXR2 0
  have h1 : V2.frozen? ⟨w.heap.size + 2, 1, none⟩ = false := frozen_of_cells hXR2 1
  have h2 : V2.frozen? ⟨w.heap.size + 2, 2, none⟩ = false := frozen_of_cells hXR2 2
  obtain ⟨V3, hV3, hX3, hO3, hQ3⟩ := store3 (b := w.heap.size + 1 + 1) (.iface S1 rs1) (.int .i64 kind) (.int .i64 t) hXR2
  have hXQ3 := (hO3.2 (w.heap.size + 2 + 1) (by omega)).trans hXQ2
  have hY3 := (hO3.2 (w.heap.size + 1) (by omega)).trans hX2
  have n0 : V3.cell? ⟨w.heap.size + 1, 0, none⟩ = some (.iface S2 rs2) := cell_of_cells hY3 0
  have n1 : V3.cell? ⟨w.heap.size + 1, 1, none⟩ = some (.int .i64 kind) := cell_of_cells hY3 1
  have n2 : V3.cell? ⟨w.heap.size + 1, 2, none⟩ = some (.int .i64 t) := cell_of_cells hY3 2
  have l0 : V3.cell? ⟨w.heap.size + 2 + 1, 0, none⟩ = some (.nilIface) := cell_of_cells hXQ3 0
  have l1 : V3.cell? ⟨w.heap.size + 2 + 1, 1, none⟩ = some (.int .i64 0) := cell_of_cells hXQ3 1
  have l2 : V3.cell? ⟨w.heap.size + 2 + 1, 2, none⟩ = some (.int .i64 0) := cell_of_cells hXQ3 2
  have m0 : V3.frozen? ⟨w.heap.size + 2 + 1, 0, none⟩ = false := frozen_of_cells hXQ3 0
  have m1 : V3.frozen? ⟨w.heap.size + 2 + 1, 1, none⟩ = false := frozen_of_cells hXQ3 1
  have m2 : V3.frozen? ⟨w.heap.size + 2 + 1, 2, none⟩ = false := frozen_of_cells hXQ3 2
  obtain ⟨V4, hV4, hX4, hO4, hQ4⟩ := store3 (b := w.heap.size + 1 + 1 + 1) (.iface S2 rs2) (.int .i64 kind) (.int .i64 t) hXQ3
  have hXR4 : V4.drew.heap[w.heap.size + 1 + 1]? = _ := (hO4.2 (w.heap.size + 1 + 1) (by omega)).trans hX3
  have hX4d : V4.drew.heap[w.heap.size + 1 + 1 + 1]? = _ := hX4
  have j0 : V4.drew.cell? ⟨w.heap.size + 1 + 1, 0, none⟩ = some (.iface S1 rs1) := cell_of_cells hXR4 0
  have j1 : V4.drew.cell? ⟨w.heap.size + 1 + 1, 1, none⟩ = some (.int .i64 kind) := cell_of_cells hXR4 1
  have j2 : V4.drew.cell? ⟨w.heap.size + 1 + 1, 2, none⟩ = some (.int .i64 t) := cell_of_cells hXR4 2
  have k0 : V4.drew.cell? ⟨w.heap.size + 1 + 1 + 1, 0, none⟩ = some (.iface S2 rs2) := cell_of_cells hX4d 0
  have k1 : V4.drew.cell? ⟨w.heap.size + 1 + 1 + 1, 1, none⟩ = some (.int .i64 kind) := cell_of_cells hX4d 1
  have k2 : V4.drew.cell? ⟨w.heap.size + 1 + 1 + 1, 2, none⟩ = some (.int .i64 t) := cell_of_cells hX4d 2
  have HE : Hid (BdAt V4.drew (.iface S1 rs1) D1 ∧ BdAt V4.drew (.iface S2 rs2) D2 ∧ Below w.heap.size w V4.drew) := by
    refine ⟨?_, ?_, (hQ4 _ _ (hQ3 _ _ hBV2 (by omega)) (by omega)).drew⟩
    · exact (BdAt.set_work (BdAt.set_work hu1V hXR2 (by simp) (by simp) (by simp) hO3) hXQ3 (by simp) (by simp) (by simp) hO4).go (Below.refl _ _).drew
    · exact (BdAt.set_work (BdAt.set_work hu2V hXR2 (by simp) (by simp) (by simp) hO3) hXQ3 (by simp) (by simp) (by simp) hO4).go (Below.refl _ _).drew
  clear hY3 hX2 hO2 hQ2 hXA2 hXR2 hXQ2 hu2 hu1V hu2V hBV2 hB3 hb23 hX3 hO3 hQ3 hXQ3 hX4 hO4 hQ4 hXR4 hX4d
  go_wp2_with fail
  go_region
  go_wp2_with fail
  exact bodyPost_ret (v := .tuple #[.agg #[.iface S1 rs1, .int .i64 kind, .int .i64 t], .agg #[.iface S2 rs2, .int .i64 kind, .int .i64 t], .nilIface]) (by simp [results, Tryz.f85, go_sem, j0, j1, j2, k0, k1, k2]) rfl ⟨_, _, rfl, HE.out.1, HE.out.2.1, HE.out.2.2⟩
end Go.Proofs.YtmkefodaibmkhaaGreatDoor
