/- Package ladder: the four bodies' merge. Printed by gen_mg.py. -/
import Derived.Test.YtcbbenncdainfaaGreatDoorZMA
import Derived.Test.YtcbbenncdainfaaGreatDoorZMD
namespace Go.Proofs.YtcbbenncdainfaaGreatDoor
open Go Go.RowKit Go.Shelf
set_option maxRecDepth 100000 in
set_option maxHeartbeats 2000000 in
theorem mrg_num (l m : List Int) (a : Option Addr) (len cap : Nat) (a2 : Option Addr) (len2 cap2 : Nat) (z : List Int) (w : World) (hS : SlC encU 1 w.heap.size w a len cap l) (hM : SlC encU 1 w.heap.size w a2 len2 cap2 m) (hr : exRight l = true) (hr2 : exRight m = true) (he : exGather l m = some z) :
  Calls Tryz.prog 134 #[.agg #[.slice a len cap], .iface 144 (.agg #[.slice a2 len2 cap2])] w (BodyPost (some (Bd.num z)) w) := by
 obtain ⟨W0, hW0, hXb, hB0, hs0⟩ := boxes1 w #[.slice a len cap] 144
 have hXd : W0.drew.heap[w.heap.size]? = some (.cells #[.slice a len cap] 144 (0, 0)) := hXb
 have c0 : W0.drew.cell? ⟨w.heap.size, 0, none⟩ = some (.slice a len cap) := cCc hXd 0
 have HA : Hid (∀ W, Below W0.heap.size W0 W → Calls Tryz.prog 139 #[.agg #[.slice a len cap], .agg #[.slice a2 len2 cap2]] W fun e w' => ∃ a' cap', e = .returned (.tuple #[.agg #[.slice a' z.length cap'], .int .i64 0]) ∧ BdAt w' (.iface 144 (.agg #[.slice a' z.length cap'])) (Bd.num z) ∧ Below W.heap.size W w') := by
  intro W hB
  have h := exMerge_any l m a len cap a2 len2 cap2 W ((hS.1.below (hB0.trans (hB.mono hB0.size))).mono (hB0.trans (hB.mono hB0.size)).size) (fun e => by have := hS.2.2.2.1 e; have := hS.2.1; omega) ((hM.1.below (hB0.trans (hB.mono hB0.size))).mono (hB0.trans (hB.mono hB0.size)).size) hr hr2
  rw [he] at h
  exact h.mono fun e w' ⟨hb, a', cap', e1, hS1, _⟩ => ⟨a', cap', e1, ⟨_, _, _, rfl, hS1⟩, hb⟩
 have hTA : ∀ w, (Instr.typeAssert (.iface 144 (.agg #[.slice a2 len2 cap2])) 58 144 false).run Tryz.prog w = .ok (.agg #[.slice a2 len2 cap2]) w := fun w => by kernel_rfl
 have hFl : ∀ w, (Instr.field 144 (.agg #[.slice a2 len2 cap2]) 0).run Tryz.prog w = .ok (.agg #[.slice a2 len2 cap2]) w := fun w => by kernel_rfl
 obtain ⟨Wa, hWa, hXa, hBa, hsa⟩ := boxes1 W0 #[.slice none 0 0] 24
 obtain ⟨W1, hW1, hX1, hB1⟩ : ∃ W1, (W0.alloc (.cells #[.slice none 0 0] 24)).drew = W1 ∧ W1.heap[W0.heap.size]? = some (.cells #[.slice none 0 0] 24 (0, 0)) ∧ Below W0.heap.size W0 W1 := ⟨_, rfl, by rw [hWa]; exact hXa, by rw [hWa]; exact hBa.drew⟩
 have hX1b : W1.heap[w.heap.size]? = some (.cells #[.slice a len cap] 144 (0, 0)) := known hB1 (Nat.le_refl _) hXb
 rw [hs0] at hX1
 have k0 : W1.cell? ⟨w.heap.size, 0, none⟩ = some (.slice a len cap) := cCc hX1b 0
 have HW1 := Lib.hid hW1
 have HX1 := Lib.hid hX1
 have HB0 := Lib.hid hB0
 have HB1 := Lib.hid hB1
 have HA1 := Lib.hid (HA.out W1 HB1.out)
 have HA0 := Lib.hid (HA.out W0.drew (Below.refl _ W0).drew)
 have hs0' : w.heap.size + 1 ≤ W0.heap.size := by omega
 obtain ⟨P, hP⟩ : ∃ P, BodyPost (some (Bd.num z)) w = P := ⟨_, rfl⟩
 have HP := Lib.hid hP
 rw [hP]
 clear hP HA hXb hB0 hXd hW1 hX1 hX1b hB1 hWa hXa hBa hsa hS hM hr hr2 he
 go_enter Tryz.func134, Tryz.ntmps134
 go_wp2_with fail
 refine wp_region_any (by kernel_rfl) ?_
 change wpAny _ _ _ _ _ _ _ (World.drew _)
 refine tk 0 (v := ?_) rfl ?_ ?_
 rotate_left
 ·intro w; go_simp; with_reducible rfl
 refine tk 2 (v := ?_) rfl ?_ ?_
 rotate_left
 ·intro w; go_simp; with_reducible rfl
 refine tk 3 (v := ?_) rfl ?_ ?_
 rotate_left
 ·intro w; go_simp; with_reducible rfl
 refine tk 4 (v := ?_) rfl ?_ ?_
 rotate_left
 ·intro w; go_simp; with_reducible rfl
 refine wpAny_ready (rs := [1, 9]) (by kernel_rfl) (by simp) ?_
 refine AllReady.cons rfl (fun K hK => ?_) ?_
 ·go_simp
  refine hK _ _ ?_
  clear hK K
  refine wpAny_ready (rs := [5, 9]) (by kernel_rfl) (by simp) ?_
  refine AllReady.cons rfl (fun K hK => ?_) ?_
  ·go_simp
   refine HA0.out.mono ?_
   rintro e w2 ⟨a', cap', rfl, hbd, hb2⟩
   obtain ⟨W3, hW3, hX3, hB3, hs3⟩ := boxes1 w2 #[.slice none 0 0] 24
   have hb23 := hb2.trans (hB3.mono hb2.size)
   have hbx : W0.heap.size ≤ w2.heap.size := hb2.size
   have hBw2 : Below w.heap.size w W3 := HB0.out.trans (((Below.refl _ W0).drew.trans hb23).mono HB0.out.size)
   have hbox : w.heap.size ≤ w2.heap.size := by omega
   replace hbd := hbd.go hB3
   obtain ⟨V, hV⟩ : ∃ V, (W3.setCell ⟨w2.heap.size, 0, none⟩ (.slice a' z.length cap')) = V := ⟨_, rfl⟩
   have hXV : V.heap[w2.heap.size]? = some (.cells #[.slice a' z.length cap'] 24 (0, 0)) := by rw [← hV]; exact (hSk hX3 (.slice a' z.length cap'))
   have hOV : OnlyAt (w2.heap.size) W3 V := by rw [← hV]; exact ((OnlyAt.refl _ _).set _ _)
   have x0 : W3.cell? ⟨w2.heap.size, 0, none⟩ = some (.slice none 0 0) := cCc hX3 0
   have f0 : W3.frozen? ⟨w2.heap.size, 0, none⟩ = false := cFz hX3 0
   have y0 : V.cell? ⟨w2.heap.size, 0, none⟩ = some (.slice a' z.length cap') := cCc hXV 0
   have hBV : Below w.heap.size w V := by rw [← hV]; exact (hBw2.setCell (p := ⟨w2.heap.size, 0, none⟩) hbox _)
   have HE : Hid (BdAt V (.iface 144 (.agg #[.slice a' z.length cap'])) (Bd.num z) ∧ Below w.heap.size w V) := ⟨BdAt.apart hbd hX3 (fun i u h => by rcases i with _ | i <;> simp at h) hOV, hBV⟩
   have HT := Lib.hid (told_ok (.iface 144 (.agg #[.slice a' z.length cap'])) V)
   clear hXV hOV hBV hX3 hbd
   have HW3 := Lib.hid hW3
   clear hb2 hb23 hBw2 hbx hbox hB3 hs3 hW3
   refine hK _ _ ?_
   clear hK K
   refine tk 6 (v := ?_) rfl ?_ ?_
   rotate_left
   ·intro w; go_simp; with_reducible rfl
   refine tk 7 (v := ?_) rfl ?_ ?_
   rotate_left
   ·intro w; go_simp; with_reducible rfl
   refine tk 8 (v := ?_) rfl ?_ ?_
   rotate_left
   ·intro w; go_simp; with_reducible rfl
   refine wpAny_ready (rs := [9]) (by kernel_rfl) (by simp) ?_
   refine AllReady.cons rfl (fun K hK => ?_) ?_
   ·go_simp
    rw [HW3.out]
    refine hK _ _ ?_
    clear hK K
    refine wpAny_ready (rs := [10]) (by kernel_rfl) (by simp) ?_
    refine AllReady.cons rfl (fun K hK => ?_) ?_
    ·go_simp
     refine hK _ _ ?_
     clear hK K
     refine tk 11 (v := ?_) rfl ?_ ?_
     rotate_left
     ·intro w; go_simp; with_reducible rfl
     refine wpAny_done (by kernel_rfl) ?_ _
     go_wp2_with fail
     refine HT.out.mono ?_
     rintro e w3 ⟨rfl, rfl⟩
     go_wp2_with fail
     rw [← HP.out]
     exact ⟨HE.out.2, _, rfl, HE.out.1⟩
    exact AllReady.nil
   exact AllReady.nil
  refine AllReady.cons rfl (fun K hK => ?_) ?_
  ·go_simp
   rw [HW1.out]
   refine hK _ _ ?_
   clear hK K
   refine wpAny_ready (rs := [5]) (by kernel_rfl) (by simp) ?_
   refine AllReady.cons rfl (fun K hK => ?_) ?_
   ·go_simp
    refine HA1.out.mono ?_
    rintro e w2 ⟨a', cap', rfl, hbd, hb2⟩
    have hX2 := known hb2 (Nat.le_refl _) HX1.out
    have hb12 := HB1.out.trans (hb2.mono HB1.out.size)
    have hbox : w.heap.size ≤ w.heap.size + 1 := Nat.le_succ _
    have hBw2 := HB0.out.trans (hb12.mono HB0.out.size)
    obtain ⟨V, hV⟩ : ∃ V, (w2.setCell ⟨w.heap.size + 1, 0, none⟩ (.slice a' z.length cap')) = V := ⟨_, rfl⟩
    have hXV : V.heap[w.heap.size + 1]? = some (.cells #[.slice a' z.length cap'] 24 (0, 0)) := by rw [← hV]; exact (hSk hX2 (.slice a' z.length cap'))
    have hOV : OnlyAt (w.heap.size + 1) w2 V := by rw [← hV]; exact ((OnlyAt.refl _ _).set _ _)
    have x0 : w2.cell? ⟨w.heap.size + 1, 0, none⟩ = some (.slice none 0 0) := cCc hX2 0
    have f0 : w2.frozen? ⟨w.heap.size + 1, 0, none⟩ = false := cFz hX2 0
    have y0 : V.cell? ⟨w.heap.size + 1, 0, none⟩ = some (.slice a' z.length cap') := cCc hXV 0
    have hBV : Below w.heap.size w V := by rw [← hV]; exact (hBw2.setCell (p := ⟨w.heap.size + 1, 0, none⟩) hbox _)
    have HE : Hid (BdAt V (.iface 144 (.agg #[.slice a' z.length cap'])) (Bd.num z) ∧ Below w.heap.size w V) := ⟨BdAt.apart hbd hX2 (fun i u h => by rcases i with _ | i <;> simp at h) hOV, hBV⟩
    have HT := Lib.hid (told_ok (.iface 144 (.agg #[.slice a' z.length cap'])) V)
    clear hXV hOV hBV hX2 hbd
    clear hb2 hb12 hBw2 hbox
    refine hK _ _ ?_
    clear hK K
    refine tk 6 (v := ?_) rfl ?_ ?_
    rotate_left
    ·intro w; go_simp; with_reducible rfl
    refine tk 7 (v := ?_) rfl ?_ ?_
    rotate_left
    ·intro w; go_simp; with_reducible rfl
    refine tk 8 (v := ?_) rfl ?_ ?_
    rotate_left
    ·intro w; go_simp; with_reducible rfl
    refine wpAny_ready (rs := [10]) (by kernel_rfl) (by simp) ?_
    refine AllReady.cons rfl (fun K hK => ?_) ?_
    ·go_simp
     refine hK _ _ ?_
     clear hK K
     refine tk 11 (v := ?_) rfl ?_ ?_
     rotate_left
     ·intro w; go_simp; with_reducible rfl
     refine wpAny_done (by kernel_rfl) ?_ _
     go_wp2_with fail
     refine HT.out.mono ?_
     rintro e w3 ⟨rfl, rfl⟩
     go_wp2_with fail
     rw [← HP.out]
     exact ⟨HE.out.2, _, rfl, HE.out.1⟩
    exact AllReady.nil
   exact AllReady.nil
  exact AllReady.nil
 refine AllReady.cons rfl (fun K hK => ?_) ?_
 ·go_simp
  rw [HW1.out]
  refine hK _ _ ?_
  clear hK K
  refine wpAny_ready (rs := [1]) (by kernel_rfl) (by simp) ?_
  refine AllReady.cons rfl (fun K hK => ?_) ?_
  ·go_simp
   refine hK _ _ ?_
   clear hK K
   refine wpAny_ready (rs := [5]) (by kernel_rfl) (by simp) ?_
   refine AllReady.cons rfl (fun K hK => ?_) ?_
   ·go_simp
    refine HA1.out.mono ?_
    rintro e w2 ⟨a', cap', rfl, hbd, hb2⟩
    have hX2 := known hb2 (Nat.le_refl _) HX1.out
    have hb12 := HB1.out.trans (hb2.mono HB1.out.size)
    have hbox : w.heap.size ≤ w.heap.size + 1 := Nat.le_succ _
    have hBw2 := HB0.out.trans (hb12.mono HB0.out.size)
    obtain ⟨V, hV⟩ : ∃ V, (w2.setCell ⟨w.heap.size + 1, 0, none⟩ (.slice a' z.length cap')) = V := ⟨_, rfl⟩
    have hXV : V.heap[w.heap.size + 1]? = some (.cells #[.slice a' z.length cap'] 24 (0, 0)) := by rw [← hV]; exact (hSk hX2 (.slice a' z.length cap'))
    have hOV : OnlyAt (w.heap.size + 1) w2 V := by rw [← hV]; exact ((OnlyAt.refl _ _).set _ _)
    have x0 : w2.cell? ⟨w.heap.size + 1, 0, none⟩ = some (.slice none 0 0) := cCc hX2 0
    have f0 : w2.frozen? ⟨w.heap.size + 1, 0, none⟩ = false := cFz hX2 0
    have y0 : V.cell? ⟨w.heap.size + 1, 0, none⟩ = some (.slice a' z.length cap') := cCc hXV 0
    have hBV : Below w.heap.size w V := by rw [← hV]; exact (hBw2.setCell (p := ⟨w.heap.size + 1, 0, none⟩) hbox _)
    have HE : Hid (BdAt V (.iface 144 (.agg #[.slice a' z.length cap'])) (Bd.num z) ∧ Below w.heap.size w V) := ⟨BdAt.apart hbd hX2 (fun i u h => by rcases i with _ | i <;> simp at h) hOV, hBV⟩
    have HT := Lib.hid (told_ok (.iface 144 (.agg #[.slice a' z.length cap'])) V)
    clear hXV hOV hBV hX2 hbd
    clear hb2 hb12 hBw2 hbox
    refine hK _ _ ?_
    clear hK K
    refine tk 6 (v := ?_) rfl ?_ ?_
    rotate_left
    ·intro w; go_simp; with_reducible rfl
    refine tk 7 (v := ?_) rfl ?_ ?_
    rotate_left
    ·intro w; go_simp; with_reducible rfl
    refine tk 8 (v := ?_) rfl ?_ ?_
    rotate_left
    ·intro w; go_simp; with_reducible rfl
    refine wpAny_ready (rs := [10]) (by kernel_rfl) (by simp) ?_
    refine AllReady.cons rfl (fun K hK => ?_) ?_
    ·go_simp
     refine hK _ _ ?_
     clear hK K
     refine tk 11 (v := ?_) rfl ?_ ?_
     rotate_left
     ·intro w; go_simp; with_reducible rfl
     refine wpAny_done (by kernel_rfl) ?_ _
     go_wp2_with fail
     refine HT.out.mono ?_
     rintro e w3 ⟨rfl, rfl⟩
     go_wp2_with fail
     rw [← HP.out]
     exact ⟨HE.out.2, _, rfl, HE.out.1⟩
    exact AllReady.nil
   exact AllReady.nil
  exact AllReady.nil
 exact AllReady.nil
set_option maxRecDepth 100000 in
set_option maxHeartbeats 2000000 in
theorem mrg_full (l m : List Int) (a : Option Addr) (len cap : Nat) (a2 : Option Addr) (len2 cap2 : Nat) (w : World) (hS : SlC encU 1 w.heap.size w a len cap l) (hM : SlC encU 1 w.heap.size w a2 len2 cap2 m) (hr : exRight l = true) (hr2 : exRight m = true) (he : exGather l m = none) :
  Calls Tryz.prog 134 #[.agg #[.slice a len cap], .iface 144 (.agg #[.slice a2 len2 cap2])] w (BodyPost (none : Option Bd) w) := by
 obtain ⟨W0, hW0, hXb, hB0, hs0⟩ := boxes1 w #[.slice a len cap] 144
 have hXd : W0.drew.heap[w.heap.size]? = some (.cells #[.slice a len cap] 144 (0, 0)) := hXb
 have c0 : W0.drew.cell? ⟨w.heap.size, 0, none⟩ = some (.slice a len cap) := cCc hXd 0
 have HA : Hid (∀ W, Below W0.heap.size W0 W → Calls Tryz.prog 139 #[.agg #[.slice a len cap], .agg #[.slice a2 len2 cap2]] W fun e w' => e = .returned (.tuple #[.agg #[.slice none 0 0], .int .i64 60]) ∧ Below W.heap.size W w') := by
  intro W hB
  have h := exMerge_any l m a len cap a2 len2 cap2 W ((hS.1.below (hB0.trans (hB.mono hB0.size))).mono (hB0.trans (hB.mono hB0.size)).size) (fun e => by have := hS.2.2.2.1 e; have := hS.2.1; omega) ((hM.1.below (hB0.trans (hB.mono hB0.size))).mono (hB0.trans (hB.mono hB0.size)).size) hr hr2
  rw [he] at h
  exact h.mono fun e w' ⟨hb, e1⟩ => ⟨e1, hb⟩
 have hTA : ∀ w, (Instr.typeAssert (.iface 144 (.agg #[.slice a2 len2 cap2])) 58 144 false).run Tryz.prog w = .ok (.agg #[.slice a2 len2 cap2]) w := fun w => by kernel_rfl
 have hFl : ∀ w, (Instr.field 144 (.agg #[.slice a2 len2 cap2]) 0).run Tryz.prog w = .ok (.agg #[.slice a2 len2 cap2]) w := fun w => by kernel_rfl
 obtain ⟨Wa, hWa, hXa, hBa, hsa⟩ := boxes1 W0 #[.slice none 0 0] 24
 obtain ⟨W1, hW1, hX1, hB1⟩ : ∃ W1, (W0.alloc (.cells #[.slice none 0 0] 24)).drew = W1 ∧ W1.heap[W0.heap.size]? = some (.cells #[.slice none 0 0] 24 (0, 0)) ∧ Below W0.heap.size W0 W1 := ⟨_, rfl, by rw [hWa]; exact hXa, by rw [hWa]; exact hBa.drew⟩
 have hX1b : W1.heap[w.heap.size]? = some (.cells #[.slice a len cap] 144 (0, 0)) := known hB1 (Nat.le_refl _) hXb
 rw [hs0] at hX1
 have k0 : W1.cell? ⟨w.heap.size, 0, none⟩ = some (.slice a len cap) := cCc hX1b 0
 have HW1 := Lib.hid hW1
 have HX1 := Lib.hid hX1
 have HB0 := Lib.hid hB0
 have HB1 := Lib.hid hB1
 have HA1 := Lib.hid (HA.out W1 HB1.out)
 have HA0 := Lib.hid (HA.out W0.drew (Below.refl _ W0).drew)
 have hs0' : w.heap.size + 1 ≤ W0.heap.size := by omega
 obtain ⟨P, hP⟩ : ∃ P, BodyPost (none : Option Bd) w = P := ⟨_, rfl⟩
 have HP := Lib.hid hP
 rw [hP]
 clear hP HA hXb hB0 hXd hW1 hX1 hX1b hB1 hWa hXa hBa hsa hS hM hr hr2 he
 go_enter Tryz.func134, Tryz.ntmps134
 go_wp2_with fail
 refine wp_region_any (by kernel_rfl) ?_
 change wpAny _ _ _ _ _ _ _ (World.drew _)
 refine tk 0 (v := ?_) rfl ?_ ?_
 rotate_left
 ·intro w; go_simp; with_reducible rfl
 refine tk 2 (v := ?_) rfl ?_ ?_
 rotate_left
 ·intro w; go_simp; with_reducible rfl
 refine tk 3 (v := ?_) rfl ?_ ?_
 rotate_left
 ·intro w; go_simp; with_reducible rfl
 refine tk 4 (v := ?_) rfl ?_ ?_
 rotate_left
 ·intro w; go_simp; with_reducible rfl
 refine wpAny_ready (rs := [1, 9]) (by kernel_rfl) (by simp) ?_
 refine AllReady.cons rfl (fun K hK => ?_) ?_
 ·go_simp
  refine hK _ _ ?_
  clear hK K
  refine wpAny_ready (rs := [5, 9]) (by kernel_rfl) (by simp) ?_
  refine AllReady.cons rfl (fun K hK => ?_) ?_
  ·go_simp
   refine HA0.out.mono ?_
   rintro e w2 ⟨rfl, hb2⟩
   obtain ⟨W3, hW3, hX3, hB3, hs3⟩ := boxes1 w2 #[.slice none 0 0] 24
   have hb23 := hb2.trans (hB3.mono hb2.size)
   have hbx : W0.heap.size ≤ w2.heap.size := hb2.size
   have hBw2 : Below w.heap.size w W3 := HB0.out.trans (((Below.refl _ W0).drew.trans hb23).mono HB0.out.size)
   have hbox : w.heap.size ≤ w2.heap.size := by omega
   obtain ⟨V, hV⟩ : ∃ V, (W3.setCell ⟨w2.heap.size, 0, none⟩ (.slice none 0 0)) = V := ⟨_, rfl⟩
   have hXV : V.heap[w2.heap.size]? = some (.cells #[.slice none 0 0] 24 (0, 0)) := by rw [← hV]; exact (hSk hX3 (.slice none 0 0))
   have hOV : OnlyAt (w2.heap.size) W3 V := by rw [← hV]; exact ((OnlyAt.refl _ _).set _ _)
   have x0 : W3.cell? ⟨w2.heap.size, 0, none⟩ = some (.slice none 0 0) := cCc hX3 0
   have f0 : W3.frozen? ⟨w2.heap.size, 0, none⟩ = false := cFz hX3 0
   have y0 : V.cell? ⟨w2.heap.size, 0, none⟩ = some (.slice none 0 0) := cCc hXV 0
   have hBV : Below w.heap.size w V := by rw [← hV]; exact (hBw2.setCell (p := ⟨w2.heap.size, 0, none⟩) hbox _)
   have HE : Hid (Below w.heap.size w V) := hBV
   have HT := Lib.hid (told_no (.iface 144 (.agg #[.slice none 0 0])) V)
   clear hXV hOV hBV hX3
   have HW3 := Lib.hid hW3
   clear hb2 hb23 hBw2 hbx hbox hB3 hs3 hW3
   refine hK _ _ ?_
   clear hK K
   refine tk 6 (v := ?_) rfl ?_ ?_
   rotate_left
   ·intro w; go_simp; with_reducible rfl
   refine tk 7 (v := ?_) rfl ?_ ?_
   rotate_left
   ·intro w; go_simp; with_reducible rfl
   refine tk 8 (v := ?_) rfl ?_ ?_
   rotate_left
   ·intro w; go_simp; with_reducible rfl
   refine wpAny_ready (rs := [9]) (by kernel_rfl) (by simp) ?_
   refine AllReady.cons rfl (fun K hK => ?_) ?_
   ·go_simp
    rw [HW3.out]
    refine hK _ _ ?_
    clear hK K
    refine wpAny_ready (rs := [10]) (by kernel_rfl) (by simp) ?_
    refine AllReady.cons rfl (fun K hK => ?_) ?_
    ·go_simp
     refine hK _ _ ?_
     clear hK K
     refine tk 11 (v := ?_) rfl ?_ ?_
     rotate_left
     ·intro w; go_simp; with_reducible rfl
     refine wpAny_done (by kernel_rfl) ?_ _
     go_wp2_with fail
     refine HT.out.mono ?_
     rintro e w3 ⟨rfl, rfl⟩
     go_wp2_with fail
     rw [← HP.out]
     exact ⟨HE.out.alloc HE.out.size _, _, rfl, _, rfl, World.alloc_heap_new _ _⟩
    exact AllReady.nil
   exact AllReady.nil
  refine AllReady.cons rfl (fun K hK => ?_) ?_
  ·go_simp
   rw [HW1.out]
   refine hK _ _ ?_
   clear hK K
   refine wpAny_ready (rs := [5]) (by kernel_rfl) (by simp) ?_
   refine AllReady.cons rfl (fun K hK => ?_) ?_
   ·go_simp
    refine HA1.out.mono ?_
    rintro e w2 ⟨rfl, hb2⟩
    have hX2 := known hb2 (Nat.le_refl _) HX1.out
    have hb12 := HB1.out.trans (hb2.mono HB1.out.size)
    have hbox : w.heap.size ≤ w.heap.size + 1 := Nat.le_succ _
    have hBw2 := HB0.out.trans (hb12.mono HB0.out.size)
    obtain ⟨V, hV⟩ : ∃ V, (w2.setCell ⟨w.heap.size + 1, 0, none⟩ (.slice none 0 0)) = V := ⟨_, rfl⟩
    have hXV : V.heap[w.heap.size + 1]? = some (.cells #[.slice none 0 0] 24 (0, 0)) := by rw [← hV]; exact (hSk hX2 (.slice none 0 0))
    have hOV : OnlyAt (w.heap.size + 1) w2 V := by rw [← hV]; exact ((OnlyAt.refl _ _).set _ _)
    have x0 : w2.cell? ⟨w.heap.size + 1, 0, none⟩ = some (.slice none 0 0) := cCc hX2 0
    have f0 : w2.frozen? ⟨w.heap.size + 1, 0, none⟩ = false := cFz hX2 0
    have y0 : V.cell? ⟨w.heap.size + 1, 0, none⟩ = some (.slice none 0 0) := cCc hXV 0
    have hBV : Below w.heap.size w V := by rw [← hV]; exact (hBw2.setCell (p := ⟨w.heap.size + 1, 0, none⟩) hbox _)
    have HE : Hid (Below w.heap.size w V) := hBV
    have HT := Lib.hid (told_no (.iface 144 (.agg #[.slice none 0 0])) V)
    clear hXV hOV hBV hX2
    clear hb2 hb12 hBw2 hbox
    refine hK _ _ ?_
    clear hK K
    refine tk 6 (v := ?_) rfl ?_ ?_
    rotate_left
    ·intro w; go_simp; with_reducible rfl
    refine tk 7 (v := ?_) rfl ?_ ?_
    rotate_left
    ·intro w; go_simp; with_reducible rfl
    refine tk 8 (v := ?_) rfl ?_ ?_
    rotate_left
    ·intro w; go_simp; with_reducible rfl
    refine wpAny_ready (rs := [10]) (by kernel_rfl) (by simp) ?_
    refine AllReady.cons rfl (fun K hK => ?_) ?_
    ·go_simp
     refine hK _ _ ?_
     clear hK K
     refine tk 11 (v := ?_) rfl ?_ ?_
     rotate_left
     ·intro w; go_simp; with_reducible rfl
     refine wpAny_done (by kernel_rfl) ?_ _
     go_wp2_with fail
     refine HT.out.mono ?_
     rintro e w3 ⟨rfl, rfl⟩
     go_wp2_with fail
     rw [← HP.out]
     exact ⟨HE.out.alloc HE.out.size _, _, rfl, _, rfl, World.alloc_heap_new _ _⟩
    exact AllReady.nil
   exact AllReady.nil
  exact AllReady.nil
 refine AllReady.cons rfl (fun K hK => ?_) ?_
 ·go_simp
  rw [HW1.out]
  refine hK _ _ ?_
  clear hK K
  refine wpAny_ready (rs := [1]) (by kernel_rfl) (by simp) ?_
  refine AllReady.cons rfl (fun K hK => ?_) ?_
  ·go_simp
   refine hK _ _ ?_
   clear hK K
   refine wpAny_ready (rs := [5]) (by kernel_rfl) (by simp) ?_
   refine AllReady.cons rfl (fun K hK => ?_) ?_
   ·go_simp
    refine HA1.out.mono ?_
    rintro e w2 ⟨rfl, hb2⟩
    have hX2 := known hb2 (Nat.le_refl _) HX1.out
    have hb12 := HB1.out.trans (hb2.mono HB1.out.size)
    have hbox : w.heap.size ≤ w.heap.size + 1 := Nat.le_succ _
    have hBw2 := HB0.out.trans (hb12.mono HB0.out.size)
    obtain ⟨V, hV⟩ : ∃ V, (w2.setCell ⟨w.heap.size + 1, 0, none⟩ (.slice none 0 0)) = V := ⟨_, rfl⟩
    have hXV : V.heap[w.heap.size + 1]? = some (.cells #[.slice none 0 0] 24 (0, 0)) := by rw [← hV]; exact (hSk hX2 (.slice none 0 0))
    have hOV : OnlyAt (w.heap.size + 1) w2 V := by rw [← hV]; exact ((OnlyAt.refl _ _).set _ _)
    have x0 : w2.cell? ⟨w.heap.size + 1, 0, none⟩ = some (.slice none 0 0) := cCc hX2 0
    have f0 : w2.frozen? ⟨w.heap.size + 1, 0, none⟩ = false := cFz hX2 0
    have y0 : V.cell? ⟨w.heap.size + 1, 0, none⟩ = some (.slice none 0 0) := cCc hXV 0
    have hBV : Below w.heap.size w V := by rw [← hV]; exact (hBw2.setCell (p := ⟨w.heap.size + 1, 0, none⟩) hbox _)
    have HE : Hid (Below w.heap.size w V) := hBV
    have HT := Lib.hid (told_no (.iface 144 (.agg #[.slice none 0 0])) V)
    clear hXV hOV hBV hX2
    clear hb2 hb12 hBw2 hbox
    refine hK _ _ ?_
    clear hK K
    refine tk 6 (v := ?_) rfl ?_ ?_
    rotate_left
    ·intro w; go_simp; with_reducible rfl
    refine tk 7 (v := ?_) rfl ?_ ?_
    rotate_left
    ·intro w; go_simp; with_reducible rfl
    refine tk 8 (v := ?_) rfl ?_ ?_
    rotate_left
    ·intro w; go_simp; with_reducible rfl
    refine wpAny_ready (rs := [10]) (by kernel_rfl) (by simp) ?_
    refine AllReady.cons rfl (fun K hK => ?_) ?_
    ·go_simp
     refine hK _ _ ?_
     clear hK K
     refine tk 11 (v := ?_) rfl ?_ ?_
     rotate_left
     ·intro w; go_simp; with_reducible rfl
     refine wpAny_done (by kernel_rfl) ?_ _
     go_wp2_with fail
     refine HT.out.mono ?_
     rintro e w3 ⟨rfl, rfl⟩
     go_wp2_with fail
     rw [← HP.out]
     exact ⟨HE.out.alloc HE.out.size _, _, rfl, _, rfl, World.alloc_heap_new _ _⟩
    exact AllReady.nil
   exact AllReady.nil
  exact AllReady.nil
 exact AllReady.nil
set_option maxRecDepth 100000 in
set_option maxHeartbeats 2000000 in
theorem mrg_reg (b : Nat) (r r2 : List Nat) (s s2 : ByteArray) (w : World) (h1 : 3 ≤ b) (h2 : b ≤ 8) (hl : r.length = 2 ^ b) (hr : ∀ i, r.getD i 0 ≤ 65 - b) (hl2 : r2.length = 2 ^ b) (hr2 : ∀ i, r2.getD i 0 ≤ 65 - b) (hs1 : s = hlStr r) (hs2 : s2 = hlStr r2) :
  Calls Tryz.prog 164 #[.agg #[.int .i64 b, .string s], .iface 147 (.agg #[.int .i64 b, .string s2])] w (BodyPost (some (Bd.reg b (hlMax r r2))) w) := by
 obtain ⟨W0, hW0, hXb, hB0, hs0⟩ := boxes1 w #[.int .i64 b, .string s] 147
 have hXd : W0.drew.heap[w.heap.size]? = some (.cells #[.int .i64 b, .string s] 147 (0, 0)) := hXb
 obtain ⟨c0, c1⟩ := cl2 hXd
 have HA : Hid (∀ W, Below W0.heap.size W0 W → Calls Tryz.prog 168 #[.agg #[.int .i64 b, .string s], .agg #[.int .i64 b, .string s2]] W fun e w' => ∃ s3, e = .returned (.tuple #[.agg #[.int .i64 b, .string s3], .int .i64 0]) ∧ BdAt w' (.iface 147 (.agg #[.int .i64 b, .string s3])) (Bd.reg b (hlMax r r2)) ∧ Below W.heap.size W w') := by
  intro W hB
  have h := hMerge_any b r r2 W h1 h2 hl hr hl2 hr2
  rw [← hs1, ← hs2] at h
  exact h.mono fun e w' ⟨e1, hb⟩ => ⟨_, e1, rfl, hb⟩
 have hTA : ∀ w, (Instr.typeAssert (.iface 147 (.agg #[.int .i64 b, .string s2])) 58 147 false).run Tryz.prog w = .ok (.agg #[.int .i64 b, .string s2]) w := fun w => by kernel_rfl
 have hFl : ∀ w, (Instr.field 147 (.agg #[.int .i64 b, .string s2]) 0).run Tryz.prog w = .ok (.agg #[.int .i64 b, .string s2]) w := fun w => by kernel_rfl
 obtain ⟨Wa, hWa, hXa, hBa, hsa⟩ := boxes1 W0 #[.int .i64 0, .string ⟨#[]⟩] 26
 obtain ⟨W1, hW1, hX1, hB1⟩ : ∃ W1, (W0.alloc (.cells #[.int .i64 0, .string ⟨#[]⟩] 26)).drew = W1 ∧ W1.heap[W0.heap.size]? = some (.cells #[.int .i64 0, .string ⟨#[]⟩] 26 (0, 0)) ∧ Below W0.heap.size W0 W1 := ⟨_, rfl, by rw [hWa]; exact hXa, by rw [hWa]; exact hBa.drew⟩
 have hX1b : W1.heap[w.heap.size]? = some (.cells #[.int .i64 b, .string s] 147 (0, 0)) := known hB1 (Nat.le_refl _) hXb
 rw [hs0] at hX1
 obtain ⟨k0, k1⟩ := cl2 hX1b
 have HW1 := Lib.hid hW1
 have HX1 := Lib.hid hX1
 have HB0 := Lib.hid hB0
 have HB1 := Lib.hid hB1
 have HA1 := Lib.hid (HA.out W1 HB1.out)
 have HA0 := Lib.hid (HA.out W0.drew (Below.refl _ W0).drew)
 have hs0' : w.heap.size + 1 ≤ W0.heap.size := by omega
 obtain ⟨P, hP⟩ : ∃ P, BodyPost (some (Bd.reg b (hlMax r r2))) w = P := ⟨_, rfl⟩
 have HP := Lib.hid hP
 rw [hP]
 clear hP HA hXb hB0 hXd hW1 hX1 hX1b hB1 hWa hXa hBa hsa h1 h2 hl hr hl2 hr2 hs1 hs2
 go_enter Tryz.func164, Tryz.ntmps164
 go_wp2_with fail
 refine wp_region_any (by kernel_rfl) ?_
 change wpAny _ _ _ _ _ _ _ (World.drew _)
 refine tk 0 (v := ?_) rfl ?_ ?_
 rotate_left
 ·intro w; go_simp; with_reducible rfl
 refine tk 2 (v := ?_) rfl ?_ ?_
 rotate_left
 ·intro w; go_simp; with_reducible rfl
 refine tk 3 (v := ?_) rfl ?_ ?_
 rotate_left
 ·intro w; go_simp; with_reducible rfl
 refine tk 4 (v := ?_) rfl ?_ ?_
 rotate_left
 ·intro w; go_simp; with_reducible rfl
 refine wpAny_ready (rs := [1, 9]) (by kernel_rfl) (by simp) ?_
 refine AllReady.cons rfl (fun K hK => ?_) ?_
 ·go_simp
  refine hK _ _ ?_
  clear hK K
  refine wpAny_ready (rs := [5, 9]) (by kernel_rfl) (by simp) ?_
  refine AllReady.cons rfl (fun K hK => ?_) ?_
  ·go_simp
   refine HA0.out.mono ?_
   rintro e w2 ⟨s3, rfl, hbd, hb2⟩
   obtain ⟨W3, hW3, hX3, hB3, hs3⟩ := boxes1 w2 #[.int .i64 0, .string ⟨#[]⟩] 26
   have hb23 := hb2.trans (hB3.mono hb2.size)
   have hbx : W0.heap.size ≤ w2.heap.size := hb2.size
   have hBw2 : Below w.heap.size w W3 := HB0.out.trans (((Below.refl _ W0).drew.trans hb23).mono HB0.out.size)
   have hbox : w.heap.size ≤ w2.heap.size := by omega
   replace hbd := hbd.go hB3
   obtain ⟨V, hV⟩ : ∃ V, ((W3.setCell ⟨w2.heap.size, 0, none⟩ (.int .i64 b)).setCell ⟨w2.heap.size, 1, none⟩ (.string s3)) = V := ⟨_, rfl⟩
   have hXV : V.heap[w2.heap.size]? = some (.cells #[.int .i64 b, .string s3] 26 (0, 0)) := by rw [← hV]; exact (hSk (hSk hX3 (.int .i64 b)) (.string s3))
   have hOV : OnlyAt (w2.heap.size) W3 V := by rw [← hV]; exact (((OnlyAt.refl _ _).set _ _).set _ _)
   obtain ⟨x0, x1⟩ := cl2 hX3
   obtain ⟨f0, f1⟩ := cz2 hX3
   obtain ⟨y0, y1⟩ := cl2 hXV
   have hBV : Below w.heap.size w V := by rw [← hV]; exact ((hBw2.setCell (p := ⟨w2.heap.size, 0, none⟩) hbox _).setCell (p := ⟨w2.heap.size, 1, none⟩) hbox _)
   have HE : Hid (BdAt V (.iface 147 (.agg #[.int .i64 b, .string s3])) (Bd.reg b (hlMax r r2)) ∧ Below w.heap.size w V) := ⟨BdAt.apart hbd hX3 (fun i u h => by rcases i with _ | _ | i <;> simp at h) hOV, hBV⟩
   have HT := Lib.hid (told_ok (.iface 147 (.agg #[.int .i64 b, .string s3])) V)
   clear hXV hOV hBV hX3 hbd
   have HW3 := Lib.hid hW3
   clear hb2 hb23 hBw2 hbx hbox hB3 hs3 hW3
   refine hK _ _ ?_
   clear hK K
   refine tk 6 (v := ?_) rfl ?_ ?_
   rotate_left
   ·intro w; go_simp; with_reducible rfl
   refine tk 7 (v := ?_) rfl ?_ ?_
   rotate_left
   ·intro w; go_simp; with_reducible rfl
   refine tk 8 (v := ?_) rfl ?_ ?_
   rotate_left
   ·intro w; go_simp; with_reducible rfl
   refine wpAny_ready (rs := [9]) (by kernel_rfl) (by simp) ?_
   refine AllReady.cons rfl (fun K hK => ?_) ?_
   ·go_simp
    rw [HW3.out]
    refine hK _ _ ?_
    clear hK K
    refine wpAny_ready (rs := [10]) (by kernel_rfl) (by simp) ?_
    refine AllReady.cons rfl (fun K hK => ?_) ?_
    ·go_simp
     refine hK _ _ ?_
     clear hK K
     refine tk 11 (v := ?_) rfl ?_ ?_
     rotate_left
     ·intro w; go_simp; with_reducible rfl
     refine wpAny_done (by kernel_rfl) ?_ _
     go_wp2_with fail
     refine HT.out.mono ?_
     rintro e w3 ⟨rfl, rfl⟩
     go_wp2_with fail
     rw [← HP.out]
     exact ⟨HE.out.2, _, rfl, HE.out.1⟩
    exact AllReady.nil
   exact AllReady.nil
  refine AllReady.cons rfl (fun K hK => ?_) ?_
  ·go_simp
   rw [HW1.out]
   refine hK _ _ ?_
   clear hK K
   refine wpAny_ready (rs := [5]) (by kernel_rfl) (by simp) ?_
   refine AllReady.cons rfl (fun K hK => ?_) ?_
   ·go_simp
    refine HA1.out.mono ?_
    rintro e w2 ⟨s3, rfl, hbd, hb2⟩
    have hX2 := known hb2 (Nat.le_refl _) HX1.out
    have hb12 := HB1.out.trans (hb2.mono HB1.out.size)
    have hbox : w.heap.size ≤ w.heap.size + 1 := Nat.le_succ _
    have hBw2 := HB0.out.trans (hb12.mono HB0.out.size)
    obtain ⟨V, hV⟩ : ∃ V, ((w2.setCell ⟨w.heap.size + 1, 0, none⟩ (.int .i64 b)).setCell ⟨w.heap.size + 1, 1, none⟩ (.string s3)) = V := ⟨_, rfl⟩
    have hXV : V.heap[w.heap.size + 1]? = some (.cells #[.int .i64 b, .string s3] 26 (0, 0)) := by rw [← hV]; exact (hSk (hSk hX2 (.int .i64 b)) (.string s3))
    have hOV : OnlyAt (w.heap.size + 1) w2 V := by rw [← hV]; exact (((OnlyAt.refl _ _).set _ _).set _ _)
    obtain ⟨x0, x1⟩ := cl2 hX2
    obtain ⟨f0, f1⟩ := cz2 hX2
    obtain ⟨y0, y1⟩ := cl2 hXV
    have hBV : Below w.heap.size w V := by rw [← hV]; exact ((hBw2.setCell (p := ⟨w.heap.size + 1, 0, none⟩) hbox _).setCell (p := ⟨w.heap.size + 1, 1, none⟩) hbox _)
    have HE : Hid (BdAt V (.iface 147 (.agg #[.int .i64 b, .string s3])) (Bd.reg b (hlMax r r2)) ∧ Below w.heap.size w V) := ⟨BdAt.apart hbd hX2 (fun i u h => by rcases i with _ | _ | i <;> simp at h) hOV, hBV⟩
    have HT := Lib.hid (told_ok (.iface 147 (.agg #[.int .i64 b, .string s3])) V)
    clear hXV hOV hBV hX2 hbd
    clear hb2 hb12 hBw2 hbox
    refine hK _ _ ?_
    clear hK K
    refine tk 6 (v := ?_) rfl ?_ ?_
    rotate_left
    ·intro w; go_simp; with_reducible rfl
    refine tk 7 (v := ?_) rfl ?_ ?_
    rotate_left
    ·intro w; go_simp; with_reducible rfl
    refine tk 8 (v := ?_) rfl ?_ ?_
    rotate_left
    ·intro w; go_simp; with_reducible rfl
    refine wpAny_ready (rs := [10]) (by kernel_rfl) (by simp) ?_
    refine AllReady.cons rfl (fun K hK => ?_) ?_
    ·go_simp
     refine hK _ _ ?_
     clear hK K
     refine tk 11 (v := ?_) rfl ?_ ?_
     rotate_left
     ·intro w; go_simp; with_reducible rfl
     refine wpAny_done (by kernel_rfl) ?_ _
     go_wp2_with fail
     refine HT.out.mono ?_
     rintro e w3 ⟨rfl, rfl⟩
     go_wp2_with fail
     rw [← HP.out]
     exact ⟨HE.out.2, _, rfl, HE.out.1⟩
    exact AllReady.nil
   exact AllReady.nil
  exact AllReady.nil
 refine AllReady.cons rfl (fun K hK => ?_) ?_
 ·go_simp
  rw [HW1.out]
  refine hK _ _ ?_
  clear hK K
  refine wpAny_ready (rs := [1]) (by kernel_rfl) (by simp) ?_
  refine AllReady.cons rfl (fun K hK => ?_) ?_
  ·go_simp
   refine hK _ _ ?_
   clear hK K
   refine wpAny_ready (rs := [5]) (by kernel_rfl) (by simp) ?_
   refine AllReady.cons rfl (fun K hK => ?_) ?_
   ·go_simp
    refine HA1.out.mono ?_
    rintro e w2 ⟨s3, rfl, hbd, hb2⟩
    have hX2 := known hb2 (Nat.le_refl _) HX1.out
    have hb12 := HB1.out.trans (hb2.mono HB1.out.size)
    have hbox : w.heap.size ≤ w.heap.size + 1 := Nat.le_succ _
    have hBw2 := HB0.out.trans (hb12.mono HB0.out.size)
    obtain ⟨V, hV⟩ : ∃ V, ((w2.setCell ⟨w.heap.size + 1, 0, none⟩ (.int .i64 b)).setCell ⟨w.heap.size + 1, 1, none⟩ (.string s3)) = V := ⟨_, rfl⟩
    have hXV : V.heap[w.heap.size + 1]? = some (.cells #[.int .i64 b, .string s3] 26 (0, 0)) := by rw [← hV]; exact (hSk (hSk hX2 (.int .i64 b)) (.string s3))
    have hOV : OnlyAt (w.heap.size + 1) w2 V := by rw [← hV]; exact (((OnlyAt.refl _ _).set _ _).set _ _)
    obtain ⟨x0, x1⟩ := cl2 hX2
    obtain ⟨f0, f1⟩ := cz2 hX2
    obtain ⟨y0, y1⟩ := cl2 hXV
    have hBV : Below w.heap.size w V := by rw [← hV]; exact ((hBw2.setCell (p := ⟨w.heap.size + 1, 0, none⟩) hbox _).setCell (p := ⟨w.heap.size + 1, 1, none⟩) hbox _)
    have HE : Hid (BdAt V (.iface 147 (.agg #[.int .i64 b, .string s3])) (Bd.reg b (hlMax r r2)) ∧ Below w.heap.size w V) := ⟨BdAt.apart hbd hX2 (fun i u h => by rcases i with _ | _ | i <;> simp at h) hOV, hBV⟩
    have HT := Lib.hid (told_ok (.iface 147 (.agg #[.int .i64 b, .string s3])) V)
    clear hXV hOV hBV hX2 hbd
    clear hb2 hb12 hBw2 hbox
    refine hK _ _ ?_
    clear hK K
    refine tk 6 (v := ?_) rfl ?_ ?_
    rotate_left
    ·intro w; go_simp; with_reducible rfl
    refine tk 7 (v := ?_) rfl ?_ ?_
    rotate_left
    ·intro w; go_simp; with_reducible rfl
    refine tk 8 (v := ?_) rfl ?_ ?_
    rotate_left
    ·intro w; go_simp; with_reducible rfl
    refine wpAny_ready (rs := [10]) (by kernel_rfl) (by simp) ?_
    refine AllReady.cons rfl (fun K hK => ?_) ?_
    ·go_simp
     refine hK _ _ ?_
     clear hK K
     refine tk 11 (v := ?_) rfl ?_ ?_
     rotate_left
     ·intro w; go_simp; with_reducible rfl
     refine wpAny_done (by kernel_rfl) ?_ _
     go_wp2_with fail
     refine HT.out.mono ?_
     rintro e w3 ⟨rfl, rfl⟩
     go_wp2_with fail
     rw [← HP.out]
     exact ⟨HE.out.2, _, rfl, HE.out.1⟩
    exact AllReady.nil
   exact AllReady.nil
  exact AllReady.nil
 exact AllReady.nil
set_option maxRecDepth 100000 in
set_option maxHeartbeats 2000000 in
theorem mrg_cnt (c : Nat) (l m : List Int) (a : Option Addr) (len cap : Nat) (a2 : Option Addr) (len2 cap2 : Nat) (w : World) (hc : c = 4 ∨ c = 8 ∨ c = 16 ∨ c = 32) (hS : SlC encU 1 w.heap.size w a len cap l) (hl : l.length = c + c) (hlu : U64s l) (hM : SlC encU 1 w.heap.size w a2 len2 cap2 m) (hm : m.length = c + c) (hmu : U64s m) :
  Calls Tryz.prog 174 #[.agg #[.int .i64 2, .int .i64 c, .slice a len cap], .iface 148 (.agg #[.int .i64 2, .int .i64 c, .slice a2 len2 cap2])] w (BodyPost (some (Bd.cnt c (cmMrg l m))) w) := by
 obtain ⟨W0, hW0, hXb, hB0, hs0⟩ := boxes1 w #[.int .i64 2, .int .i64 c, .slice a len cap] 148
 have hXd : W0.drew.heap[w.heap.size]? = some (.cells #[.int .i64 2, .int .i64 c, .slice a len cap] 148 (0, 0)) := hXb
 obtain ⟨c0, c1, c2⟩ := cl3 hXd
 have HA : Hid (∀ W, Below W0.heap.size W0 W → Calls Tryz.prog 178 #[.agg #[.int .i64 2, .int .i64 c, .slice a len cap], .agg #[.int .i64 2, .int .i64 c, .slice a2 len2 cap2]] W fun e w' => ∃ g, e = .returned (.tuple #[.agg #[.int .i64 2, .int .i64 c, .slice (some ⟨g, 0, none⟩) (2 * c) (2 * c)], .int .i64 0]) ∧ BdAt w' (.iface 148 (.agg #[.int .i64 2, .int .i64 c, .slice (some ⟨g, 0, none⟩) (2 * c) (2 * c)])) (Bd.cnt c (cmMrg l m)) ∧ Below W.heap.size W w') := by
  intro W hB
  have h := cMerge_any c l m a len cap a2 len2 cap2 W (shape_any c hc) (by omega) ((hS.1.below (hB0.trans (hB.mono hB0.size))).mono (hB0.trans (hB.mono hB0.size)).size) (by omega) hlu (fun e => by have := hS.2.2.2.1 e; have := hS.2.1; omega) ((hM.1.below (hB0.trans (hB.mono hB0.size))).mono (hB0.trans (hB.mono hB0.size)).size) (by omega) hmu
  exact h.mono fun e w' ⟨g, e1, hN, _, hb⟩ => ⟨g, e1, ⟨_, _, _, rfl, nums_slC hN (by rw [cmMrg_len]; omega) (by unfold maxLen; omega)⟩, hb⟩
 have hTA : ∀ w, (Instr.typeAssert (.iface 148 (.agg #[.int .i64 2, .int .i64 c, .slice a2 len2 cap2])) 58 148 false).run Tryz.prog w = .ok (.agg #[.int .i64 2, .int .i64 c, .slice a2 len2 cap2]) w := fun w => by kernel_rfl
 have hFl : ∀ w, (Instr.field 148 (.agg #[.int .i64 2, .int .i64 c, .slice a2 len2 cap2]) 0).run Tryz.prog w = .ok (.agg #[.int .i64 2, .int .i64 c, .slice a2 len2 cap2]) w := fun w => by kernel_rfl
 obtain ⟨Wa, hWa, hXa, hBa, hsa⟩ := boxes1 W0 #[.int .i64 0, .int .i64 0, .slice none 0 0] 28
 obtain ⟨W1, hW1, hX1, hB1⟩ : ∃ W1, (W0.alloc (.cells #[.int .i64 0, .int .i64 0, .slice none 0 0] 28)).drew = W1 ∧ W1.heap[W0.heap.size]? = some (.cells #[.int .i64 0, .int .i64 0, .slice none 0 0] 28 (0, 0)) ∧ Below W0.heap.size W0 W1 := ⟨_, rfl, by rw [hWa]; exact hXa, by rw [hWa]; exact hBa.drew⟩
 have hX1b : W1.heap[w.heap.size]? = some (.cells #[.int .i64 2, .int .i64 c, .slice a len cap] 148 (0, 0)) := known hB1 (Nat.le_refl _) hXb
 rw [hs0] at hX1
 obtain ⟨k0, k1, k2⟩ := cl3 hX1b
 have HW1 := Lib.hid hW1
 have HX1 := Lib.hid hX1
 have HB0 := Lib.hid hB0
 have HB1 := Lib.hid hB1
 have HA1 := Lib.hid (HA.out W1 HB1.out)
 have HA0 := Lib.hid (HA.out W0.drew (Below.refl _ W0).drew)
 have hs0' : w.heap.size + 1 ≤ W0.heap.size := by omega
 obtain ⟨P, hP⟩ : ∃ P, BodyPost (some (Bd.cnt c (cmMrg l m))) w = P := ⟨_, rfl⟩
 have HP := Lib.hid hP
 rw [hP]
 clear hP HA hXb hB0 hXd hW1 hX1 hX1b hB1 hWa hXa hBa hsa hc hS hl hlu hM hm hmu
 go_enter Tryz.func174, Tryz.ntmps174
 go_wp2_with fail
 refine wp_region_any (by kernel_rfl) ?_
 change wpAny _ _ _ _ _ _ _ (World.drew _)
 refine tk 0 (v := ?_) rfl ?_ ?_
 rotate_left
 ·intro w; go_simp; with_reducible rfl
 refine tk 2 (v := ?_) rfl ?_ ?_
 rotate_left
 ·intro w; go_simp; with_reducible rfl
 refine tk 3 (v := ?_) rfl ?_ ?_
 rotate_left
 ·intro w; go_simp; with_reducible rfl
 refine tk 4 (v := ?_) rfl ?_ ?_
 rotate_left
 ·intro w; go_simp; with_reducible rfl
 refine wpAny_ready (rs := [1, 9]) (by kernel_rfl) (by simp) ?_
 refine AllReady.cons rfl (fun K hK => ?_) ?_
 ·go_simp
  refine hK _ _ ?_
  clear hK K
  refine wpAny_ready (rs := [5, 9]) (by kernel_rfl) (by simp) ?_
  refine AllReady.cons rfl (fun K hK => ?_) ?_
  ·go_simp
   refine HA0.out.mono ?_
   rintro e w2 ⟨g, rfl, hbd, hb2⟩
   obtain ⟨W3, hW3, hX3, hB3, hs3⟩ := boxes1 w2 #[.int .i64 0, .int .i64 0, .slice none 0 0] 28
   have hb23 := hb2.trans (hB3.mono hb2.size)
   have hbx : W0.heap.size ≤ w2.heap.size := hb2.size
   have hBw2 : Below w.heap.size w W3 := HB0.out.trans (((Below.refl _ W0).drew.trans hb23).mono HB0.out.size)
   have hbox : w.heap.size ≤ w2.heap.size := by omega
   replace hbd := hbd.go hB3
   obtain ⟨V, hV⟩ : ∃ V, (((W3.setCell ⟨w2.heap.size, 0, none⟩ (.int .i64 2)).setCell ⟨w2.heap.size, 1, none⟩ (.int .i64 c)).setCell ⟨w2.heap.size, 2, none⟩ (.slice (some ⟨g, 0, none⟩) (2 * c) (2 * c))) = V := ⟨_, rfl⟩
   have hXV : V.heap[w2.heap.size]? = some (.cells #[.int .i64 2, .int .i64 c, .slice (some ⟨g, 0, none⟩) (2 * c) (2 * c)] 28 (0, 0)) := by rw [← hV]; exact (hSk (hSk (hSk hX3 (.int .i64 2)) (.int .i64 c)) (.slice (some ⟨g, 0, none⟩) (2 * c) (2 * c)))
   have hOV : OnlyAt (w2.heap.size) W3 V := by rw [← hV]; exact ((((OnlyAt.refl _ _).set _ _).set _ _).set _ _)
   obtain ⟨x0, x1, x2⟩ := cl3 hX3
   obtain ⟨f0, f1, f2⟩ := cz3 hX3
   obtain ⟨y0, y1, y2⟩ := cl3 hXV
   have hBV : Below w.heap.size w V := by rw [← hV]; exact (((hBw2.setCell (p := ⟨w2.heap.size, 0, none⟩) hbox _).setCell (p := ⟨w2.heap.size, 1, none⟩) hbox _).setCell (p := ⟨w2.heap.size, 2, none⟩) hbox _)
   have HE : Hid (BdAt V (.iface 148 (.agg #[.int .i64 2, .int .i64 c, .slice (some ⟨g, 0, none⟩) (2 * c) (2 * c)])) (Bd.cnt c (cmMrg l m)) ∧ Below w.heap.size w V) := ⟨BdAt.apart hbd hX3 (fun i u h => by rcases i with _ | _ | _ | i <;> simp at h) hOV, hBV⟩
   have HT := Lib.hid (told_ok (.iface 148 (.agg #[.int .i64 2, .int .i64 c, .slice (some ⟨g, 0, none⟩) (2 * c) (2 * c)])) V)
   clear hXV hOV hBV hX3 hbd
   have HW3 := Lib.hid hW3
   clear hb2 hb23 hBw2 hbx hbox hB3 hs3 hW3
   refine hK _ _ ?_
   clear hK K
   refine tk 6 (v := ?_) rfl ?_ ?_
   rotate_left
   ·intro w; go_simp; with_reducible rfl
   refine tk 7 (v := ?_) rfl ?_ ?_
   rotate_left
   ·intro w; go_simp; with_reducible rfl
   refine tk 8 (v := ?_) rfl ?_ ?_
   rotate_left
   ·intro w; go_simp; with_reducible rfl
   refine wpAny_ready (rs := [9]) (by kernel_rfl) (by simp) ?_
   refine AllReady.cons rfl (fun K hK => ?_) ?_
   ·go_simp
    rw [HW3.out]
    refine hK _ _ ?_
    clear hK K
    refine wpAny_ready (rs := [10]) (by kernel_rfl) (by simp) ?_
    refine AllReady.cons rfl (fun K hK => ?_) ?_
    ·go_simp
     refine hK _ _ ?_
     clear hK K
     refine tk 11 (v := ?_) rfl ?_ ?_
     rotate_left
     ·intro w; go_simp; with_reducible rfl
     refine wpAny_done (by kernel_rfl) ?_ _
     go_wp2_with fail
     refine HT.out.mono ?_
     rintro e w3 ⟨rfl, rfl⟩
     go_wp2_with fail
     rw [← HP.out]
     exact ⟨HE.out.2, _, rfl, HE.out.1⟩
    exact AllReady.nil
   exact AllReady.nil
  refine AllReady.cons rfl (fun K hK => ?_) ?_
  ·go_simp
   rw [HW1.out]
   refine hK _ _ ?_
   clear hK K
   refine wpAny_ready (rs := [5]) (by kernel_rfl) (by simp) ?_
   refine AllReady.cons rfl (fun K hK => ?_) ?_
   ·go_simp
    refine HA1.out.mono ?_
    rintro e w2 ⟨g, rfl, hbd, hb2⟩
    have hX2 := known hb2 (Nat.le_refl _) HX1.out
    have hb12 := HB1.out.trans (hb2.mono HB1.out.size)
    have hbox : w.heap.size ≤ w.heap.size + 1 := Nat.le_succ _
    have hBw2 := HB0.out.trans (hb12.mono HB0.out.size)
    obtain ⟨V, hV⟩ : ∃ V, (((w2.setCell ⟨w.heap.size + 1, 0, none⟩ (.int .i64 2)).setCell ⟨w.heap.size + 1, 1, none⟩ (.int .i64 c)).setCell ⟨w.heap.size + 1, 2, none⟩ (.slice (some ⟨g, 0, none⟩) (2 * c) (2 * c))) = V := ⟨_, rfl⟩
    have hXV : V.heap[w.heap.size + 1]? = some (.cells #[.int .i64 2, .int .i64 c, .slice (some ⟨g, 0, none⟩) (2 * c) (2 * c)] 28 (0, 0)) := by rw [← hV]; exact (hSk (hSk (hSk hX2 (.int .i64 2)) (.int .i64 c)) (.slice (some ⟨g, 0, none⟩) (2 * c) (2 * c)))
    have hOV : OnlyAt (w.heap.size + 1) w2 V := by rw [← hV]; exact ((((OnlyAt.refl _ _).set _ _).set _ _).set _ _)
    obtain ⟨x0, x1, x2⟩ := cl3 hX2
    obtain ⟨f0, f1, f2⟩ := cz3 hX2
    obtain ⟨y0, y1, y2⟩ := cl3 hXV
    have hBV : Below w.heap.size w V := by rw [← hV]; exact (((hBw2.setCell (p := ⟨w.heap.size + 1, 0, none⟩) hbox _).setCell (p := ⟨w.heap.size + 1, 1, none⟩) hbox _).setCell (p := ⟨w.heap.size + 1, 2, none⟩) hbox _)
    have HE : Hid (BdAt V (.iface 148 (.agg #[.int .i64 2, .int .i64 c, .slice (some ⟨g, 0, none⟩) (2 * c) (2 * c)])) (Bd.cnt c (cmMrg l m)) ∧ Below w.heap.size w V) := ⟨BdAt.apart hbd hX2 (fun i u h => by rcases i with _ | _ | _ | i <;> simp at h) hOV, hBV⟩
    have HT := Lib.hid (told_ok (.iface 148 (.agg #[.int .i64 2, .int .i64 c, .slice (some ⟨g, 0, none⟩) (2 * c) (2 * c)])) V)
    clear hXV hOV hBV hX2 hbd
    clear hb2 hb12 hBw2 hbox
    refine hK _ _ ?_
    clear hK K
    refine tk 6 (v := ?_) rfl ?_ ?_
    rotate_left
    ·intro w; go_simp; with_reducible rfl
    refine tk 7 (v := ?_) rfl ?_ ?_
    rotate_left
    ·intro w; go_simp; with_reducible rfl
    refine tk 8 (v := ?_) rfl ?_ ?_
    rotate_left
    ·intro w; go_simp; with_reducible rfl
    refine wpAny_ready (rs := [10]) (by kernel_rfl) (by simp) ?_
    refine AllReady.cons rfl (fun K hK => ?_) ?_
    ·go_simp
     refine hK _ _ ?_
     clear hK K
     refine tk 11 (v := ?_) rfl ?_ ?_
     rotate_left
     ·intro w; go_simp; with_reducible rfl
     refine wpAny_done (by kernel_rfl) ?_ _
     go_wp2_with fail
     refine HT.out.mono ?_
     rintro e w3 ⟨rfl, rfl⟩
     go_wp2_with fail
     rw [← HP.out]
     exact ⟨HE.out.2, _, rfl, HE.out.1⟩
    exact AllReady.nil
   exact AllReady.nil
  exact AllReady.nil
 refine AllReady.cons rfl (fun K hK => ?_) ?_
 ·go_simp
  rw [HW1.out]
  refine hK _ _ ?_
  clear hK K
  refine wpAny_ready (rs := [1]) (by kernel_rfl) (by simp) ?_
  refine AllReady.cons rfl (fun K hK => ?_) ?_
  ·go_simp
   refine hK _ _ ?_
   clear hK K
   refine wpAny_ready (rs := [5]) (by kernel_rfl) (by simp) ?_
   refine AllReady.cons rfl (fun K hK => ?_) ?_
   ·go_simp
    refine HA1.out.mono ?_
    rintro e w2 ⟨g, rfl, hbd, hb2⟩
    have hX2 := known hb2 (Nat.le_refl _) HX1.out
    have hb12 := HB1.out.trans (hb2.mono HB1.out.size)
    have hbox : w.heap.size ≤ w.heap.size + 1 := Nat.le_succ _
    have hBw2 := HB0.out.trans (hb12.mono HB0.out.size)
    obtain ⟨V, hV⟩ : ∃ V, (((w2.setCell ⟨w.heap.size + 1, 0, none⟩ (.int .i64 2)).setCell ⟨w.heap.size + 1, 1, none⟩ (.int .i64 c)).setCell ⟨w.heap.size + 1, 2, none⟩ (.slice (some ⟨g, 0, none⟩) (2 * c) (2 * c))) = V := ⟨_, rfl⟩
    have hXV : V.heap[w.heap.size + 1]? = some (.cells #[.int .i64 2, .int .i64 c, .slice (some ⟨g, 0, none⟩) (2 * c) (2 * c)] 28 (0, 0)) := by rw [← hV]; exact (hSk (hSk (hSk hX2 (.int .i64 2)) (.int .i64 c)) (.slice (some ⟨g, 0, none⟩) (2 * c) (2 * c)))
    have hOV : OnlyAt (w.heap.size + 1) w2 V := by rw [← hV]; exact ((((OnlyAt.refl _ _).set _ _).set _ _).set _ _)
    obtain ⟨x0, x1, x2⟩ := cl3 hX2
    obtain ⟨f0, f1, f2⟩ := cz3 hX2
    obtain ⟨y0, y1, y2⟩ := cl3 hXV
    have hBV : Below w.heap.size w V := by rw [← hV]; exact (((hBw2.setCell (p := ⟨w.heap.size + 1, 0, none⟩) hbox _).setCell (p := ⟨w.heap.size + 1, 1, none⟩) hbox _).setCell (p := ⟨w.heap.size + 1, 2, none⟩) hbox _)
    have HE : Hid (BdAt V (.iface 148 (.agg #[.int .i64 2, .int .i64 c, .slice (some ⟨g, 0, none⟩) (2 * c) (2 * c)])) (Bd.cnt c (cmMrg l m)) ∧ Below w.heap.size w V) := ⟨BdAt.apart hbd hX2 (fun i u h => by rcases i with _ | _ | _ | i <;> simp at h) hOV, hBV⟩
    have HT := Lib.hid (told_ok (.iface 148 (.agg #[.int .i64 2, .int .i64 c, .slice (some ⟨g, 0, none⟩) (2 * c) (2 * c)])) V)
    clear hXV hOV hBV hX2 hbd
    clear hb2 hb12 hBw2 hbox
    refine hK _ _ ?_
    clear hK K
    refine tk 6 (v := ?_) rfl ?_ ?_
    rotate_left
    ·intro w; go_simp; with_reducible rfl
    refine tk 7 (v := ?_) rfl ?_ ?_
    rotate_left
    ·intro w; go_simp; with_reducible rfl
    refine tk 8 (v := ?_) rfl ?_ ?_
    rotate_left
    ·intro w; go_simp; with_reducible rfl
    refine wpAny_ready (rs := [10]) (by kernel_rfl) (by simp) ?_
    refine AllReady.cons rfl (fun K hK => ?_) ?_
    ·go_simp
     refine hK _ _ ?_
     clear hK K
     refine tk 11 (v := ?_) rfl ?_ ?_
     rotate_left
     ·intro w; go_simp; with_reducible rfl
     refine wpAny_done (by kernel_rfl) ?_ _
     go_wp2_with fail
     refine HT.out.mono ?_
     rintro e w3 ⟨rfl, rfl⟩
     go_wp2_with fail
     rw [← HP.out]
     exact ⟨HE.out.2, _, rfl, HE.out.1⟩
    exact AllReady.nil
   exact AllReady.nil
  exact AllReady.nil
 exact AllReady.nil
set_option maxRecDepth 100000 in
set_option maxHeartbeats 2000000 in
theorem mrg_bkt (f : Nat) (l m : List (Int × Int)) (a : Option Addr) (len cap : Nat) (a2 : Option Addr) (len2 cap2 : Nat) (w : World) (hf : f ≤ 3) (hS : SlC encB 2 w.heap.size w a len cap l) (hr : hiRight f l = true) (hu : BinUp l) (hbu : BinsU l) (hlen : l.length ≤ 1000) (hp : ∀ b ∈ l, I64 b.1) (hM : SlC encB 2 w.heap.size w a2 len2 cap2 m) (hr2 : hiRight f m = true) (hmu : BinsU m) (hlen2 : m.length ≤ 1000) (hp2 : ∀ b ∈ m, I64 b.1) :
  Calls Tryz.prog 193 #[.agg #[.int .i64 f, .slice a len cap], .iface 150 (.agg #[.int .i64 f, .slice a2 len2 cap2])] w (BodyPost (some (Bd.bkt f (hiDone (hiPuts l m)))) w) := by
 obtain ⟨W0, hW0, hXb, hB0, hs0⟩ := boxes1 w #[.int .i64 f, .slice a len cap] 150
 have hXd : W0.drew.heap[w.heap.size]? = some (.cells #[.int .i64 f, .slice a len cap] 150 (0, 0)) := hXb
 obtain ⟨c0, c1⟩ := cl2 hXd
 have HA : Hid (∀ W, Below W0.heap.size W0 W → Calls Tryz.prog 197 #[.agg #[.int .i64 f, .slice a len cap], .agg #[.int .i64 f, .slice a2 len2 cap2]] W fun e w' => ∃ a' len' cap', e = .returned (.tuple #[.agg #[.int .i64 f, .slice a' len' cap'], .int .i64 0]) ∧ BdAt w' (.iface 150 (.agg #[.int .i64 f, .slice a' len' cap'])) (Bd.bkt f (hiDone (hiPuts l m))) ∧ Below W.heap.size W w') := by
  intro W hB
  have h := hiMerge_any f l m a len cap a2 len2 cap2 W hf ((hS.1.below (hB0.trans (hB.mono hB0.size))).mono (hB0.trans (hB.mono hB0.size)).size) hr hu hbu (by have := hS.1.1; omega) hp ((hM.1.below (hB0.trans (hB.mono hB0.size))).mono (hB0.trans (hB.mono hB0.size)).size) hr2 hmu (by have := hM.1.1; omega) hp2
  exact h.mono fun e w' ⟨a', len', cap', e1, hS1, hb⟩ => ⟨a', len', cap', e1, ⟨_, _, _, rfl, hS1⟩, hb⟩
 have hTA : ∀ w, (Instr.typeAssert (.iface 150 (.agg #[.int .i64 f, .slice a2 len2 cap2])) 58 150 false).run Tryz.prog w = .ok (.agg #[.int .i64 f, .slice a2 len2 cap2]) w := fun w => by kernel_rfl
 have hFl : ∀ w, (Instr.field 150 (.agg #[.int .i64 f, .slice a2 len2 cap2]) 0).run Tryz.prog w = .ok (.agg #[.int .i64 f, .slice a2 len2 cap2]) w := fun w => by kernel_rfl
 obtain ⟨Wa, hWa, hXa, hBa, hsa⟩ := boxes1 W0 #[.int .i64 0, .slice none 0 0] 31
 obtain ⟨W1, hW1, hX1, hB1⟩ : ∃ W1, (W0.alloc (.cells #[.int .i64 0, .slice none 0 0] 31)).drew = W1 ∧ W1.heap[W0.heap.size]? = some (.cells #[.int .i64 0, .slice none 0 0] 31 (0, 0)) ∧ Below W0.heap.size W0 W1 := ⟨_, rfl, by rw [hWa]; exact hXa, by rw [hWa]; exact hBa.drew⟩
 have hX1b : W1.heap[w.heap.size]? = some (.cells #[.int .i64 f, .slice a len cap] 150 (0, 0)) := known hB1 (Nat.le_refl _) hXb
 rw [hs0] at hX1
 obtain ⟨k0, k1⟩ := cl2 hX1b
 have HW1 := Lib.hid hW1
 have HX1 := Lib.hid hX1
 have HB0 := Lib.hid hB0
 have HB1 := Lib.hid hB1
 have HA1 := Lib.hid (HA.out W1 HB1.out)
 have HA0 := Lib.hid (HA.out W0.drew (Below.refl _ W0).drew)
 have hs0' : w.heap.size + 1 ≤ W0.heap.size := by omega
 obtain ⟨P, hP⟩ : ∃ P, BodyPost (some (Bd.bkt f (hiDone (hiPuts l m)))) w = P := ⟨_, rfl⟩
 have HP := Lib.hid hP
 rw [hP]
 clear hP HA hXb hB0 hXd hW1 hX1 hX1b hB1 hWa hXa hBa hsa hf hS hr hu hbu hlen hp hM hr2 hmu hlen2 hp2
 go_enter Tryz.func193, Tryz.ntmps193
 go_wp2_with fail
 refine wp_region_any (by kernel_rfl) ?_
 change wpAny _ _ _ _ _ _ _ (World.drew _)
 refine tk 0 (v := ?_) rfl ?_ ?_
 rotate_left
 ·intro w; go_simp; with_reducible rfl
 refine tk 2 (v := ?_) rfl ?_ ?_
 rotate_left
 ·intro w; go_simp; with_reducible rfl
 refine tk 3 (v := ?_) rfl ?_ ?_
 rotate_left
 ·intro w; go_simp; with_reducible rfl
 refine tk 4 (v := ?_) rfl ?_ ?_
 rotate_left
 ·intro w; go_simp; with_reducible rfl
 refine wpAny_ready (rs := [1, 9]) (by kernel_rfl) (by simp) ?_
 refine AllReady.cons rfl (fun K hK => ?_) ?_
 ·go_simp
  refine hK _ _ ?_
  clear hK K
  refine wpAny_ready (rs := [5, 9]) (by kernel_rfl) (by simp) ?_
  refine AllReady.cons rfl (fun K hK => ?_) ?_
  ·go_simp
   refine HA0.out.mono ?_
   rintro e w2 ⟨a', len', cap', rfl, hbd, hb2⟩
   obtain ⟨W3, hW3, hX3, hB3, hs3⟩ := boxes1 w2 #[.int .i64 0, .slice none 0 0] 31
   have hb23 := hb2.trans (hB3.mono hb2.size)
   have hbx : W0.heap.size ≤ w2.heap.size := hb2.size
   have hBw2 : Below w.heap.size w W3 := HB0.out.trans (((Below.refl _ W0).drew.trans hb23).mono HB0.out.size)
   have hbox : w.heap.size ≤ w2.heap.size := by omega
   replace hbd := hbd.go hB3
   obtain ⟨V, hV⟩ : ∃ V, ((W3.setCell ⟨w2.heap.size, 0, none⟩ (.int .i64 f)).setCell ⟨w2.heap.size, 1, none⟩ (.slice a' len' cap')) = V := ⟨_, rfl⟩
   have hXV : V.heap[w2.heap.size]? = some (.cells #[.int .i64 f, .slice a' len' cap'] 31 (0, 0)) := by rw [← hV]; exact (hSk (hSk hX3 (.int .i64 f)) (.slice a' len' cap'))
   have hOV : OnlyAt (w2.heap.size) W3 V := by rw [← hV]; exact (((OnlyAt.refl _ _).set _ _).set _ _)
   obtain ⟨x0, x1⟩ := cl2 hX3
   obtain ⟨f0, f1⟩ := cz2 hX3
   obtain ⟨y0, y1⟩ := cl2 hXV
   have hBV : Below w.heap.size w V := by rw [← hV]; exact ((hBw2.setCell (p := ⟨w2.heap.size, 0, none⟩) hbox _).setCell (p := ⟨w2.heap.size, 1, none⟩) hbox _)
   have HE : Hid (BdAt V (.iface 150 (.agg #[.int .i64 f, .slice a' len' cap'])) (Bd.bkt f (hiDone (hiPuts l m))) ∧ Below w.heap.size w V) := ⟨BdAt.apart hbd hX3 (fun i u h => by rcases i with _ | _ | i <;> simp at h) hOV, hBV⟩
   have HT := Lib.hid (told_ok (.iface 150 (.agg #[.int .i64 f, .slice a' len' cap'])) V)
   clear hXV hOV hBV hX3 hbd
   have HW3 := Lib.hid hW3
   clear hb2 hb23 hBw2 hbx hbox hB3 hs3 hW3
   refine hK _ _ ?_
   clear hK K
   refine tk 6 (v := ?_) rfl ?_ ?_
   rotate_left
   ·intro w; go_simp; with_reducible rfl
   refine tk 7 (v := ?_) rfl ?_ ?_
   rotate_left
   ·intro w; go_simp; with_reducible rfl
   refine tk 8 (v := ?_) rfl ?_ ?_
   rotate_left
   ·intro w; go_simp; with_reducible rfl
   refine wpAny_ready (rs := [9]) (by kernel_rfl) (by simp) ?_
   refine AllReady.cons rfl (fun K hK => ?_) ?_
   ·go_simp
    rw [HW3.out]
    refine hK _ _ ?_
    clear hK K
    refine wpAny_ready (rs := [10]) (by kernel_rfl) (by simp) ?_
    refine AllReady.cons rfl (fun K hK => ?_) ?_
    ·go_simp
     refine hK _ _ ?_
     clear hK K
     refine tk 11 (v := ?_) rfl ?_ ?_
     rotate_left
     ·intro w; go_simp; with_reducible rfl
     refine wpAny_done (by kernel_rfl) ?_ _
     go_wp2_with fail
     refine HT.out.mono ?_
     rintro e w3 ⟨rfl, rfl⟩
     go_wp2_with fail
     rw [← HP.out]
     exact ⟨HE.out.2, _, rfl, HE.out.1⟩
    exact AllReady.nil
   exact AllReady.nil
  refine AllReady.cons rfl (fun K hK => ?_) ?_
  ·go_simp
   rw [HW1.out]
   refine hK _ _ ?_
   clear hK K
   refine wpAny_ready (rs := [5]) (by kernel_rfl) (by simp) ?_
   refine AllReady.cons rfl (fun K hK => ?_) ?_
   ·go_simp
    refine HA1.out.mono ?_
    rintro e w2 ⟨a', len', cap', rfl, hbd, hb2⟩
    have hX2 := known hb2 (Nat.le_refl _) HX1.out
    have hb12 := HB1.out.trans (hb2.mono HB1.out.size)
    have hbox : w.heap.size ≤ w.heap.size + 1 := Nat.le_succ _
    have hBw2 := HB0.out.trans (hb12.mono HB0.out.size)
    obtain ⟨V, hV⟩ : ∃ V, ((w2.setCell ⟨w.heap.size + 1, 0, none⟩ (.int .i64 f)).setCell ⟨w.heap.size + 1, 1, none⟩ (.slice a' len' cap')) = V := ⟨_, rfl⟩
    have hXV : V.heap[w.heap.size + 1]? = some (.cells #[.int .i64 f, .slice a' len' cap'] 31 (0, 0)) := by rw [← hV]; exact (hSk (hSk hX2 (.int .i64 f)) (.slice a' len' cap'))
    have hOV : OnlyAt (w.heap.size + 1) w2 V := by rw [← hV]; exact (((OnlyAt.refl _ _).set _ _).set _ _)
    obtain ⟨x0, x1⟩ := cl2 hX2
    obtain ⟨f0, f1⟩ := cz2 hX2
    obtain ⟨y0, y1⟩ := cl2 hXV
    have hBV : Below w.heap.size w V := by rw [← hV]; exact ((hBw2.setCell (p := ⟨w.heap.size + 1, 0, none⟩) hbox _).setCell (p := ⟨w.heap.size + 1, 1, none⟩) hbox _)
    have HE : Hid (BdAt V (.iface 150 (.agg #[.int .i64 f, .slice a' len' cap'])) (Bd.bkt f (hiDone (hiPuts l m))) ∧ Below w.heap.size w V) := ⟨BdAt.apart hbd hX2 (fun i u h => by rcases i with _ | _ | i <;> simp at h) hOV, hBV⟩
    have HT := Lib.hid (told_ok (.iface 150 (.agg #[.int .i64 f, .slice a' len' cap'])) V)
    clear hXV hOV hBV hX2 hbd
    clear hb2 hb12 hBw2 hbox
    refine hK _ _ ?_
    clear hK K
    refine tk 6 (v := ?_) rfl ?_ ?_
    rotate_left
    ·intro w; go_simp; with_reducible rfl
    refine tk 7 (v := ?_) rfl ?_ ?_
    rotate_left
    ·intro w; go_simp; with_reducible rfl
    refine tk 8 (v := ?_) rfl ?_ ?_
    rotate_left
    ·intro w; go_simp; with_reducible rfl
    refine wpAny_ready (rs := [10]) (by kernel_rfl) (by simp) ?_
    refine AllReady.cons rfl (fun K hK => ?_) ?_
    ·go_simp
     refine hK _ _ ?_
     clear hK K
     refine tk 11 (v := ?_) rfl ?_ ?_
     rotate_left
     ·intro w; go_simp; with_reducible rfl
     refine wpAny_done (by kernel_rfl) ?_ _
     go_wp2_with fail
     refine HT.out.mono ?_
     rintro e w3 ⟨rfl, rfl⟩
     go_wp2_with fail
     rw [← HP.out]
     exact ⟨HE.out.2, _, rfl, HE.out.1⟩
    exact AllReady.nil
   exact AllReady.nil
  exact AllReady.nil
 refine AllReady.cons rfl (fun K hK => ?_) ?_
 ·go_simp
  rw [HW1.out]
  refine hK _ _ ?_
  clear hK K
  refine wpAny_ready (rs := [1]) (by kernel_rfl) (by simp) ?_
  refine AllReady.cons rfl (fun K hK => ?_) ?_
  ·go_simp
   refine hK _ _ ?_
   clear hK K
   refine wpAny_ready (rs := [5]) (by kernel_rfl) (by simp) ?_
   refine AllReady.cons rfl (fun K hK => ?_) ?_
   ·go_simp
    refine HA1.out.mono ?_
    rintro e w2 ⟨a', len', cap', rfl, hbd, hb2⟩
    have hX2 := known hb2 (Nat.le_refl _) HX1.out
    have hb12 := HB1.out.trans (hb2.mono HB1.out.size)
    have hbox : w.heap.size ≤ w.heap.size + 1 := Nat.le_succ _
    have hBw2 := HB0.out.trans (hb12.mono HB0.out.size)
    obtain ⟨V, hV⟩ : ∃ V, ((w2.setCell ⟨w.heap.size + 1, 0, none⟩ (.int .i64 f)).setCell ⟨w.heap.size + 1, 1, none⟩ (.slice a' len' cap')) = V := ⟨_, rfl⟩
    have hXV : V.heap[w.heap.size + 1]? = some (.cells #[.int .i64 f, .slice a' len' cap'] 31 (0, 0)) := by rw [← hV]; exact (hSk (hSk hX2 (.int .i64 f)) (.slice a' len' cap'))
    have hOV : OnlyAt (w.heap.size + 1) w2 V := by rw [← hV]; exact (((OnlyAt.refl _ _).set _ _).set _ _)
    obtain ⟨x0, x1⟩ := cl2 hX2
    obtain ⟨f0, f1⟩ := cz2 hX2
    obtain ⟨y0, y1⟩ := cl2 hXV
    have hBV : Below w.heap.size w V := by rw [← hV]; exact ((hBw2.setCell (p := ⟨w.heap.size + 1, 0, none⟩) hbox _).setCell (p := ⟨w.heap.size + 1, 1, none⟩) hbox _)
    have HE : Hid (BdAt V (.iface 150 (.agg #[.int .i64 f, .slice a' len' cap'])) (Bd.bkt f (hiDone (hiPuts l m))) ∧ Below w.heap.size w V) := ⟨BdAt.apart hbd hX2 (fun i u h => by rcases i with _ | _ | i <;> simp at h) hOV, hBV⟩
    have HT := Lib.hid (told_ok (.iface 150 (.agg #[.int .i64 f, .slice a' len' cap'])) V)
    clear hXV hOV hBV hX2 hbd
    clear hb2 hb12 hBw2 hbox
    refine hK _ _ ?_
    clear hK K
    refine tk 6 (v := ?_) rfl ?_ ?_
    rotate_left
    ·intro w; go_simp; with_reducible rfl
    refine tk 7 (v := ?_) rfl ?_ ?_
    rotate_left
    ·intro w; go_simp; with_reducible rfl
    refine tk 8 (v := ?_) rfl ?_ ?_
    rotate_left
    ·intro w; go_simp; with_reducible rfl
    refine wpAny_ready (rs := [10]) (by kernel_rfl) (by simp) ?_
    refine AllReady.cons rfl (fun K hK => ?_) ?_
    ·go_simp
     refine hK _ _ ?_
     clear hK K
     refine tk 11 (v := ?_) rfl ?_ ?_
     rotate_left
     ·intro w; go_simp; with_reducible rfl
     refine wpAny_done (by kernel_rfl) ?_ _
     go_wp2_with fail
     refine HT.out.mono ?_
     rintro e w3 ⟨rfl, rfl⟩
     go_wp2_with fail
     rw [← HP.out]
     exact ⟨HE.out.2, _, rfl, HE.out.1⟩
    exact AllReady.nil
   exact AllReady.nil
  exact AllReady.nil
 exact AllReady.nil
end Go.Proofs.YtcbbenncdainfaaGreatDoor
