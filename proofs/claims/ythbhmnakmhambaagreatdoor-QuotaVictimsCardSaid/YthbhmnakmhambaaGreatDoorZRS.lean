/- The reference of layer 10: Right, at a good sketch. Printed by gen_rs.py. -/
import Derived.Test.YthbhmnakmhambaaGreatDoorZQB
import Derived.Test.YthbhmnakmhambaaGreatDoorZRO
namespace Go.Proofs.YthbhmnakmhambaaGreatDoor
open Go Go.RowKit Go.Shelf
set_option maxRecDepth 100000 in
set_option maxHeartbeats 4000000 in
theorem ref10_Right_cnt0 (l : List Int) (x : Sk) (s : SS) (w : World) (hx : x = ⟨2, 0, [], 0, ⟨#[]⟩, 2, 32, l, 0, []⟩) (hA : s.At w.heap.size w x) (hR : cmRight 2 32 l = true) :
  Calls Tryz.prog 13 #[.agg #[.int .i64 x.kind, .int .i64 x.level, .slice s.ea s.el s.ec, .int .i64 x.hb, .string x.hr, .int .i64 x.cr, .int .i64 x.cc, .slice s.ca s.cl s.cc, .int .i64 x.gf, .slice s.ga s.gl s.gc]] w fun e w' => e = .returned (.bool true) ∧ Below w.heap.size w w' := by
 subst hx
 dsimp only
 obtain ⟨W0, hW0, hX0, hB0, hs0⟩ := boxes1 w #[.int .i64 2, .int .i64 0, .slice s.ea s.el s.ec, .int .i64 0, .string ⟨#[]⟩, .int .i64 2, .int .i64 32, .slice s.ca s.cl s.cc, .int .i64 0, .slice s.ga s.gl s.gc] 39
 have HA := Lib.hid (hA.go hB0)
 have HB0 := Lib.hid hB0
 have HBT : Hid (∀ W, Calls Tryz.prog 37 #[.int .i64 2] W fun e w' => e = .returned (.int .i64 3) ∧ w' = W) := fun W => (ref10_Bottom_any 2 W).mono fun e w' ⟨h1, h2⟩ => ⟨h1, h2.symm⟩
 obtain ⟨d0, d1, d2, d3, d4, d5, d6, d7, d8, d9⟩ := cl10 hX0
 clear hX0 hB0 hA
 go_enter Tryz.func13, Tryz.ntmps13
 go_wp2_with fail
 go_quiet ((go_at_call 37; exact Calls.quiet_of_same (HBT.out _)))
 obtain ⟨Wd, hWd⟩ : ∃ Wd, W0.drewN nq = Wd := ⟨_, rfl⟩
 have hbd : Below W0.heap.size W0 Wd := by rw [← hWd]; exact bDr (Below.refl _ _) _
 rw [hWd]
 obtain ⟨W1, hW1, hX1, hB1, hs1⟩ := boxes1 Wd #[.int .i64 2, .int .i64 0, .slice none 0 0, .int .i64 0, .string ⟨#[]⟩, .int .i64 0, .int .i64 0, .slice none 0 0, .int .i64 0, .slice none 0 0] 39
 obtain ⟨V, hV⟩ : ∃ V, ((W1.setCell ⟨Wd.heap.size, 5, none⟩ (.int .i64 2)).setCell ⟨Wd.heap.size, 6, none⟩ (.int .i64 32)).setCell ⟨Wd.heap.size, 7, none⟩ (.slice s.ca s.cl s.cc) = V := ⟨_, rfl⟩
 have hXV : V.heap[Wd.heap.size]? = some (.cells #[.int .i64 2, .int .i64 0, .slice none 0 0, .int .i64 0, .string ⟨#[]⟩, .int .i64 2, .int .i64 32, .slice s.ca s.cl s.cc, .int .i64 0, .slice none 0 0] 39 (0, 0)) := by rw [← hV]; exact (hSk (hSk (hSk hX1 _) _) _)
 have hBV : Below Wd.heap.size Wd V := by rw [← hV]; exact (((hB1.setCell (p := ⟨Wd.heap.size, 5, none⟩) (Nat.le_refl _) _).setCell (p := ⟨Wd.heap.size, 6, none⟩) (Nat.le_refl _) _).setCell (p := ⟨Wd.heap.size, 7, none⟩) (Nat.le_refl _) _)
 have hb0 : Below W0.heap.size W0 W1 := hbd.trans (hB1.mono hbd.size)
 have hb1 : Below W0.heap.size W0 V := hbd.trans (hBV.mono hbd.size)
 have hz0 : w.heap.size < W0.heap.size := by omega
 have hsd := hbd.size
 obtain ⟨c0, c1, c2, c3, c4, c5, c6, c7, c8, c9⟩ := cl10 hX1
 obtain ⟨f0, f1, f2, f3, f4, f5, f6, f7, f8, f9⟩ := cz10 hX1
 have e1 : W1.setCell ⟨Wd.heap.size, 1, none⟩ (.int .i64 0) = W1 := set_same hX1 rfl
 have e2 : W1.setCell ⟨Wd.heap.size, 2, none⟩ (.slice none 0 0) = W1 := set_same hX1 rfl
 have e3 : W1.setCell ⟨Wd.heap.size, 3, none⟩ (.int .i64 0) = W1 := set_same hX1 rfl
 have e4 : W1.setCell ⟨Wd.heap.size, 4, none⟩ (.string ⟨#[]⟩) = W1 := set_same hX1 rfl
 have e5 : W1.setCell ⟨Wd.heap.size, 5, none⟩ (.int .i64 0) = W1 := set_same hX1 rfl
 have e6 : W1.setCell ⟨Wd.heap.size, 6, none⟩ (.int .i64 0) = W1 := set_same hX1 rfl
 have e7 : W1.setCell ⟨Wd.heap.size, 7, none⟩ (.slice none 0 0) = W1 := set_same hX1 rfl
 have e8 : W1.setCell ⟨Wd.heap.size, 8, none⟩ (.int .i64 0) = W1 := set_same hX1 rfl
 have e9 : W1.setCell ⟨Wd.heap.size, 9, none⟩ (.slice none 0 0) = W1 := set_same hX1 rfl
 have p0 := (hbd.cell (p := ⟨w.heap.size, 0, none⟩) hz0).trans d0
 have p1 := (hbd.cell (p := ⟨w.heap.size, 1, none⟩) hz0).trans d1
 have a0 := (hb0.cell (p := ⟨w.heap.size, 0, none⟩) hz0).trans d0
 have a1 := (hb0.cell (p := ⟨w.heap.size, 1, none⟩) hz0).trans d1
 have a2 := (hb0.cell (p := ⟨w.heap.size, 2, none⟩) hz0).trans d2
 have a5 := (hb0.cell (p := ⟨w.heap.size, 5, none⟩) hz0).trans d5
 have a6 := (hb0.cell (p := ⟨w.heap.size, 6, none⟩) hz0).trans d6
 have a7 := (hb0.cell (p := ⟨w.heap.size, 7, none⟩) hz0).trans d7
 have HB1 := Lib.hid hb1
 have HXV := Lib.hid hXV
 have HD : Hid (W0.cell? ⟨w.heap.size, 0, none⟩ = some (.int .i64 2) ∧ W0.cell? ⟨w.heap.size, 1, none⟩ = some (.int .i64 0) ∧ W0.cell? ⟨w.heap.size, 2, none⟩ = some (.slice s.ea s.el s.ec) ∧ W0.cell? ⟨w.heap.size, 3, none⟩ = some (.int .i64 0) ∧ W0.cell? ⟨w.heap.size, 4, none⟩ = some (.string ⟨#[]⟩) ∧ W0.cell? ⟨w.heap.size, 5, none⟩ = some (.int .i64 2) ∧ W0.cell? ⟨w.heap.size, 6, none⟩ = some (.int .i64 32) ∧ W0.cell? ⟨w.heap.size, 7, none⟩ = some (.slice s.ca s.cl s.cc) ∧ W0.cell? ⟨w.heap.size, 8, none⟩ = some (.int .i64 0) ∧ W0.cell? ⟨w.heap.size, 9, none⟩ = some (.slice s.ga s.gl s.gc)) := ⟨d0, d1, d2, d3, d4, d5, d6, d7, d8, d9⟩
 clear hX1 hXV hBV hb0 hb1
 go_wp2_with fail
 let Inv : World → Prop := fun W => Below V.heap.size V W
 have hgo : ∀ W W', Inv W → Below W.heap.size W W' → Inv W' := fun W W' h hb => Below.trans h (hb.mono (Below.size h))
 have hbX : ∀ X : WIn Inv, Below W0.heap.size W0 X.world := fun X => HB1.out.trans (Below.mono X.ok HB1.out.size)
 have q1 : ∀ X : WIn Inv, X.world.cell? ⟨w.heap.size, 1, none⟩ = some (.int .i64 0) := fun X => ((hbX X).cell (p := ⟨w.heap.size, 1, none⟩) hz0).trans d1
 have q5 : ∀ X : WIn Inv, X.world.cell? ⟨w.heap.size, 5, none⟩ = some (.int .i64 2) := fun X => ((hbX X).cell (p := ⟨w.heap.size, 5, none⟩) hz0).trans d5
 have q6 : ∀ X : WIn Inv, X.world.cell? ⟨w.heap.size, 6, none⟩ = some (.int .i64 32) := fun X => ((hbX X).cell (p := ⟨w.heap.size, 6, none⟩) hz0).trans d6
 have q7 : ∀ X : WIn Inv, X.world.cell? ⟨w.heap.size, 7, none⟩ = some (.slice s.ca s.cl s.cc) := fun X => ((hbX X).cell (p := ⟨w.heap.size, 7, none⟩) hz0).trans d7
 have K1 : Hid (∀ X : WIn Inv, Calls Tryz.prog 40 #[.agg #[.int .i64 2, .int .i64 32, .slice s.ca s.cl s.cc]] X.world fun e w' => e = .returned (.bool true) ∧ ∃ Y : WIn Inv, w' = Y.world) := fun X => by
  have h := ref08_Right_any 2 32 s.ca s.cl s.cc l X.world ⟨by decide, by decide⟩ (HA.out.go (hbX X)).c.1.1
  rw [hR] at h
  exact calls_class_below hgo h
 have HQ : Hid (∀ X : WIn Inv, Below V.heap.size V X.world) := fun X => X.ok
 have hI0 : Hid (Inv V.drew) := (Below.refl V.heap.size V).drew
 have hne : Nonempty (WIn Inv) := ⟨⟨_, hI0.out⟩⟩
 clear hgo hbX d0 d1 d2 d3 d4 d5 d6 d7 d8 d9 p0 p1 a0 a1 a2 a5 a6 a7 c0 c1 c2 c3 c4 c5 c6 c7 c8 c9 f0 f1 f2 f3 f4 f5 f6 f7 f8 f9 e1 e2 e3 e4 e5 e6 e7 e8 e9
 clear_value Inv
 refine wp_region_class Inv (by kernel_rfl) (by kernel_rfl) hI0.out ?_
 repeat (first | go_big_quiet_step ((go_at_call 40; with_reducible exact K1.out _)) | quiet_step ((go_at_call 40; with_reducible exact K1.out _)))
 refine wpQuiet_nil ?_
 rintro _ ⟨X, rfl⟩
 have HX9 := Lib.hid (HQ.out X)
 obtain ⟨w2, hw2⟩ : ∃ w2, X.world = w2 := ⟨_, rfl⟩
 rw [hw2] at HX9 ⊢
 clear q1 q5 q6 q7 HQ K1 hI0 hne hw2 X
 obtain ⟨d0, d1, d2, d3, d4, d5, d6, d7, d8, d9⟩ := HD.out
 have hb02 : Below W0.heap.size W0 w2 := HB1.out.trans (HX9.out.mono HB1.out.size)
 have hXw := (HX9.out.block _ (Array.getElem?_eq_some_iff.1 HXV.out).1).trans HXV.out
 have k0 := (hb02.cell (p := ⟨w.heap.size, 0, none⟩) hz0).trans d0
 have k1 := (hb02.cell (p := ⟨w.heap.size, 1, none⟩) hz0).trans d1
 have k2 := (hb02.cell (p := ⟨w.heap.size, 2, none⟩) hz0).trans d2
 have k3 := (hb02.cell (p := ⟨w.heap.size, 3, none⟩) hz0).trans d3
 have k4 := (hb02.cell (p := ⟨w.heap.size, 4, none⟩) hz0).trans d4
 have k5 := (hb02.cell (p := ⟨w.heap.size, 5, none⟩) hz0).trans d5
 have k6 := (hb02.cell (p := ⟨w.heap.size, 6, none⟩) hz0).trans d6
 have k7 := (hb02.cell (p := ⟨w.heap.size, 7, none⟩) hz0).trans d7
 have k8 := (hb02.cell (p := ⟨w.heap.size, 8, none⟩) hz0).trans d8
 have k9 := (hb02.cell (p := ⟨w.heap.size, 9, none⟩) hz0).trans d9
 obtain ⟨m0, m1, m2, m3, m4, m5, m6, m7, m8, m9⟩ := cl10 hXw
 have HS := Lib.hid (ref10_Same_eq ⟨2, 0, [], 0, ⟨#[]⟩, 2, 32, l, 0, []⟩ s ⟨none, 0, 0, s.ca, s.cl, s.cc, none, 0, 0⟩ w2 (HA.out.go hb02) ⟨slC_nil, (HA.out.go hb02).c, slC_nil⟩)
 have HB02 := Lib.hid hb02
 clear hXw d0 d1 d2 d3 d4 d5 d6 d7 d8 d9 hb02 HX9
 go_wp2_with fail
 refine HS.out.mono ?_
 rintro e w3 ⟨rfl, hb3⟩
 have hb03 := HB02.out.trans (hb3.mono HB02.out.size)
 go_wp2_with fail
 go_ret
 exact ⟨rfl, HB0.out.trans (hb03.mono HB0.out.size)⟩
set_option maxRecDepth 100000 in
set_option maxHeartbeats 4000000 in
theorem ref10_Right_cnt1 (l : List Int) (x : Sk) (s : SS) (w : World) (hx : x = ⟨2, 1, [], 0, ⟨#[]⟩, 2, 16, l, 0, []⟩) (hA : s.At w.heap.size w x) (hR : cmRight 2 16 l = true) :
  Calls Tryz.prog 13 #[.agg #[.int .i64 x.kind, .int .i64 x.level, .slice s.ea s.el s.ec, .int .i64 x.hb, .string x.hr, .int .i64 x.cr, .int .i64 x.cc, .slice s.ca s.cl s.cc, .int .i64 x.gf, .slice s.ga s.gl s.gc]] w fun e w' => e = .returned (.bool true) ∧ Below w.heap.size w w' := by
 subst hx
 dsimp only
 obtain ⟨W0, hW0, hX0, hB0, hs0⟩ := boxes1 w #[.int .i64 2, .int .i64 1, .slice s.ea s.el s.ec, .int .i64 0, .string ⟨#[]⟩, .int .i64 2, .int .i64 16, .slice s.ca s.cl s.cc, .int .i64 0, .slice s.ga s.gl s.gc] 39
 have HA := Lib.hid (hA.go hB0)
 have HB0 := Lib.hid hB0
 have HBT : Hid (∀ W, Calls Tryz.prog 37 #[.int .i64 2] W fun e w' => e = .returned (.int .i64 3) ∧ w' = W) := fun W => (ref10_Bottom_any 2 W).mono fun e w' ⟨h1, h2⟩ => ⟨h1, h2.symm⟩
 obtain ⟨d0, d1, d2, d3, d4, d5, d6, d7, d8, d9⟩ := cl10 hX0
 clear hX0 hB0 hA
 go_enter Tryz.func13, Tryz.ntmps13
 go_wp2_with fail
 go_quiet ((go_at_call 37; exact Calls.quiet_of_same (HBT.out _)))
 obtain ⟨Wd, hWd⟩ : ∃ Wd, W0.drewN nq = Wd := ⟨_, rfl⟩
 have hbd : Below W0.heap.size W0 Wd := by rw [← hWd]; exact bDr (Below.refl _ _) _
 rw [hWd]
 obtain ⟨W1, hW1, hX1, hB1, hs1⟩ := boxes1 Wd #[.int .i64 2, .int .i64 1, .slice none 0 0, .int .i64 0, .string ⟨#[]⟩, .int .i64 0, .int .i64 0, .slice none 0 0, .int .i64 0, .slice none 0 0] 39
 obtain ⟨V, hV⟩ : ∃ V, ((W1.setCell ⟨Wd.heap.size, 5, none⟩ (.int .i64 2)).setCell ⟨Wd.heap.size, 6, none⟩ (.int .i64 16)).setCell ⟨Wd.heap.size, 7, none⟩ (.slice s.ca s.cl s.cc) = V := ⟨_, rfl⟩
 have hXV : V.heap[Wd.heap.size]? = some (.cells #[.int .i64 2, .int .i64 1, .slice none 0 0, .int .i64 0, .string ⟨#[]⟩, .int .i64 2, .int .i64 16, .slice s.ca s.cl s.cc, .int .i64 0, .slice none 0 0] 39 (0, 0)) := by rw [← hV]; exact (hSk (hSk (hSk hX1 _) _) _)
 have hBV : Below Wd.heap.size Wd V := by rw [← hV]; exact (((hB1.setCell (p := ⟨Wd.heap.size, 5, none⟩) (Nat.le_refl _) _).setCell (p := ⟨Wd.heap.size, 6, none⟩) (Nat.le_refl _) _).setCell (p := ⟨Wd.heap.size, 7, none⟩) (Nat.le_refl _) _)
 have hb0 : Below W0.heap.size W0 W1 := hbd.trans (hB1.mono hbd.size)
 have hb1 : Below W0.heap.size W0 V := hbd.trans (hBV.mono hbd.size)
 have hz0 : w.heap.size < W0.heap.size := by omega
 have hsd := hbd.size
 obtain ⟨c0, c1, c2, c3, c4, c5, c6, c7, c8, c9⟩ := cl10 hX1
 obtain ⟨f0, f1, f2, f3, f4, f5, f6, f7, f8, f9⟩ := cz10 hX1
 have e1 : W1.setCell ⟨Wd.heap.size, 1, none⟩ (.int .i64 1) = W1 := set_same hX1 rfl
 have e2 : W1.setCell ⟨Wd.heap.size, 2, none⟩ (.slice none 0 0) = W1 := set_same hX1 rfl
 have e3 : W1.setCell ⟨Wd.heap.size, 3, none⟩ (.int .i64 0) = W1 := set_same hX1 rfl
 have e4 : W1.setCell ⟨Wd.heap.size, 4, none⟩ (.string ⟨#[]⟩) = W1 := set_same hX1 rfl
 have e5 : W1.setCell ⟨Wd.heap.size, 5, none⟩ (.int .i64 0) = W1 := set_same hX1 rfl
 have e6 : W1.setCell ⟨Wd.heap.size, 6, none⟩ (.int .i64 0) = W1 := set_same hX1 rfl
 have e7 : W1.setCell ⟨Wd.heap.size, 7, none⟩ (.slice none 0 0) = W1 := set_same hX1 rfl
 have e8 : W1.setCell ⟨Wd.heap.size, 8, none⟩ (.int .i64 0) = W1 := set_same hX1 rfl
 have e9 : W1.setCell ⟨Wd.heap.size, 9, none⟩ (.slice none 0 0) = W1 := set_same hX1 rfl
 have p0 := (hbd.cell (p := ⟨w.heap.size, 0, none⟩) hz0).trans d0
 have p1 := (hbd.cell (p := ⟨w.heap.size, 1, none⟩) hz0).trans d1
 have a0 := (hb0.cell (p := ⟨w.heap.size, 0, none⟩) hz0).trans d0
 have a1 := (hb0.cell (p := ⟨w.heap.size, 1, none⟩) hz0).trans d1
 have a2 := (hb0.cell (p := ⟨w.heap.size, 2, none⟩) hz0).trans d2
 have a5 := (hb0.cell (p := ⟨w.heap.size, 5, none⟩) hz0).trans d5
 have a6 := (hb0.cell (p := ⟨w.heap.size, 6, none⟩) hz0).trans d6
 have a7 := (hb0.cell (p := ⟨w.heap.size, 7, none⟩) hz0).trans d7
 have HB1 := Lib.hid hb1
 have HXV := Lib.hid hXV
 have HD : Hid (W0.cell? ⟨w.heap.size, 0, none⟩ = some (.int .i64 2) ∧ W0.cell? ⟨w.heap.size, 1, none⟩ = some (.int .i64 1) ∧ W0.cell? ⟨w.heap.size, 2, none⟩ = some (.slice s.ea s.el s.ec) ∧ W0.cell? ⟨w.heap.size, 3, none⟩ = some (.int .i64 0) ∧ W0.cell? ⟨w.heap.size, 4, none⟩ = some (.string ⟨#[]⟩) ∧ W0.cell? ⟨w.heap.size, 5, none⟩ = some (.int .i64 2) ∧ W0.cell? ⟨w.heap.size, 6, none⟩ = some (.int .i64 16) ∧ W0.cell? ⟨w.heap.size, 7, none⟩ = some (.slice s.ca s.cl s.cc) ∧ W0.cell? ⟨w.heap.size, 8, none⟩ = some (.int .i64 0) ∧ W0.cell? ⟨w.heap.size, 9, none⟩ = some (.slice s.ga s.gl s.gc)) := ⟨d0, d1, d2, d3, d4, d5, d6, d7, d8, d9⟩
 clear hX1 hXV hBV hb0 hb1
 go_wp2_with fail
 let Inv : World → Prop := fun W => Below V.heap.size V W
 have hgo : ∀ W W', Inv W → Below W.heap.size W W' → Inv W' := fun W W' h hb => Below.trans h (hb.mono (Below.size h))
 have hbX : ∀ X : WIn Inv, Below W0.heap.size W0 X.world := fun X => HB1.out.trans (Below.mono X.ok HB1.out.size)
 have q1 : ∀ X : WIn Inv, X.world.cell? ⟨w.heap.size, 1, none⟩ = some (.int .i64 1) := fun X => ((hbX X).cell (p := ⟨w.heap.size, 1, none⟩) hz0).trans d1
 have q5 : ∀ X : WIn Inv, X.world.cell? ⟨w.heap.size, 5, none⟩ = some (.int .i64 2) := fun X => ((hbX X).cell (p := ⟨w.heap.size, 5, none⟩) hz0).trans d5
 have q6 : ∀ X : WIn Inv, X.world.cell? ⟨w.heap.size, 6, none⟩ = some (.int .i64 16) := fun X => ((hbX X).cell (p := ⟨w.heap.size, 6, none⟩) hz0).trans d6
 have q7 : ∀ X : WIn Inv, X.world.cell? ⟨w.heap.size, 7, none⟩ = some (.slice s.ca s.cl s.cc) := fun X => ((hbX X).cell (p := ⟨w.heap.size, 7, none⟩) hz0).trans d7
 have K1 : Hid (∀ X : WIn Inv, Calls Tryz.prog 40 #[.agg #[.int .i64 2, .int .i64 16, .slice s.ca s.cl s.cc]] X.world fun e w' => e = .returned (.bool true) ∧ ∃ Y : WIn Inv, w' = Y.world) := fun X => by
  have h := ref08_Right_any 2 16 s.ca s.cl s.cc l X.world ⟨by decide, by decide⟩ (HA.out.go (hbX X)).c.1.1
  rw [hR] at h
  exact calls_class_below hgo h
 have HQ : Hid (∀ X : WIn Inv, Below V.heap.size V X.world) := fun X => X.ok
 have hI0 : Hid (Inv V.drew) := (Below.refl V.heap.size V).drew
 have hne : Nonempty (WIn Inv) := ⟨⟨_, hI0.out⟩⟩
 clear hgo hbX d0 d1 d2 d3 d4 d5 d6 d7 d8 d9 p0 p1 a0 a1 a2 a5 a6 a7 c0 c1 c2 c3 c4 c5 c6 c7 c8 c9 f0 f1 f2 f3 f4 f5 f6 f7 f8 f9 e1 e2 e3 e4 e5 e6 e7 e8 e9
 clear_value Inv
 refine wp_region_class Inv (by kernel_rfl) (by kernel_rfl) hI0.out ?_
 repeat (first | go_big_quiet_step ((go_at_call 40; with_reducible exact K1.out _)) | quiet_step ((go_at_call 40; with_reducible exact K1.out _)))
 refine wpQuiet_nil ?_
 rintro _ ⟨X, rfl⟩
 have HX9 := Lib.hid (HQ.out X)
 obtain ⟨w2, hw2⟩ : ∃ w2, X.world = w2 := ⟨_, rfl⟩
 rw [hw2] at HX9 ⊢
 clear q1 q5 q6 q7 HQ K1 hI0 hne hw2 X
 obtain ⟨d0, d1, d2, d3, d4, d5, d6, d7, d8, d9⟩ := HD.out
 have hb02 : Below W0.heap.size W0 w2 := HB1.out.trans (HX9.out.mono HB1.out.size)
 have hXw := (HX9.out.block _ (Array.getElem?_eq_some_iff.1 HXV.out).1).trans HXV.out
 have k0 := (hb02.cell (p := ⟨w.heap.size, 0, none⟩) hz0).trans d0
 have k1 := (hb02.cell (p := ⟨w.heap.size, 1, none⟩) hz0).trans d1
 have k2 := (hb02.cell (p := ⟨w.heap.size, 2, none⟩) hz0).trans d2
 have k3 := (hb02.cell (p := ⟨w.heap.size, 3, none⟩) hz0).trans d3
 have k4 := (hb02.cell (p := ⟨w.heap.size, 4, none⟩) hz0).trans d4
 have k5 := (hb02.cell (p := ⟨w.heap.size, 5, none⟩) hz0).trans d5
 have k6 := (hb02.cell (p := ⟨w.heap.size, 6, none⟩) hz0).trans d6
 have k7 := (hb02.cell (p := ⟨w.heap.size, 7, none⟩) hz0).trans d7
 have k8 := (hb02.cell (p := ⟨w.heap.size, 8, none⟩) hz0).trans d8
 have k9 := (hb02.cell (p := ⟨w.heap.size, 9, none⟩) hz0).trans d9
 obtain ⟨m0, m1, m2, m3, m4, m5, m6, m7, m8, m9⟩ := cl10 hXw
 have HS := Lib.hid (ref10_Same_eq ⟨2, 1, [], 0, ⟨#[]⟩, 2, 16, l, 0, []⟩ s ⟨none, 0, 0, s.ca, s.cl, s.cc, none, 0, 0⟩ w2 (HA.out.go hb02) ⟨slC_nil, (HA.out.go hb02).c, slC_nil⟩)
 have HB02 := Lib.hid hb02
 clear hXw d0 d1 d2 d3 d4 d5 d6 d7 d8 d9 hb02 HX9
 go_wp2_with fail
 refine HS.out.mono ?_
 rintro e w3 ⟨rfl, hb3⟩
 have hb03 := HB02.out.trans (hb3.mono HB02.out.size)
 go_wp2_with fail
 go_ret
 exact ⟨rfl, HB0.out.trans (hb03.mono HB0.out.size)⟩
set_option maxRecDepth 100000 in
set_option maxHeartbeats 4000000 in
theorem ref10_Right_cnt2 (l : List Int) (x : Sk) (s : SS) (w : World) (hx : x = ⟨2, 2, [], 0, ⟨#[]⟩, 2, 8, l, 0, []⟩) (hA : s.At w.heap.size w x) (hR : cmRight 2 8 l = true) :
  Calls Tryz.prog 13 #[.agg #[.int .i64 x.kind, .int .i64 x.level, .slice s.ea s.el s.ec, .int .i64 x.hb, .string x.hr, .int .i64 x.cr, .int .i64 x.cc, .slice s.ca s.cl s.cc, .int .i64 x.gf, .slice s.ga s.gl s.gc]] w fun e w' => e = .returned (.bool true) ∧ Below w.heap.size w w' := by
 subst hx
 dsimp only
 obtain ⟨W0, hW0, hX0, hB0, hs0⟩ := boxes1 w #[.int .i64 2, .int .i64 2, .slice s.ea s.el s.ec, .int .i64 0, .string ⟨#[]⟩, .int .i64 2, .int .i64 8, .slice s.ca s.cl s.cc, .int .i64 0, .slice s.ga s.gl s.gc] 39
 have HA := Lib.hid (hA.go hB0)
 have HB0 := Lib.hid hB0
 have HBT : Hid (∀ W, Calls Tryz.prog 37 #[.int .i64 2] W fun e w' => e = .returned (.int .i64 3) ∧ w' = W) := fun W => (ref10_Bottom_any 2 W).mono fun e w' ⟨h1, h2⟩ => ⟨h1, h2.symm⟩
 obtain ⟨d0, d1, d2, d3, d4, d5, d6, d7, d8, d9⟩ := cl10 hX0
 clear hX0 hB0 hA
 go_enter Tryz.func13, Tryz.ntmps13
 go_wp2_with fail
 go_quiet ((go_at_call 37; exact Calls.quiet_of_same (HBT.out _)))
 obtain ⟨Wd, hWd⟩ : ∃ Wd, W0.drewN nq = Wd := ⟨_, rfl⟩
 have hbd : Below W0.heap.size W0 Wd := by rw [← hWd]; exact bDr (Below.refl _ _) _
 rw [hWd]
 obtain ⟨W1, hW1, hX1, hB1, hs1⟩ := boxes1 Wd #[.int .i64 2, .int .i64 2, .slice none 0 0, .int .i64 0, .string ⟨#[]⟩, .int .i64 0, .int .i64 0, .slice none 0 0, .int .i64 0, .slice none 0 0] 39
 obtain ⟨V, hV⟩ : ∃ V, ((W1.setCell ⟨Wd.heap.size, 5, none⟩ (.int .i64 2)).setCell ⟨Wd.heap.size, 6, none⟩ (.int .i64 8)).setCell ⟨Wd.heap.size, 7, none⟩ (.slice s.ca s.cl s.cc) = V := ⟨_, rfl⟩
 have hXV : V.heap[Wd.heap.size]? = some (.cells #[.int .i64 2, .int .i64 2, .slice none 0 0, .int .i64 0, .string ⟨#[]⟩, .int .i64 2, .int .i64 8, .slice s.ca s.cl s.cc, .int .i64 0, .slice none 0 0] 39 (0, 0)) := by rw [← hV]; exact (hSk (hSk (hSk hX1 _) _) _)
 have hBV : Below Wd.heap.size Wd V := by rw [← hV]; exact (((hB1.setCell (p := ⟨Wd.heap.size, 5, none⟩) (Nat.le_refl _) _).setCell (p := ⟨Wd.heap.size, 6, none⟩) (Nat.le_refl _) _).setCell (p := ⟨Wd.heap.size, 7, none⟩) (Nat.le_refl _) _)
 have hb0 : Below W0.heap.size W0 W1 := hbd.trans (hB1.mono hbd.size)
 have hb1 : Below W0.heap.size W0 V := hbd.trans (hBV.mono hbd.size)
 have hz0 : w.heap.size < W0.heap.size := by omega
 have hsd := hbd.size
 obtain ⟨c0, c1, c2, c3, c4, c5, c6, c7, c8, c9⟩ := cl10 hX1
 obtain ⟨f0, f1, f2, f3, f4, f5, f6, f7, f8, f9⟩ := cz10 hX1
 have e1 : W1.setCell ⟨Wd.heap.size, 1, none⟩ (.int .i64 2) = W1 := set_same hX1 rfl
 have e2 : W1.setCell ⟨Wd.heap.size, 2, none⟩ (.slice none 0 0) = W1 := set_same hX1 rfl
 have e3 : W1.setCell ⟨Wd.heap.size, 3, none⟩ (.int .i64 0) = W1 := set_same hX1 rfl
 have e4 : W1.setCell ⟨Wd.heap.size, 4, none⟩ (.string ⟨#[]⟩) = W1 := set_same hX1 rfl
 have e5 : W1.setCell ⟨Wd.heap.size, 5, none⟩ (.int .i64 0) = W1 := set_same hX1 rfl
 have e6 : W1.setCell ⟨Wd.heap.size, 6, none⟩ (.int .i64 0) = W1 := set_same hX1 rfl
 have e7 : W1.setCell ⟨Wd.heap.size, 7, none⟩ (.slice none 0 0) = W1 := set_same hX1 rfl
 have e8 : W1.setCell ⟨Wd.heap.size, 8, none⟩ (.int .i64 0) = W1 := set_same hX1 rfl
 have e9 : W1.setCell ⟨Wd.heap.size, 9, none⟩ (.slice none 0 0) = W1 := set_same hX1 rfl
 have p0 := (hbd.cell (p := ⟨w.heap.size, 0, none⟩) hz0).trans d0
 have p1 := (hbd.cell (p := ⟨w.heap.size, 1, none⟩) hz0).trans d1
 have a0 := (hb0.cell (p := ⟨w.heap.size, 0, none⟩) hz0).trans d0
 have a1 := (hb0.cell (p := ⟨w.heap.size, 1, none⟩) hz0).trans d1
 have a2 := (hb0.cell (p := ⟨w.heap.size, 2, none⟩) hz0).trans d2
 have a5 := (hb0.cell (p := ⟨w.heap.size, 5, none⟩) hz0).trans d5
 have a6 := (hb0.cell (p := ⟨w.heap.size, 6, none⟩) hz0).trans d6
 have a7 := (hb0.cell (p := ⟨w.heap.size, 7, none⟩) hz0).trans d7
 have HB1 := Lib.hid hb1
 have HXV := Lib.hid hXV
 have HD : Hid (W0.cell? ⟨w.heap.size, 0, none⟩ = some (.int .i64 2) ∧ W0.cell? ⟨w.heap.size, 1, none⟩ = some (.int .i64 2) ∧ W0.cell? ⟨w.heap.size, 2, none⟩ = some (.slice s.ea s.el s.ec) ∧ W0.cell? ⟨w.heap.size, 3, none⟩ = some (.int .i64 0) ∧ W0.cell? ⟨w.heap.size, 4, none⟩ = some (.string ⟨#[]⟩) ∧ W0.cell? ⟨w.heap.size, 5, none⟩ = some (.int .i64 2) ∧ W0.cell? ⟨w.heap.size, 6, none⟩ = some (.int .i64 8) ∧ W0.cell? ⟨w.heap.size, 7, none⟩ = some (.slice s.ca s.cl s.cc) ∧ W0.cell? ⟨w.heap.size, 8, none⟩ = some (.int .i64 0) ∧ W0.cell? ⟨w.heap.size, 9, none⟩ = some (.slice s.ga s.gl s.gc)) := ⟨d0, d1, d2, d3, d4, d5, d6, d7, d8, d9⟩
 clear hX1 hXV hBV hb0 hb1
 go_wp2_with fail
 let Inv : World → Prop := fun W => Below V.heap.size V W
 have hgo : ∀ W W', Inv W → Below W.heap.size W W' → Inv W' := fun W W' h hb => Below.trans h (hb.mono (Below.size h))
 have hbX : ∀ X : WIn Inv, Below W0.heap.size W0 X.world := fun X => HB1.out.trans (Below.mono X.ok HB1.out.size)
 have q1 : ∀ X : WIn Inv, X.world.cell? ⟨w.heap.size, 1, none⟩ = some (.int .i64 2) := fun X => ((hbX X).cell (p := ⟨w.heap.size, 1, none⟩) hz0).trans d1
 have q5 : ∀ X : WIn Inv, X.world.cell? ⟨w.heap.size, 5, none⟩ = some (.int .i64 2) := fun X => ((hbX X).cell (p := ⟨w.heap.size, 5, none⟩) hz0).trans d5
 have q6 : ∀ X : WIn Inv, X.world.cell? ⟨w.heap.size, 6, none⟩ = some (.int .i64 8) := fun X => ((hbX X).cell (p := ⟨w.heap.size, 6, none⟩) hz0).trans d6
 have q7 : ∀ X : WIn Inv, X.world.cell? ⟨w.heap.size, 7, none⟩ = some (.slice s.ca s.cl s.cc) := fun X => ((hbX X).cell (p := ⟨w.heap.size, 7, none⟩) hz0).trans d7
 have K1 : Hid (∀ X : WIn Inv, Calls Tryz.prog 40 #[.agg #[.int .i64 2, .int .i64 8, .slice s.ca s.cl s.cc]] X.world fun e w' => e = .returned (.bool true) ∧ ∃ Y : WIn Inv, w' = Y.world) := fun X => by
  have h := ref08_Right_any 2 8 s.ca s.cl s.cc l X.world ⟨by decide, by decide⟩ (HA.out.go (hbX X)).c.1.1
  rw [hR] at h
  exact calls_class_below hgo h
 have HQ : Hid (∀ X : WIn Inv, Below V.heap.size V X.world) := fun X => X.ok
 have hI0 : Hid (Inv V.drew) := (Below.refl V.heap.size V).drew
 have hne : Nonempty (WIn Inv) := ⟨⟨_, hI0.out⟩⟩
 clear hgo hbX d0 d1 d2 d3 d4 d5 d6 d7 d8 d9 p0 p1 a0 a1 a2 a5 a6 a7 c0 c1 c2 c3 c4 c5 c6 c7 c8 c9 f0 f1 f2 f3 f4 f5 f6 f7 f8 f9 e1 e2 e3 e4 e5 e6 e7 e8 e9
 clear_value Inv
 refine wp_region_class Inv (by kernel_rfl) (by kernel_rfl) hI0.out ?_
 repeat (first | go_big_quiet_step ((go_at_call 40; with_reducible exact K1.out _)) | quiet_step ((go_at_call 40; with_reducible exact K1.out _)))
 refine wpQuiet_nil ?_
 rintro _ ⟨X, rfl⟩
 have HX9 := Lib.hid (HQ.out X)
 obtain ⟨w2, hw2⟩ : ∃ w2, X.world = w2 := ⟨_, rfl⟩
 rw [hw2] at HX9 ⊢
 clear q1 q5 q6 q7 HQ K1 hI0 hne hw2 X
 obtain ⟨d0, d1, d2, d3, d4, d5, d6, d7, d8, d9⟩ := HD.out
 have hb02 : Below W0.heap.size W0 w2 := HB1.out.trans (HX9.out.mono HB1.out.size)
 have hXw := (HX9.out.block _ (Array.getElem?_eq_some_iff.1 HXV.out).1).trans HXV.out
 have k0 := (hb02.cell (p := ⟨w.heap.size, 0, none⟩) hz0).trans d0
 have k1 := (hb02.cell (p := ⟨w.heap.size, 1, none⟩) hz0).trans d1
 have k2 := (hb02.cell (p := ⟨w.heap.size, 2, none⟩) hz0).trans d2
 have k3 := (hb02.cell (p := ⟨w.heap.size, 3, none⟩) hz0).trans d3
 have k4 := (hb02.cell (p := ⟨w.heap.size, 4, none⟩) hz0).trans d4
 have k5 := (hb02.cell (p := ⟨w.heap.size, 5, none⟩) hz0).trans d5
 have k6 := (hb02.cell (p := ⟨w.heap.size, 6, none⟩) hz0).trans d6
 have k7 := (hb02.cell (p := ⟨w.heap.size, 7, none⟩) hz0).trans d7
 have k8 := (hb02.cell (p := ⟨w.heap.size, 8, none⟩) hz0).trans d8
 have k9 := (hb02.cell (p := ⟨w.heap.size, 9, none⟩) hz0).trans d9
 obtain ⟨m0, m1, m2, m3, m4, m5, m6, m7, m8, m9⟩ := cl10 hXw
 have HS := Lib.hid (ref10_Same_eq ⟨2, 2, [], 0, ⟨#[]⟩, 2, 8, l, 0, []⟩ s ⟨none, 0, 0, s.ca, s.cl, s.cc, none, 0, 0⟩ w2 (HA.out.go hb02) ⟨slC_nil, (HA.out.go hb02).c, slC_nil⟩)
 have HB02 := Lib.hid hb02
 clear hXw d0 d1 d2 d3 d4 d5 d6 d7 d8 d9 hb02 HX9
 go_wp2_with fail
 refine HS.out.mono ?_
 rintro e w3 ⟨rfl, hb3⟩
 have hb03 := HB02.out.trans (hb3.mono HB02.out.size)
 go_wp2_with fail
 go_ret
 exact ⟨rfl, HB0.out.trans (hb03.mono HB0.out.size)⟩
set_option maxRecDepth 100000 in
set_option maxHeartbeats 4000000 in
theorem ref10_Right_cnt3 (l : List Int) (x : Sk) (s : SS) (w : World) (hx : x = ⟨2, 3, [], 0, ⟨#[]⟩, 2, 4, l, 0, []⟩) (hA : s.At w.heap.size w x) (hR : cmRight 2 4 l = true) :
  Calls Tryz.prog 13 #[.agg #[.int .i64 x.kind, .int .i64 x.level, .slice s.ea s.el s.ec, .int .i64 x.hb, .string x.hr, .int .i64 x.cr, .int .i64 x.cc, .slice s.ca s.cl s.cc, .int .i64 x.gf, .slice s.ga s.gl s.gc]] w fun e w' => e = .returned (.bool true) ∧ Below w.heap.size w w' := by
 subst hx
 dsimp only
 obtain ⟨W0, hW0, hX0, hB0, hs0⟩ := boxes1 w #[.int .i64 2, .int .i64 3, .slice s.ea s.el s.ec, .int .i64 0, .string ⟨#[]⟩, .int .i64 2, .int .i64 4, .slice s.ca s.cl s.cc, .int .i64 0, .slice s.ga s.gl s.gc] 39
 have HA := Lib.hid (hA.go hB0)
 have HB0 := Lib.hid hB0
 have HBT : Hid (∀ W, Calls Tryz.prog 37 #[.int .i64 2] W fun e w' => e = .returned (.int .i64 3) ∧ w' = W) := fun W => (ref10_Bottom_any 2 W).mono fun e w' ⟨h1, h2⟩ => ⟨h1, h2.symm⟩
 obtain ⟨d0, d1, d2, d3, d4, d5, d6, d7, d8, d9⟩ := cl10 hX0
 clear hX0 hB0 hA
 go_enter Tryz.func13, Tryz.ntmps13
 go_wp2_with fail
 go_quiet ((go_at_call 37; exact Calls.quiet_of_same (HBT.out _)))
 obtain ⟨Wd, hWd⟩ : ∃ Wd, W0.drewN nq = Wd := ⟨_, rfl⟩
 have hbd : Below W0.heap.size W0 Wd := by rw [← hWd]; exact bDr (Below.refl _ _) _
 rw [hWd]
 obtain ⟨W1, hW1, hX1, hB1, hs1⟩ := boxes1 Wd #[.int .i64 2, .int .i64 3, .slice none 0 0, .int .i64 0, .string ⟨#[]⟩, .int .i64 0, .int .i64 0, .slice none 0 0, .int .i64 0, .slice none 0 0] 39
 obtain ⟨V, hV⟩ : ∃ V, ((W1.setCell ⟨Wd.heap.size, 5, none⟩ (.int .i64 2)).setCell ⟨Wd.heap.size, 6, none⟩ (.int .i64 4)).setCell ⟨Wd.heap.size, 7, none⟩ (.slice s.ca s.cl s.cc) = V := ⟨_, rfl⟩
 have hXV : V.heap[Wd.heap.size]? = some (.cells #[.int .i64 2, .int .i64 3, .slice none 0 0, .int .i64 0, .string ⟨#[]⟩, .int .i64 2, .int .i64 4, .slice s.ca s.cl s.cc, .int .i64 0, .slice none 0 0] 39 (0, 0)) := by rw [← hV]; exact (hSk (hSk (hSk hX1 _) _) _)
 have hBV : Below Wd.heap.size Wd V := by rw [← hV]; exact (((hB1.setCell (p := ⟨Wd.heap.size, 5, none⟩) (Nat.le_refl _) _).setCell (p := ⟨Wd.heap.size, 6, none⟩) (Nat.le_refl _) _).setCell (p := ⟨Wd.heap.size, 7, none⟩) (Nat.le_refl _) _)
 have hb0 : Below W0.heap.size W0 W1 := hbd.trans (hB1.mono hbd.size)
 have hb1 : Below W0.heap.size W0 V := hbd.trans (hBV.mono hbd.size)
 have hz0 : w.heap.size < W0.heap.size := by omega
 have hsd := hbd.size
 obtain ⟨c0, c1, c2, c3, c4, c5, c6, c7, c8, c9⟩ := cl10 hX1
 obtain ⟨f0, f1, f2, f3, f4, f5, f6, f7, f8, f9⟩ := cz10 hX1
 have e1 : W1.setCell ⟨Wd.heap.size, 1, none⟩ (.int .i64 3) = W1 := set_same hX1 rfl
 have e2 : W1.setCell ⟨Wd.heap.size, 2, none⟩ (.slice none 0 0) = W1 := set_same hX1 rfl
 have e3 : W1.setCell ⟨Wd.heap.size, 3, none⟩ (.int .i64 0) = W1 := set_same hX1 rfl
 have e4 : W1.setCell ⟨Wd.heap.size, 4, none⟩ (.string ⟨#[]⟩) = W1 := set_same hX1 rfl
 have e5 : W1.setCell ⟨Wd.heap.size, 5, none⟩ (.int .i64 0) = W1 := set_same hX1 rfl
 have e6 : W1.setCell ⟨Wd.heap.size, 6, none⟩ (.int .i64 0) = W1 := set_same hX1 rfl
 have e7 : W1.setCell ⟨Wd.heap.size, 7, none⟩ (.slice none 0 0) = W1 := set_same hX1 rfl
 have e8 : W1.setCell ⟨Wd.heap.size, 8, none⟩ (.int .i64 0) = W1 := set_same hX1 rfl
 have e9 : W1.setCell ⟨Wd.heap.size, 9, none⟩ (.slice none 0 0) = W1 := set_same hX1 rfl
 have p0 := (hbd.cell (p := ⟨w.heap.size, 0, none⟩) hz0).trans d0
 have p1 := (hbd.cell (p := ⟨w.heap.size, 1, none⟩) hz0).trans d1
 have a0 := (hb0.cell (p := ⟨w.heap.size, 0, none⟩) hz0).trans d0
 have a1 := (hb0.cell (p := ⟨w.heap.size, 1, none⟩) hz0).trans d1
 have a2 := (hb0.cell (p := ⟨w.heap.size, 2, none⟩) hz0).trans d2
 have a5 := (hb0.cell (p := ⟨w.heap.size, 5, none⟩) hz0).trans d5
 have a6 := (hb0.cell (p := ⟨w.heap.size, 6, none⟩) hz0).trans d6
 have a7 := (hb0.cell (p := ⟨w.heap.size, 7, none⟩) hz0).trans d7
 have HB1 := Lib.hid hb1
 have HXV := Lib.hid hXV
 have HD : Hid (W0.cell? ⟨w.heap.size, 0, none⟩ = some (.int .i64 2) ∧ W0.cell? ⟨w.heap.size, 1, none⟩ = some (.int .i64 3) ∧ W0.cell? ⟨w.heap.size, 2, none⟩ = some (.slice s.ea s.el s.ec) ∧ W0.cell? ⟨w.heap.size, 3, none⟩ = some (.int .i64 0) ∧ W0.cell? ⟨w.heap.size, 4, none⟩ = some (.string ⟨#[]⟩) ∧ W0.cell? ⟨w.heap.size, 5, none⟩ = some (.int .i64 2) ∧ W0.cell? ⟨w.heap.size, 6, none⟩ = some (.int .i64 4) ∧ W0.cell? ⟨w.heap.size, 7, none⟩ = some (.slice s.ca s.cl s.cc) ∧ W0.cell? ⟨w.heap.size, 8, none⟩ = some (.int .i64 0) ∧ W0.cell? ⟨w.heap.size, 9, none⟩ = some (.slice s.ga s.gl s.gc)) := ⟨d0, d1, d2, d3, d4, d5, d6, d7, d8, d9⟩
 clear hX1 hXV hBV hb0 hb1
 go_wp2_with fail
 let Inv : World → Prop := fun W => Below V.heap.size V W
 have hgo : ∀ W W', Inv W → Below W.heap.size W W' → Inv W' := fun W W' h hb => Below.trans h (hb.mono (Below.size h))
 have hbX : ∀ X : WIn Inv, Below W0.heap.size W0 X.world := fun X => HB1.out.trans (Below.mono X.ok HB1.out.size)
 have q1 : ∀ X : WIn Inv, X.world.cell? ⟨w.heap.size, 1, none⟩ = some (.int .i64 3) := fun X => ((hbX X).cell (p := ⟨w.heap.size, 1, none⟩) hz0).trans d1
 have q5 : ∀ X : WIn Inv, X.world.cell? ⟨w.heap.size, 5, none⟩ = some (.int .i64 2) := fun X => ((hbX X).cell (p := ⟨w.heap.size, 5, none⟩) hz0).trans d5
 have q6 : ∀ X : WIn Inv, X.world.cell? ⟨w.heap.size, 6, none⟩ = some (.int .i64 4) := fun X => ((hbX X).cell (p := ⟨w.heap.size, 6, none⟩) hz0).trans d6
 have q7 : ∀ X : WIn Inv, X.world.cell? ⟨w.heap.size, 7, none⟩ = some (.slice s.ca s.cl s.cc) := fun X => ((hbX X).cell (p := ⟨w.heap.size, 7, none⟩) hz0).trans d7
 have K1 : Hid (∀ X : WIn Inv, Calls Tryz.prog 40 #[.agg #[.int .i64 2, .int .i64 4, .slice s.ca s.cl s.cc]] X.world fun e w' => e = .returned (.bool true) ∧ ∃ Y : WIn Inv, w' = Y.world) := fun X => by
  have h := ref08_Right_any 2 4 s.ca s.cl s.cc l X.world ⟨by decide, by decide⟩ (HA.out.go (hbX X)).c.1.1
  rw [hR] at h
  exact calls_class_below hgo h
 have HQ : Hid (∀ X : WIn Inv, Below V.heap.size V X.world) := fun X => X.ok
 have hI0 : Hid (Inv V.drew) := (Below.refl V.heap.size V).drew
 have hne : Nonempty (WIn Inv) := ⟨⟨_, hI0.out⟩⟩
 clear hgo hbX d0 d1 d2 d3 d4 d5 d6 d7 d8 d9 p0 p1 a0 a1 a2 a5 a6 a7 c0 c1 c2 c3 c4 c5 c6 c7 c8 c9 f0 f1 f2 f3 f4 f5 f6 f7 f8 f9 e1 e2 e3 e4 e5 e6 e7 e8 e9
 clear_value Inv
 refine wp_region_class Inv (by kernel_rfl) (by kernel_rfl) hI0.out ?_
 repeat (first | go_big_quiet_step ((go_at_call 40; with_reducible exact K1.out _)) | quiet_step ((go_at_call 40; with_reducible exact K1.out _)))
 refine wpQuiet_nil ?_
 rintro _ ⟨X, rfl⟩
 have HX9 := Lib.hid (HQ.out X)
 obtain ⟨w2, hw2⟩ : ∃ w2, X.world = w2 := ⟨_, rfl⟩
 rw [hw2] at HX9 ⊢
 clear q1 q5 q6 q7 HQ K1 hI0 hne hw2 X
 obtain ⟨d0, d1, d2, d3, d4, d5, d6, d7, d8, d9⟩ := HD.out
 have hb02 : Below W0.heap.size W0 w2 := HB1.out.trans (HX9.out.mono HB1.out.size)
 have hXw := (HX9.out.block _ (Array.getElem?_eq_some_iff.1 HXV.out).1).trans HXV.out
 have k0 := (hb02.cell (p := ⟨w.heap.size, 0, none⟩) hz0).trans d0
 have k1 := (hb02.cell (p := ⟨w.heap.size, 1, none⟩) hz0).trans d1
 have k2 := (hb02.cell (p := ⟨w.heap.size, 2, none⟩) hz0).trans d2
 have k3 := (hb02.cell (p := ⟨w.heap.size, 3, none⟩) hz0).trans d3
 have k4 := (hb02.cell (p := ⟨w.heap.size, 4, none⟩) hz0).trans d4
 have k5 := (hb02.cell (p := ⟨w.heap.size, 5, none⟩) hz0).trans d5
 have k6 := (hb02.cell (p := ⟨w.heap.size, 6, none⟩) hz0).trans d6
 have k7 := (hb02.cell (p := ⟨w.heap.size, 7, none⟩) hz0).trans d7
 have k8 := (hb02.cell (p := ⟨w.heap.size, 8, none⟩) hz0).trans d8
 have k9 := (hb02.cell (p := ⟨w.heap.size, 9, none⟩) hz0).trans d9
 obtain ⟨m0, m1, m2, m3, m4, m5, m6, m7, m8, m9⟩ := cl10 hXw
 have HS := Lib.hid (ref10_Same_eq ⟨2, 3, [], 0, ⟨#[]⟩, 2, 4, l, 0, []⟩ s ⟨none, 0, 0, s.ca, s.cl, s.cc, none, 0, 0⟩ w2 (HA.out.go hb02) ⟨slC_nil, (HA.out.go hb02).c, slC_nil⟩)
 have HB02 := Lib.hid hb02
 clear hXw d0 d1 d2 d3 d4 d5 d6 d7 d8 d9 hb02 HX9
 go_wp2_with fail
 refine HS.out.mono ?_
 rintro e w3 ⟨rfl, hb3⟩
 have hb03 := HB02.out.trans (hb3.mono HB02.out.size)
 go_wp2_with fail
 go_ret
 exact ⟨rfl, HB0.out.trans (hb03.mono HB0.out.size)⟩
theorem ref10_Right_good (x : Sk) (s : SS) (w : World) (h : SkGood x) (hA : s.At w.heap.size w x) :
  Calls Tryz.prog 13 #[.agg #[.int .i64 x.kind, .int .i64 x.level, .slice s.ea s.el s.ec, .int .i64 x.hb, .string x.hr, .int .i64 x.cr, .int .i64 x.cc, .slice s.ca s.cl s.cc, .int .i64 x.gf, .slice s.ga s.gl s.gc]] w fun e w' => e = .returned (.bool true) ∧ Below w.heap.size w w' := by
 obtain ⟨k, L, B, rfl, hB⟩ := h
 have hok := skOf_ok hB
 have hbr : bodyRight (skOf k L B) = true := by
  unfold skOk at hok
  simp only [Bool.and_eq_true] at hok
  exact hok.2.1
 cases B with
 | num l =>
  obtain ⟨rfl, rfl, h1, h2, h3⟩ := hB
  exact ref10_Right_num l _ s w rfl hA hbr h3
 | reg b r =>
  obtain ⟨rfl, h1, h2, h3, h4, h5⟩ := hB
  have hb : (b : Int) = 8 - (L : Int) := by omega
  have hL : ((L : Int) == 0) = false := by rw [beq_eq_false_iff_ne]; omega
  refine ref10_Right_reg L h1 h2 (hlStr r) _ s w (by rw [← hb]; rfl) hA ?_
  unfold bodyRight at hbr
  simp only [skOf, skReg, hL] at hbr
  rw [← hb]
  simp at hbr
  exact hbr.1
 | cnt c l =>
  obtain ⟨rfl, h1, h2, h3, h4⟩ := hB
  have hcm : cmRight 2 (c : Int) l = true := by
   unfold bodyRight at hbr
   simp only [skOf, skCnt] at hbr
   simp at hbr
   exact hbr.1
  obtain ⟨rfl, rfl⟩ | ⟨rfl, rfl⟩ | ⟨rfl, rfl⟩ | ⟨rfl, rfl⟩ : (L = 0 ∧ c = 32) ∨ (L = 1 ∧ c = 16) ∨ (L = 2 ∧ c = 8) ∨ (L = 3 ∧ c = 4) := by
   obtain rfl | rfl | rfl | rfl : L = 0 ∨ L = 1 ∨ L = 2 ∨ L = 3 := by omega
   all_goals (simp at h2; omega)
  ·exact ref10_Right_cnt0 l _ s w rfl hA hcm
  ·exact ref10_Right_cnt1 l _ s w rfl hA hcm
  ·exact ref10_Right_cnt2 l _ s w rfl hA hcm
  ·exact ref10_Right_cnt3 l _ s w rfl hA hcm
 | bkt f l =>
  obtain ⟨rfl, h1, h2, h3, h4, h5, h6⟩ := hB
  have hf : (f : Int) = 3 - (L : Int) := by omega
  refine ref10_Right_bkt L h1 l _ s w (by rw [← hf]; rfl) hA ?_ ?_
  ·unfold bodyRight at hbr
   simp only [skOf, skBkt] at hbr
   rw [← hf]
   simp at hbr
   exact hbr.1
  ·exact fun b hb => ⟨bins_i64 f l (by omega) h6 b hb, h5 b hb⟩
end Go.Proofs.YthbhmnakmhambaaGreatDoor
