/- The reference of layer 10: Right, at any sketches. Printed by gen_rq.py. -/
import Derived.Test.YtcbbenncdainfaaGreatDoorYRKw
import Derived.Test.YtcbbenncdainfaaGreatDoorYRP
namespace Go.Proofs.YtcbbenncdainfaaGreatDoor
open Go Go.RowKit Go.Shelf
set_option maxRecDepth 100000 in
set_option maxHeartbeats 8000000 in
theorem ref10_Right_num'  (el : List Int) (hb : Int) (hr : ByteArray) (cr cc : Int) (cl : List Int) (gf : Int) (gl : List (Int × Int)) (s : SS) (w : World) (hA : s.At w.heap.size w (⟨1, 0, el, hb, hr, cr, cc, cl, gf, gl⟩ : Sk)) (hU : U64s el) :
  Calls Tryz.prog 20 #[.agg #[.int .i64 1, .int .i64 0, .slice s.ea s.el s.ec, .int .i64 hb, .string hr, .int .i64 cr, .int .i64 cc, .slice s.ca s.cl s.cc, .int .i64 gf, .slice s.ga s.gl s.gc]] w fun e w' => e = .returned (.bool ((exRight el) && skSame (⟨1, 0, el, hb, hr, cr, cc, cl, gf, gl⟩ : Sk) (skNum 1 0 el))) ∧ Below w.heap.size w w' := by
 obtain ⟨W0, hW0, hX0, hB0, hs0⟩ := boxes1 w #[.int .i64 1, .int .i64 0, .slice s.ea s.el s.ec, .int .i64 hb, .string hr, .int .i64 cr, .int .i64 cc, .slice s.ca s.cl s.cc, .int .i64 gf, .slice s.ga s.gl s.gc] 33
 have HA := Lib.hid (hA.go hB0)
 have HB0 := Lib.hid hB0
 have HBT : Hid (∀ W, Calls Tryz.prog 22 #[.int .i64 1] W fun e w' => e = .returned (.int .i64 4) ∧ w' = W) := fun W => (ref10_Bottom_any 1 W).mono fun e w' ⟨h1, h2⟩ => ⟨h1, h2.symm⟩
 obtain ⟨d0, d1, d2, d3, d4, d5, d6, d7, d8, d9⟩ := cl10 hX0
 clear hX0 hB0 hA
 obtain ⟨bR, hbR⟩ : ∃ bR, exRight el = bR := ⟨_, rfl⟩
 have HRS : Hid ((exRight el) = (bR)) := by rw [Hid, hbR]
 obtain ⟨sR, hsR⟩ : ∃ sR, skSame (⟨1, 0, el, hb, hr, cr, cc, cl, gf, gl⟩ : Sk) (skNum 1 0 el) = sR := ⟨_, rfl⟩
 have HSR := Lib.hid hsR
 rw [hsR]
 clear hsR
 go_enter Tryz.func20, Tryz.ntmps20
 go_wp2_with fail
 go_quiet ((go_at_call 22; exact Calls.quiet_of_same (HBT.out _)))
 obtain ⟨Wd, hWd⟩ : ∃ Wd, W0.drewN nq = Wd := ⟨_, rfl⟩
 have hbd : Below W0.heap.size W0 Wd := by rw [← hWd]; exact bDr (Below.refl _ _) _
 rw [hWd]
 obtain ⟨W1, hW1, hX1, hB1, hs1⟩ := boxes1 Wd #[.int .i64 1, .int .i64 0, .slice none 0 0, .int .i64 0, .string ⟨#[]⟩, .int .i64 0, .int .i64 0, .slice none 0 0, .int .i64 0, .slice none 0 0] 33
 obtain ⟨V, hV⟩ : ∃ V, W1.setCell ⟨Wd.heap.size, 2, none⟩ (.slice s.ea s.el s.ec) = V := ⟨_, rfl⟩
 have hXV : V.heap[Wd.heap.size]? = some (.cells #[.int .i64 1, .int .i64 0, .slice s.ea s.el s.ec, .int .i64 0, .string ⟨#[]⟩, .int .i64 0, .int .i64 0, .slice none 0 0, .int .i64 0, .slice none 0 0] 33 (0, 0)) := by rw [← hV]; exact (hSk hX1 _)
 have hBV : Below Wd.heap.size Wd V := by rw [← hV]; exact (hB1.setCell (p := ⟨Wd.heap.size, 2, none⟩) (Nat.le_refl _) _)
 have hb0 : Below W0.heap.size W0 W1 := hbd.trans (hB1.mono hbd.size)
 have hb1 : Below W0.heap.size W0 V := hbd.trans (hBV.mono hbd.size)
 have hz0 : w.heap.size < W0.heap.size := by omega
 have hsd := hbd.size
 have HRt : Hid (Calls Tryz.prog 54 #[.agg #[.slice s.ea s.el s.ec]] V fun e w' => e = .returned (.bool bR) ∧ Below V.heap.size V w') := by
  have h := ref06_Right_any s.ea s.el s.ec el V (HA.out.go hb1).e.1 (Nat.le_trans HA.out.e.2.1 HA.out.e.2.2.1) hU
  rw [hbR] at h
  exact h
 obtain ⟨c0, c1, c2, c3, c4, c5, c6, c7, c8, c9⟩ := cl10 hX1
 obtain ⟨f0, f1, f2, f3, f4, f5, f6, f7, f8, f9⟩ := cz10 hX1
 have e1 : W1.setCell ⟨Wd.heap.size, 1, none⟩ (.int .i64 0) = W1 := set_same hX1 rfl
 have e2 : W1.setCell ⟨Wd.heap.size, 2, none⟩ (.slice none 0 0) = W1 := set_same hX1 rfl
 have e3 : W1.setCell ⟨Wd.heap.size, 3, none⟩ (.int .i64 0) = W1 := set_same hX1 rfl
 have e4 : W1.setCell ⟨Wd.heap.size, 4, none⟩ (.string ⟨#[]⟩) = W1 := set_same hX1 rfl
 have e5 : W1.setCell ⟨Wd.heap.size, 5, none⟩ (.int .i64 0) = W1 := set_same hX1 rfl
 have e6 : W1.setCell ⟨Wd.heap.size, 6, none⟩ (.int .i64 0) = W1 := set_same hX1 rfl
 have e7 : W1.setCell ⟨Wd.heap.size, 7, none⟩ (.slice none 0 0) = W1 := set_same hX1 rfl
 have e8 : W1.setCell ⟨Wd.heap.size, 8, none⟩ (.int .i64 0) = W1 := set_same hX1 rfl
 have e9 : W1.setCell ⟨Wd.heap.size, 9, none⟩ (.slice none 0 0) = W1 := set_same hX1 rfl
 have p0 := (hbd.cell (p := ⟨w.heap.size, 0, none⟩) hz0).trans d0
 have p1 := (hbd.cell (p := ⟨w.heap.size, 1, none⟩) hz0).trans d1
 have a0 := (hb0.cell (p := ⟨w.heap.size, 0, none⟩) hz0).trans d0
 have a1 := (hb0.cell (p := ⟨w.heap.size, 1, none⟩) hz0).trans d1
 have a2 := (hb0.cell (p := ⟨w.heap.size, 2, none⟩) hz0).trans d2
 have b0 := (hb1.cell (p := ⟨w.heap.size, 0, none⟩) hz0).trans d0
 have b1 := (hb1.cell (p := ⟨w.heap.size, 1, none⟩) hz0).trans d1
 have b2 := (hb1.cell (p := ⟨w.heap.size, 2, none⟩) hz0).trans d2
 have HB1 := Lib.hid hb1
 have HXV := Lib.hid hXV
 have HR := Lib.hid hbR
 clear hX1 hXV hBV hb0 hb1 hbR hU
 go_wp2_with fail
 refine HRt.out.mono ?_
 rintro e w2 ⟨rfl, hb2⟩
 have hb02 : Below W0.heap.size W0 w2 := HB1.out.trans (hb2.mono HB1.out.size)
 have hXw := (hb2.block _ (Array.getElem?_eq_some_iff.1 HXV.out).1).trans HXV.out
 have k0 := (hb02.cell (p := ⟨w.heap.size, 0, none⟩) hz0).trans d0
 have k1 := (hb02.cell (p := ⟨w.heap.size, 1, none⟩) hz0).trans d1
 have k2 := (hb02.cell (p := ⟨w.heap.size, 2, none⟩) hz0).trans d2
 have k3 := (hb02.cell (p := ⟨w.heap.size, 3, none⟩) hz0).trans d3
 have k4 := (hb02.cell (p := ⟨w.heap.size, 4, none⟩) hz0).trans d4
 have k5 := (hb02.cell (p := ⟨w.heap.size, 5, none⟩) hz0).trans d5
 have k6 := (hb02.cell (p := ⟨w.heap.size, 6, none⟩) hz0).trans d6
 have k7 := (hb02.cell (p := ⟨w.heap.size, 7, none⟩) hz0).trans d7
 have k8 := (hb02.cell (p := ⟨w.heap.size, 8, none⟩) hz0).trans d8
 have k9 := (hb02.cell (p := ⟨w.heap.size, 9, none⟩) hz0).trans d9
 obtain ⟨m0, m1, m2, m3, m4, m5, m6, m7, m8, m9⟩ := cl10 hXw
 have hS := ref10_Same_any (⟨1, 0, el, hb, hr, cr, cc, cl, gf, gl⟩ : Sk) (skNum 1 0 el) s ⟨s.ea, s.el, s.ec, none, 0, 0, none, 0, 0⟩ w2 (HA.out.go hb02) ⟨(HA.out.go hb02).e, slC_nil, slC_nil⟩
 rw [HSR.out] at hS
 have HS := Lib.hid hS
 clear hS
 have HB02 := Lib.hid hb02
 clear hXw hb2 hb02
 cases bR with
 | false =>
  go_wp2_with fail
  go_ret
  exact ⟨by rw [HRS.out]; rfl, HB0.out.trans (HB02.out.mono HB0.out.size)⟩
 | true =>
 go_wp2_with fail
 refine HS.out.mono ?_
 rintro e w3 ⟨rfl, hb3⟩
 have hb03 := HB02.out.trans (hb3.mono HB02.out.size)
 go_wp2_with fail
 go_ret
 exact ⟨by rw [HRS.out]; rfl, HB0.out.trans (hb03.mono HB0.out.size)⟩
set_option maxRecDepth 100000 in
set_option maxHeartbeats 8000000 in
theorem ref10_Right_reg' (L : Nat) (hL1 : 1 ≤ L) (hL4 : L ≤ 4) (el : List Int) (hb : Int) (hr : ByteArray) (cr cc : Int) (cl : List Int) (gf : Int) (gl : List (Int × Int)) (s : SS) (w : World) (hA : s.At w.heap.size w (⟨1, L, el, hb, hr, cr, cc, cl, gf, gl⟩ : Sk))  :
  Calls Tryz.prog 20 #[.agg #[.int .i64 1, .int .i64 L, .slice s.ea s.el s.ec, .int .i64 hb, .string hr, .int .i64 cr, .int .i64 cc, .slice s.ca s.cl s.cc, .int .i64 gf, .slice s.ga s.gl s.gc]] w fun e w' => e = .returned (.bool ((hlRight hb hr && (hb == 8 - (L : Int))) && skSame (⟨1, L, el, hb, hr, cr, cc, cl, gf, gl⟩ : Sk) (skReg 1 L hb hr))) ∧ Below w.heap.size w w' := by
 obtain ⟨W0, hW0, hX0, hB0, hs0⟩ := boxes1 w #[.int .i64 1, .int .i64 L, .slice s.ea s.el s.ec, .int .i64 hb, .string hr, .int .i64 cr, .int .i64 cc, .slice s.ca s.cl s.cc, .int .i64 gf, .slice s.ga s.gl s.gc] 33
 have HA := Lib.hid (hA.go hB0)
 have HB0 := Lib.hid hB0
 have HBT : Hid (∀ W, Calls Tryz.prog 22 #[.int .i64 1] W fun e w' => e = .returned (.int .i64 4) ∧ w' = W) := fun W => (ref10_Bottom_any 1 W).mono fun e w' ⟨h1, h2⟩ => ⟨h1, h2.symm⟩
 obtain ⟨d0, d1, d2, d3, d4, d5, d6, d7, d8, d9⟩ := cl10 hX0
 clear hX0 hB0 hA
 have t0 : ((L : Int) == 0) = false := by rw [beq_eq_false_iff_ne]; omega
 have t2 : ¬ (4 : Int) < (L : Int) := by omega
 have t3 : ¬ (L : Int) < 0 := by omega
 obtain ⟨bR, hbR⟩ : ∃ bR, hlRight hb hr = bR := ⟨_, rfl⟩
 obtain ⟨q0, hq0⟩ : ∃ c, (hb == 8 - (L : Int)) = c := ⟨_, rfl⟩
 have HRS : Hid ((hlRight hb hr && (hb == 8 - (L : Int))) = (bR && q0)) := by rw [Hid, hbR, hq0]
 obtain ⟨sR, hsR⟩ : ∃ sR, skSame (⟨1, L, el, hb, hr, cr, cc, cl, gf, gl⟩ : Sk) (skReg 1 L hb hr) = sR := ⟨_, rfl⟩
 have HSR := Lib.hid hsR
 rw [hsR]
 clear hsR
 go_enter Tryz.func20, Tryz.ntmps20
 go_wp2_with fail
 go_quiet ((go_at_call 22; exact Calls.quiet_of_same (HBT.out _)))
 obtain ⟨Wd, hWd⟩ : ∃ Wd, W0.drewN nq = Wd := ⟨_, rfl⟩
 have hbd : Below W0.heap.size W0 Wd := by rw [← hWd]; exact bDr (Below.refl _ _) _
 rw [hWd]
 obtain ⟨W1, hW1, hX1, hB1, hs1⟩ := boxes1 Wd #[.int .i64 1, .int .i64 L, .slice none 0 0, .int .i64 0, .string ⟨#[]⟩, .int .i64 0, .int .i64 0, .slice none 0 0, .int .i64 0, .slice none 0 0] 33
 obtain ⟨V, hV⟩ : ∃ V, (W1.setCell ⟨Wd.heap.size, 3, none⟩ (.int .i64 hb)).setCell ⟨Wd.heap.size, 4, none⟩ (.string hr) = V := ⟨_, rfl⟩
 have hXV : V.heap[Wd.heap.size]? = some (.cells #[.int .i64 1, .int .i64 L, .slice none 0 0, .int .i64 hb, .string hr, .int .i64 0, .int .i64 0, .slice none 0 0, .int .i64 0, .slice none 0 0] 33 (0, 0)) := by rw [← hV]; exact (hSk (hSk hX1 _) _)
 have hBV : Below Wd.heap.size Wd V := by rw [← hV]; exact ((hB1.setCell (p := ⟨Wd.heap.size, 3, none⟩) (Nat.le_refl _) _).setCell (p := ⟨Wd.heap.size, 4, none⟩) (Nat.le_refl _) _)
 have hb0 : Below W0.heap.size W0 W1 := hbd.trans (hB1.mono hbd.size)
 have hb1 : Below W0.heap.size W0 V := hbd.trans (hBV.mono hbd.size)
 have hz0 : w.heap.size < W0.heap.size := by omega
 have hsd := hbd.size
 have HRt : Hid (Calls Tryz.prog 55 #[.agg #[.int .i64 hb, .string hr]] V fun e w' => e = .returned (.bool bR) ∧ Below V.heap.size V w') := by
  have h := ref07_Right_any hb hr V
  rw [hbR] at h
  exact h
 obtain ⟨c0, c1, c2, c3, c4, c5, c6, c7, c8, c9⟩ := cl10 hX1
 obtain ⟨f0, f1, f2, f3, f4, f5, f6, f7, f8, f9⟩ := cz10 hX1
 have e1 : W1.setCell ⟨Wd.heap.size, 1, none⟩ (.int .i64 L) = W1 := set_same hX1 rfl
 have e2 : W1.setCell ⟨Wd.heap.size, 2, none⟩ (.slice none 0 0) = W1 := set_same hX1 rfl
 have e3 : W1.setCell ⟨Wd.heap.size, 3, none⟩ (.int .i64 0) = W1 := set_same hX1 rfl
 have e4 : W1.setCell ⟨Wd.heap.size, 4, none⟩ (.string ⟨#[]⟩) = W1 := set_same hX1 rfl
 have e5 : W1.setCell ⟨Wd.heap.size, 5, none⟩ (.int .i64 0) = W1 := set_same hX1 rfl
 have e6 : W1.setCell ⟨Wd.heap.size, 6, none⟩ (.int .i64 0) = W1 := set_same hX1 rfl
 have e7 : W1.setCell ⟨Wd.heap.size, 7, none⟩ (.slice none 0 0) = W1 := set_same hX1 rfl
 have e8 : W1.setCell ⟨Wd.heap.size, 8, none⟩ (.int .i64 0) = W1 := set_same hX1 rfl
 have e9 : W1.setCell ⟨Wd.heap.size, 9, none⟩ (.slice none 0 0) = W1 := set_same hX1 rfl
 have p0 := (hbd.cell (p := ⟨w.heap.size, 0, none⟩) hz0).trans d0
 have p1 := (hbd.cell (p := ⟨w.heap.size, 1, none⟩) hz0).trans d1
 have a0 := (hb0.cell (p := ⟨w.heap.size, 0, none⟩) hz0).trans d0
 have a1 := (hb0.cell (p := ⟨w.heap.size, 1, none⟩) hz0).trans d1
 have a2 := (hb0.cell (p := ⟨w.heap.size, 2, none⟩) hz0).trans d2
 have a3 := (hb0.cell (p := ⟨w.heap.size, 3, none⟩) hz0).trans d3
 have a4 := (hb0.cell (p := ⟨w.heap.size, 4, none⟩) hz0).trans d4
 have b0 := (hb1.cell (p := ⟨w.heap.size, 0, none⟩) hz0).trans d0
 have b1 := (hb1.cell (p := ⟨w.heap.size, 1, none⟩) hz0).trans d1
 have b3 := (hb1.cell (p := ⟨w.heap.size, 3, none⟩) hz0).trans d3
 have b4 := (hb1.cell (p := ⟨w.heap.size, 4, none⟩) hz0).trans d4
 have HB1 := Lib.hid hb1
 have HXV := Lib.hid hXV
 have HR := Lib.hid hbR
 clear hX1 hXV hBV hb0 hb1 hbR
 go_wp2_with fail
 refine HRt.out.mono ?_
 rintro e w2 ⟨rfl, hb2⟩
 have hb02 : Below W0.heap.size W0 w2 := HB1.out.trans (hb2.mono HB1.out.size)
 have hXw := (hb2.block _ (Array.getElem?_eq_some_iff.1 HXV.out).1).trans HXV.out
 have k0 := (hb02.cell (p := ⟨w.heap.size, 0, none⟩) hz0).trans d0
 have k1 := (hb02.cell (p := ⟨w.heap.size, 1, none⟩) hz0).trans d1
 have k2 := (hb02.cell (p := ⟨w.heap.size, 2, none⟩) hz0).trans d2
 have k3 := (hb02.cell (p := ⟨w.heap.size, 3, none⟩) hz0).trans d3
 have k4 := (hb02.cell (p := ⟨w.heap.size, 4, none⟩) hz0).trans d4
 have k5 := (hb02.cell (p := ⟨w.heap.size, 5, none⟩) hz0).trans d5
 have k6 := (hb02.cell (p := ⟨w.heap.size, 6, none⟩) hz0).trans d6
 have k7 := (hb02.cell (p := ⟨w.heap.size, 7, none⟩) hz0).trans d7
 have k8 := (hb02.cell (p := ⟨w.heap.size, 8, none⟩) hz0).trans d8
 have k9 := (hb02.cell (p := ⟨w.heap.size, 9, none⟩) hz0).trans d9
 obtain ⟨m0, m1, m2, m3, m4, m5, m6, m7, m8, m9⟩ := cl10 hXw
 have hS := ref10_Same_any (⟨1, L, el, hb, hr, cr, cc, cl, gf, gl⟩ : Sk) (skReg 1 L hb hr) s ⟨none, 0, 0, none, 0, 0, none, 0, 0⟩ w2 (HA.out.go hb02) ⟨slC_nil, slC_nil, slC_nil⟩
 rw [HSR.out] at hS
 have HS := Lib.hid hS
 clear hS
 have HB02 := Lib.hid hb02
 clear hXw hb2 hb02
 cases bR with
 | false =>
  go_wp2_with fail
  go_ret
  exact ⟨by rw [HRS.out]; rfl, HB0.out.trans (HB02.out.mono HB0.out.size)⟩
 | true =>
 cases q0 with
 | false =>
  go_wp2_with fail
  go_ret
  exact ⟨by rw [HRS.out]; rfl, HB0.out.trans (HB02.out.mono HB0.out.size)⟩
 | true =>
 go_wp2_with fail
 refine HS.out.mono ?_
 rintro e w3 ⟨rfl, hb3⟩
 have hb03 := HB02.out.trans (hb3.mono HB02.out.size)
 go_wp2_with fail
 go_ret
 exact ⟨by rw [HRS.out]; rfl, HB0.out.trans (hb03.mono HB0.out.size)⟩
set_option maxRecDepth 100000 in
set_option maxHeartbeats 8000000 in
theorem ref10_Right_bkt' (L : Nat) (hL4 : L ≤ 3) (el : List Int) (hb : Int) (hr : ByteArray) (cr cc : Int) (cl : List Int) (gf : Int) (gl : List (Int × Int)) (s : SS) (w : World) (hA : s.At w.heap.size w (⟨3, L, el, hb, hr, cr, cc, cl, gf, gl⟩ : Sk)) (hU : Bins gl) :
  Calls Tryz.prog 20 #[.agg #[.int .i64 3, .int .i64 L, .slice s.ea s.el s.ec, .int .i64 hb, .string hr, .int .i64 cr, .int .i64 cc, .slice s.ca s.cl s.cc, .int .i64 gf, .slice s.ga s.gl s.gc]] w fun e w' => e = .returned (.bool ((hiRight gf gl && (gf == 3 - (L : Int))) && skSame (⟨3, L, el, hb, hr, cr, cc, cl, gf, gl⟩ : Sk) (skBkt 3 L gf gl))) ∧ Below w.heap.size w w' := by
 obtain ⟨W0, hW0, hX0, hB0, hs0⟩ := boxes1 w #[.int .i64 3, .int .i64 L, .slice s.ea s.el s.ec, .int .i64 hb, .string hr, .int .i64 cr, .int .i64 cc, .slice s.ca s.cl s.cc, .int .i64 gf, .slice s.ga s.gl s.gc] 33
 have HA := Lib.hid (hA.go hB0)
 have HB0 := Lib.hid hB0
 have HBT : Hid (∀ W, Calls Tryz.prog 22 #[.int .i64 3] W fun e w' => e = .returned (.int .i64 3) ∧ w' = W) := fun W => (ref10_Bottom_any 3 W).mono fun e w' ⟨h1, h2⟩ => ⟨h1, h2.symm⟩
 obtain ⟨d0, d1, d2, d3, d4, d5, d6, d7, d8, d9⟩ := cl10 hX0
 clear hX0 hB0 hA
 have t2 : ¬ (3 : Int) < (L : Int) := by omega
 have t3 : ¬ (L : Int) < 0 := by omega
 obtain ⟨bR, hbR⟩ : ∃ bR, hiRight gf gl = bR := ⟨_, rfl⟩
 obtain ⟨q0, hq0⟩ : ∃ c, (gf == 3 - (L : Int)) = c := ⟨_, rfl⟩
 have HRS : Hid ((hiRight gf gl && (gf == 3 - (L : Int))) = (bR && q0)) := by rw [Hid, hbR, hq0]
 obtain ⟨sR, hsR⟩ : ∃ sR, skSame (⟨3, L, el, hb, hr, cr, cc, cl, gf, gl⟩ : Sk) (skBkt 3 L gf gl) = sR := ⟨_, rfl⟩
 have HSR := Lib.hid hsR
 rw [hsR]
 clear hsR
 go_enter Tryz.func20, Tryz.ntmps20
 go_wp2_with fail
 go_quiet ((go_at_call 22; exact Calls.quiet_of_same (HBT.out _)))
 obtain ⟨Wd, hWd⟩ : ∃ Wd, W0.drewN nq = Wd := ⟨_, rfl⟩
 have hbd : Below W0.heap.size W0 Wd := by rw [← hWd]; exact bDr (Below.refl _ _) _
 rw [hWd]
 obtain ⟨W1, hW1, hX1, hB1, hs1⟩ := boxes1 Wd #[.int .i64 3, .int .i64 L, .slice none 0 0, .int .i64 0, .string ⟨#[]⟩, .int .i64 0, .int .i64 0, .slice none 0 0, .int .i64 0, .slice none 0 0] 33
 obtain ⟨V, hV⟩ : ∃ V, (W1.setCell ⟨Wd.heap.size, 8, none⟩ (.int .i64 gf)).setCell ⟨Wd.heap.size, 9, none⟩ (.slice s.ga s.gl s.gc) = V := ⟨_, rfl⟩
 have hXV : V.heap[Wd.heap.size]? = some (.cells #[.int .i64 3, .int .i64 L, .slice none 0 0, .int .i64 0, .string ⟨#[]⟩, .int .i64 0, .int .i64 0, .slice none 0 0, .int .i64 gf, .slice s.ga s.gl s.gc] 33 (0, 0)) := by rw [← hV]; exact (hSk (hSk hX1 _) _)
 have hBV : Below Wd.heap.size Wd V := by rw [← hV]; exact ((hB1.setCell (p := ⟨Wd.heap.size, 8, none⟩) (Nat.le_refl _) _).setCell (p := ⟨Wd.heap.size, 9, none⟩) (Nat.le_refl _) _)
 have hb0 : Below W0.heap.size W0 W1 := hbd.trans (hB1.mono hbd.size)
 have hb1 : Below W0.heap.size W0 V := hbd.trans (hBV.mono hbd.size)
 have hz0 : w.heap.size < W0.heap.size := by omega
 have hsd := hbd.size
 have HRt : Hid (Calls Tryz.prog 57 #[.agg #[.int .i64 gf, .slice s.ga s.gl s.gc]] V fun e w' => e = .returned (.bool bR) ∧ Below V.heap.size V w') := by
  have h := ref09_Right_any gf s.ga s.gl s.gc gl V (HA.out.go hb1).g.1 (Nat.le_trans HA.out.g.2.1 HA.out.g.2.2.1) hU
  rw [hbR] at h
  exact h
 obtain ⟨c0, c1, c2, c3, c4, c5, c6, c7, c8, c9⟩ := cl10 hX1
 obtain ⟨f0, f1, f2, f3, f4, f5, f6, f7, f8, f9⟩ := cz10 hX1
 have e1 : W1.setCell ⟨Wd.heap.size, 1, none⟩ (.int .i64 L) = W1 := set_same hX1 rfl
 have e2 : W1.setCell ⟨Wd.heap.size, 2, none⟩ (.slice none 0 0) = W1 := set_same hX1 rfl
 have e3 : W1.setCell ⟨Wd.heap.size, 3, none⟩ (.int .i64 0) = W1 := set_same hX1 rfl
 have e4 : W1.setCell ⟨Wd.heap.size, 4, none⟩ (.string ⟨#[]⟩) = W1 := set_same hX1 rfl
 have e5 : W1.setCell ⟨Wd.heap.size, 5, none⟩ (.int .i64 0) = W1 := set_same hX1 rfl
 have e6 : W1.setCell ⟨Wd.heap.size, 6, none⟩ (.int .i64 0) = W1 := set_same hX1 rfl
 have e7 : W1.setCell ⟨Wd.heap.size, 7, none⟩ (.slice none 0 0) = W1 := set_same hX1 rfl
 have e8 : W1.setCell ⟨Wd.heap.size, 8, none⟩ (.int .i64 0) = W1 := set_same hX1 rfl
 have e9 : W1.setCell ⟨Wd.heap.size, 9, none⟩ (.slice none 0 0) = W1 := set_same hX1 rfl
 have p0 := (hbd.cell (p := ⟨w.heap.size, 0, none⟩) hz0).trans d0
 have p1 := (hbd.cell (p := ⟨w.heap.size, 1, none⟩) hz0).trans d1
 have a0 := (hb0.cell (p := ⟨w.heap.size, 0, none⟩) hz0).trans d0
 have a1 := (hb0.cell (p := ⟨w.heap.size, 1, none⟩) hz0).trans d1
 have a2 := (hb0.cell (p := ⟨w.heap.size, 2, none⟩) hz0).trans d2
 have a8 := (hb0.cell (p := ⟨w.heap.size, 8, none⟩) hz0).trans d8
 have a9 := (hb0.cell (p := ⟨w.heap.size, 9, none⟩) hz0).trans d9
 have b0 := (hb1.cell (p := ⟨w.heap.size, 0, none⟩) hz0).trans d0
 have b1 := (hb1.cell (p := ⟨w.heap.size, 1, none⟩) hz0).trans d1
 have b8 := (hb1.cell (p := ⟨w.heap.size, 8, none⟩) hz0).trans d8
 have b9 := (hb1.cell (p := ⟨w.heap.size, 9, none⟩) hz0).trans d9
 have HB1 := Lib.hid hb1
 have HXV := Lib.hid hXV
 have HR := Lib.hid hbR
 clear hX1 hXV hBV hb0 hb1 hbR hU
 go_wp2_with fail
 refine HRt.out.mono ?_
 rintro e w2 ⟨rfl, hb2⟩
 have hb02 : Below W0.heap.size W0 w2 := HB1.out.trans (hb2.mono HB1.out.size)
 have hXw := (hb2.block _ (Array.getElem?_eq_some_iff.1 HXV.out).1).trans HXV.out
 have k0 := (hb02.cell (p := ⟨w.heap.size, 0, none⟩) hz0).trans d0
 have k1 := (hb02.cell (p := ⟨w.heap.size, 1, none⟩) hz0).trans d1
 have k2 := (hb02.cell (p := ⟨w.heap.size, 2, none⟩) hz0).trans d2
 have k3 := (hb02.cell (p := ⟨w.heap.size, 3, none⟩) hz0).trans d3
 have k4 := (hb02.cell (p := ⟨w.heap.size, 4, none⟩) hz0).trans d4
 have k5 := (hb02.cell (p := ⟨w.heap.size, 5, none⟩) hz0).trans d5
 have k6 := (hb02.cell (p := ⟨w.heap.size, 6, none⟩) hz0).trans d6
 have k7 := (hb02.cell (p := ⟨w.heap.size, 7, none⟩) hz0).trans d7
 have k8 := (hb02.cell (p := ⟨w.heap.size, 8, none⟩) hz0).trans d8
 have k9 := (hb02.cell (p := ⟨w.heap.size, 9, none⟩) hz0).trans d9
 obtain ⟨m0, m1, m2, m3, m4, m5, m6, m7, m8, m9⟩ := cl10 hXw
 have hS := ref10_Same_any (⟨3, L, el, hb, hr, cr, cc, cl, gf, gl⟩ : Sk) (skBkt 3 L gf gl) s ⟨none, 0, 0, none, 0, 0, s.ga, s.gl, s.gc⟩ w2 (HA.out.go hb02) ⟨slC_nil, slC_nil, (HA.out.go hb02).g⟩
 rw [HSR.out] at hS
 have HS := Lib.hid hS
 clear hS
 have HB02 := Lib.hid hb02
 clear hXw hb2 hb02
 cases bR with
 | false =>
  go_wp2_with fail
  go_ret
  exact ⟨by rw [HRS.out]; rfl, HB0.out.trans (HB02.out.mono HB0.out.size)⟩
 | true =>
 cases q0 with
 | false =>
  go_wp2_with fail
  go_ret
  exact ⟨by rw [HRS.out]; rfl, HB0.out.trans (HB02.out.mono HB0.out.size)⟩
 | true =>
 go_wp2_with fail
 refine HS.out.mono ?_
 rintro e w3 ⟨rfl, hb3⟩
 have hb03 := HB02.out.trans (hb3.mono HB02.out.size)
 go_wp2_with fail
 go_ret
 exact ⟨by rw [HRS.out]; rfl, HB0.out.trans (hb03.mono HB0.out.size)⟩
end Go.Proofs.YtcbbenncdainfaaGreatDoor
