/- The reference of layer 10: Merge, at any sketches. Printed by gen_dn.py. -/
import Derived.Test.YtcbbenncdainfaaGreatDoorZLN
namespace Go.Proofs.YtcbbenncdainfaaGreatDoor
open Go Go.RowKit Go.Shelf
theorem skOf_lim {k L : Nat} {B : Bd} (hB : B.Ok k L) : (skOf k L B).lim := by
 obtain ⟨h1, h2, h3⟩ := ok_lims hB
 have hz : ([] : List Int).length < 2147483648 := by decide
 have hz2 : ([] : List (Int × Int)).length < 2147483648 := by decide
 have hc : U64s [] := fun _ h => by cases h
 cases B with
 | num l => exact ⟨h1, hc, h3, h2, skOf_fit hB, (by have := hB.2.2.2.1; show l.length < _; omega), hz, hz2⟩
 | reg b r => exact ⟨h1, hc, h3, h2, skOf_fit hB, hz, hz, hz2⟩
 | cnt c l =>
  obtain ⟨-, g2, g3, g4, g5⟩ := id hB
  have : c ≤ 32 := by
   have := Nat.le_mul_of_pos_right c (Nat.two_pow_pos L)
   omega
  exact ⟨h1, g5, h3, h2, skOf_fit hB, hz, (by show l.length < _; omega), hz2⟩
 | bkt f l =>
  obtain ⟨-, g2, g3, g4, g5, g6, g7⟩ := id hB
  have := (BkR.mk (by omega) g4 g5 g6 g7 : BkR f l).len
  exact ⟨h1, hc, h3, h2, skOf_fit hB, hz, hz, (by show l.length < _; omega)⟩
theorem ref10_To_good {k L : Nat} {B B' : Bd} {m : Nat} {x x' : Sk} (hB : B.Ok k L) (hx : x = skOf k L B) (he : wkTo (L, B) m = (m, B')) (hm : m ≤ botN k) (hx' : x' = skOf k m B') {s : SS} {w : World} (hA : s.At w.heap.size w x) :
  Calls Tryz.prog 12 #[.agg #[.int .i64 x.kind, .int .i64 x.level, .slice s.ea s.el s.ec, .int .i64 x.hb, .string x.hr, .int .i64 x.cr, .int .i64 x.cc, .slice s.ca s.cl s.cc, .int .i64 x.gf, .slice s.ga s.gl s.gc], .int .i64 m] w (SkP (x', 0) w) := by
 subst hx hx'
 have h := ref10_To_ok (m : Int) hA (skOf_lim hB) (skOf_ok hB) (by rw [bot_sk hB]; omega)
 rw [skTo_sk hB, Int.toNat_natCast, he] at h
 exact h
set_option maxRecDepth 100000 in
set_option maxHeartbeats 8000000 in
theorem ref10_Merge_reg {x y : Sk} {L L2 m : Nat} {B B2 : Bd} {b : Nat} {r r2 : List Nat} (hB : B.Ok 1 L) (hB2 : B2.Ok 1 L2) (hx : x = skOf 1 L B) (hy : y = skOf 1 L2 B2) (hm : max L L2 = m) (hmb : m ≤ botN 1) (e1 : wkTo (L, B) m = (m, .reg b r)) (e2 : wkTo (L2, B2) m = (m, .reg b r2))  (s t : SS) (w : World) (hA : s.At w.heap.size w x) (hA2 : t.At w.heap.size w y) :
  Calls Tryz.prog 8 #[.agg #[.int .i64 x.kind, .int .i64 x.level, .slice s.ea s.el s.ec, .int .i64 x.hb, .string x.hr, .int .i64 x.cr, .int .i64 x.cc, .slice s.ca s.cl s.cc, .int .i64 x.gf, .slice s.ga s.gl s.gc], .agg #[.int .i64 y.kind, .int .i64 y.level, .slice t.ea t.el t.ec, .int .i64 y.hb, .string y.hr, .int .i64 y.cr, .int .i64 y.cc, .slice t.ca t.cl t.cc, .int .i64 y.gf, .slice t.ga t.gl t.gc]] w (SkP (skReg 1 m b (hlStr (hlMax r r2)), 0) w) := by
 obtain ⟨ok1, -⟩ := wkTo_ok m hmb (m - L) (L, B) rfl hB
 obtain ⟨ok2, -⟩ := wkTo_ok m hmb (m - L2) (L2, B2) rfl hB2
 rw [e1] at ok1
 rw [e2] at ok2
 dsimp only at ok1 ok2
 obtain ⟨-, hL1, hL4, hb8, hl, hr⟩ := ok1
 obtain ⟨-, -, -, -, hl2, hr2⟩ := ok2
 obtain ⟨sr, hsr⟩ : ∃ x, hlStr r = x := ⟨_, rfl⟩
 obtain ⟨sr2, hsr2⟩ : ∃ x, hlStr r2 = x := ⟨_, rfl⟩
 obtain ⟨out, hout⟩ : ∃ x, hlStr (hlMax r r2) = x := ⟨_, rfl⟩
 rw [hout]
 have HTx0 : ∀ W, s.At W.heap.size W x → Calls Tryz.prog 12 #[.agg #[.int .i64 x.kind, .int .i64 x.level, .slice s.ea s.el s.ec, .int .i64 x.hb, .string x.hr, .int .i64 x.cr, .int .i64 x.cc, .slice s.ca s.cl s.cc, .int .i64 x.gf, .slice s.ga s.gl s.gc], .int .i64 m] W fun e w' => ∃ p : SS, e = .returned (.tuple #[.agg #[.int .i64 1, .int .i64 m, .slice p.ea p.el p.ec, .int .i64 b, .string sr, .int .i64 0, .int .i64 0, .slice p.ca p.cl p.cc, .int .i64 0, .slice p.ga p.gl p.gc], .int .i64 0]) ∧ p.At w'.heap.size w' (skReg 1 m b sr) ∧ Below W.heap.size W w' := fun W h => ref10_To_good (x' := (skReg 1 m b sr)) hB hx e1 hmb (by rw [← hsr]; rfl) h
 have HTy0 : ∀ W, t.At W.heap.size W y → Calls Tryz.prog 12 #[.agg #[.int .i64 y.kind, .int .i64 y.level, .slice t.ea t.el t.ec, .int .i64 y.hb, .string y.hr, .int .i64 y.cr, .int .i64 y.cc, .slice t.ca t.cl t.cc, .int .i64 y.gf, .slice t.ga t.gl t.gc], .int .i64 m] W fun e w' => ∃ p2 : SS, e = .returned (.tuple #[.agg #[.int .i64 1, .int .i64 m, .slice p2.ea p2.el p2.ec, .int .i64 b, .string sr2, .int .i64 0, .int .i64 0, .slice p2.ca p2.cl p2.cc, .int .i64 0, .slice p2.ga p2.gl p2.gc], .int .i64 0]) ∧ p2.At w'.heap.size w' (skReg 1 m b sr2) ∧ Below W.heap.size W w' := fun W h => ref10_To_good (x' := (skReg 1 m b sr2)) hB2 hy e2 hmb (by rw [← hsr2]; rfl) h
 have hkk : (x.kind != y.kind) = false := by rw [bne_eq_false_iff_eq, hx, hy, (skOf_kind _ _ _).1, (skOf_kind _ _ _).1]
 have hmx : max x.level y.level = (m : Int) := by rw [hx, hy, (skOf_kind _ _ _).2, (skOf_kind _ _ _).2]; omega
 obtain ⟨W0, hW0, hX0, hY0, hXr, hB0, hs0⟩ := boxes3 w #[.int .i64 x.kind, .int .i64 x.level, .slice s.ea s.el s.ec, .int .i64 x.hb, .string x.hr, .int .i64 x.cr, .int .i64 x.cc, .slice s.ca s.cl s.cc, .int .i64 x.gf, .slice s.ga s.gl s.gc] 33 #[.int .i64 y.kind, .int .i64 y.level, .slice t.ea t.el t.ec, .int .i64 y.hb, .string y.hr, .int .i64 y.cr, .int .i64 y.cc, .slice t.ca t.cl t.cc, .int .i64 y.gf, .slice t.ga t.gl t.gc] 33 #[.int .i64 0, .int .i64 0, .slice none 0 0, .int .i64 0, .string ⟨#[]⟩, .int .i64 0, .int .i64 0, .slice none 0 0, .int .i64 0, .slice none 0 0] 33
 have HX : Hid (∀ W, Below W0.heap.size W0 W → W.heap[w.heap.size]? = some (.cells #[.int .i64 x.kind, .int .i64 x.level, .slice s.ea s.el s.ec, .int .i64 x.hb, .string x.hr, .int .i64 x.cr, .int .i64 x.cc, .slice s.ca s.cl s.cc, .int .i64 x.gf, .slice s.ga s.gl s.gc] 33 (0, 0)) ∧ W.heap[w.heap.size + 1]? = some (.cells #[.int .i64 y.kind, .int .i64 y.level, .slice t.ea t.el t.ec, .int .i64 y.hb, .string y.hr, .int .i64 y.cr, .int .i64 y.cc, .slice t.ca t.cl t.cc, .int .i64 y.gf, .slice t.ga t.gl t.gc] 33 (0, 0)) ∧ W.heap[w.heap.size + 2]? = some (.cells #[.int .i64 0, .int .i64 0, .slice none 0 0, .int .i64 0, .string ⟨#[]⟩, .int .i64 0, .int .i64 0, .slice none 0 0, .int .i64 0, .slice none 0 0] 33 (0, 0))) := fun W hb => ⟨known hb (Nat.le_refl _) hX0, known hb (Nat.le_refl _) hY0, known hb (Nat.le_refl _) hXr⟩
 have hRt := ref10_Right_ok hB hx (hA.go hB0)
 have HRt2 : Hid (∀ W, Below W0.heap.size W0 W → Calls Tryz.prog 20 #[.agg #[.int .i64 y.kind, .int .i64 y.level, .slice t.ea t.el t.ec, .int .i64 y.hb, .string y.hr, .int .i64 y.cr, .int .i64 y.cc, .slice t.ca t.cl t.cc, .int .i64 y.gf, .slice t.ga t.gl t.gc]] W fun e w' => e = .returned (.bool true) ∧ Below W.heap.size W w') := fun W hb => ref10_Right_ok hB2 hy ((hA2.go hB0).go hb)
 have HTx : Hid (∀ W, Below W0.heap.size W0 W → Calls Tryz.prog 12 #[.agg #[.int .i64 x.kind, .int .i64 x.level, .slice s.ea s.el s.ec, .int .i64 x.hb, .string x.hr, .int .i64 x.cr, .int .i64 x.cc, .slice s.ca s.cl s.cc, .int .i64 x.gf, .slice s.ga s.gl s.gc], .int .i64 m] W fun e w' => ∃ p : SS, e = .returned (.tuple #[.agg #[.int .i64 1, .int .i64 m, .slice p.ea p.el p.ec, .int .i64 b, .string sr, .int .i64 0, .int .i64 0, .slice p.ca p.cl p.cc, .int .i64 0, .slice p.ga p.gl p.gc], .int .i64 0]) ∧ p.At w'.heap.size w' (skReg 1 m b sr) ∧ Below W.heap.size W w') := fun W hb => HTx0 W ((hA.go hB0).go hb)
 have HTy : Hid (∀ W, t.At W.heap.size W y → Calls Tryz.prog 12 #[.agg #[.int .i64 y.kind, .int .i64 y.level, .slice t.ea t.el t.ec, .int .i64 y.hb, .string y.hr, .int .i64 y.cr, .int .i64 y.cc, .slice t.ca t.cl t.cc, .int .i64 y.gf, .slice t.ga t.gl t.gc], .int .i64 m] W fun e w' => ∃ p2 : SS, e = .returned (.tuple #[.agg #[.int .i64 1, .int .i64 m, .slice p2.ea p2.el p2.ec, .int .i64 b, .string sr2, .int .i64 0, .int .i64 0, .slice p2.ca p2.cl p2.cc, .int .i64 0, .slice p2.ga p2.gl p2.gc], .int .i64 0]) ∧ p2.At w'.heap.size w' (skReg 1 m b sr2) ∧ Below W.heap.size W w') := HTy0
 have HAy := Lib.hid (hA2.go hB0)
 have HO : Hid (∀ W, Calls Tryz.prog 36 #[.agg #[.int .i64 b, .string sr], .agg #[.int .i64 b, .string sr2]] W fun e w' => e = .returned (.tuple #[.agg #[.int .i64 b, .string out], .int .i64 0]) ∧ Below W.heap.size W w') := fun W => by rw [← hsr, ← hsr2, ← hout, ← mxK_max r r2 (2 ^ b) hl]; exact ref07_Merge_any b r r2 W (by omega) (by omega) hl hr hl2 hr2
 have t0 : ((m : Int) == 0) = false := by rw [beq_eq_false_iff_ne]; omega
 have HB0 := Lib.hid hB0
 have HS0 : Hid (W0.heap.size = w.heap.size + 3) := hs0
 obtain ⟨c0, c1, c2, c3, c4, c5, c6, c7, c8, c9⟩ := cl10 hX0
 clear hX0 hY0 hXr hB0 hA hA2 hs0 hB hB2 hx hy HTx0 HTy0 hsr hsr2 hout hl hr hl2 hr2 e1 e2 hm
 go_enter Tryz.func8, Tryz.ntmps8
 go_wp2_with fail
 refine hRt.mono ?_
 rintro e w1 ⟨rfl, hb1⟩
 obtain ⟨hX1, hY1, -⟩ := HX.out w1 hb1
 obtain ⟨d0, d1, d2, d3, d4, d5, d6, d7, d8, d9⟩ := cl10 hX1
 obtain ⟨e0, e1, e2, e3, e4, e5, e6, e7, e8, e9⟩ := cl10 hY1
 have hRt2 := HRt2.out w1 hb1
 have HB1 := Lib.hid hb1
 clear hRt c0 c1 c2 c3 c4 c5 c6 c7 c8 c9 hX1 hY1 hb1
 go_wp2_with fail
 refine hRt2.mono ?_
 rintro e w2 ⟨rfl, hb2⟩
 have hb02 := HB1.out.trans (hb2.mono HB1.out.size)
 obtain ⟨hX2, hY2, -⟩ := HX.out w2 hb02
 obtain ⟨f0, f1, f2, f3, f4, f5, f6, f7, f8, f9⟩ := cl10 hX2
 obtain ⟨g0, g1, g2, g3, g4, g5, g6, g7, g8, g9⟩ := cl10 hY2
 have HB2 := Lib.hid hb02
 clear hRt2 d0 d1 d2 d3 d4 d5 d6 d7 d8 d9 e0 e1 e2 e3 e4 e5 e6 e7 e8 e9 hX2 hY2 hb2 hb02
 go_wp2_with fail
 refine (HTx.out w2 HB2.out).mono ?_
 rintro e w3 ⟨p, rfl, hA3, hb3⟩
 have hb03 := HB2.out.trans (hb3.mono HB2.out.size)
 obtain ⟨hX3, hY3, hR3⟩ := HX.out w3 hb03
 obtain ⟨h0, h1, h2, h3, h4, h5, h6, h7, h8, h9⟩ := cl10 hX3
 obtain ⟨i0, i1, i2, i3, i4, i5, i6, i7, i8, i9⟩ := cz10 hX3
 obtain ⟨V3, hV3, hXV3, hOV3, hBV3⟩ := store10 (.int .i64 1) (.int .i64 m) (.slice p.ea p.el p.ec) (.int .i64 b) (.string sr) (.int .i64 0) (.int .i64 0) (.slice p.ca p.cl p.cc) (.int .i64 0) (.slice p.ga p.gl p.gc) hX3
 have hYV3 := (hOV3.2 (w.heap.size + 1) (by omega)).trans hY3
 have HRV3 := Lib.hid ((hOV3.2 (w.heap.size + 2) (by omega)).trans hR3)
 have HXV3 := Lib.hid hXV3
 have HYV3 := Lib.hid hYV3
 have hAV3 : p.At V3.heap.size V3 (skReg 1 m b sr) := hA3.apart hX3 (noU10 _ _ _ _ _ _ _ _ _ _ _ _ _ _ _ _) hOV3
 have HAV3 := Lib.hid hAV3
 have HAyV3 : Hid (t.At V3.heap.size V3 y) := (HAy.out.go hb03).apart hX3 (noU10 _ _ _ _ _ _ _ _ _ _ _ _ _ _ _ _) hOV3
 have HBV3 : Hid (Below w.heap.size w V3) := hBV3 _ _ (HB0.out.trans (hb03.mono HB0.out.size)) (Nat.le_refl _)
 obtain ⟨k0, k1, k2, k3, k4, k5, k6, k7, k8, k9⟩ := cl10 hYV3
 clear f0 f1 f2 f3 f4 f5 f6 f7 f8 f9 g0 g1 g2 g3 g4 g5 g6 g7 g8 g9 hX3 hY3 hR3 hXV3 hYV3 hOV3 hBV3 hAV3 hA3 hb3 hb03
 go_wp2_with fail
 refine (HTy.out V3 HAyV3.out).mono ?_
 rintro e w4 ⟨p2, rfl, hA4, hb4⟩
 have hX4 := known hb4 (Nat.le_refl _) HXV3.out
 have hY4 := known hb4 (Nat.le_refl _) HYV3.out
 have hR4 := known hb4 (Nat.le_refl _) HRV3.out
 obtain ⟨lc0, lc1, lc2, lc3, lc4, lc5, lc6, lc7, lc8, lc9⟩ := cl10 hY4
 obtain ⟨j0, j1, j2, j3, j4, j5, j6, j7, j8, j9⟩ := cz10 hY4
 obtain ⟨V4, hV4, hYV4, hOV4, hBV4⟩ := store10 (.int .i64 1) (.int .i64 m) (.slice p2.ea p2.el p2.ec) (.int .i64 b) (.string sr2) (.int .i64 0) (.int .i64 0) (.slice p2.ca p2.cl p2.cc) (.int .i64 0) (.slice p2.ga p2.gl p2.gc) hY4
 have hXV4 := (hOV4.2 w.heap.size (by omega)).trans hX4
 have HRV4 := Lib.hid ((hOV4.2 (w.heap.size + 2) (by omega)).trans hR4)
 have HXV4 := Lib.hid hXV4
 have HYV4 := Lib.hid hYV4
 have HA4x : Hid (p.At V4.heap.size V4 (skReg 1 m b sr)) := (HAV3.out.go hb4).apart hY4 (noU10 _ _ _ _ _ _ _ _ _ _ _ _ _ _ _ _) hOV4
 have HA4y : Hid (p2.At V4.heap.size V4 (skReg 1 m b sr2)) := hA4.apart hY4 (noU10 _ _ _ _ _ _ _ _ _ _ _ _ _ _ _ _) hOV4
 have HBV4 : Hid (Below w.heap.size w V4) := hBV4 _ _ (HBV3.out.trans (hb4.mono HBV3.out.size)) (Nat.le_succ _)
 obtain ⟨m0, m1, m2, m3, m4, m5, m6, m7, m8, m9⟩ := cl10 hXV4
 obtain ⟨n0, n1, n2, n3, n4, n5, n6, n7, n8, n9⟩ := cl10 hYV4
 clear k0 k1 k2 k3 k4 k5 k6 k7 k8 k9 h0 h1 h2 h3 h4 h5 h6 h7 h8 h9 i0 i1 i2 i3 i4 i5 i6 i7 i8 i9 hX4 hY4 hR4 hXV4 hYV4 hOV4 hBV4 hA4 hb4
 go_wp2_with fail
 refine (HO.out _).mono ?_
 rintro e w5 ⟨rfl, hb5⟩
 have hX5 := known hb5 (Nat.le_refl _) HXV4.out
 have hR5 := known hb5 (Nat.le_refl _) HRV4.out
 have hA5 := HA4x.out.go hb5
 have HB5 : Hid (Below w.heap.size w w5) := HBV4.out.trans (hb5.mono HBV4.out.size)
 clear n0 n1 n2 n3 n4 n5 n6 n7 n8 n9 lc0 lc1 lc2 lc3 lc4 lc5 lc6 lc7 lc8 lc9 j0 j1 j2 j3 j4 j5 j6 j7 j8 j9 m0 m1 m2 m3 m4 m5 m6 m7 m8 m9
 obtain ⟨q0, q1, q2, q3, q4, q5, q6, q7, q8, q9⟩ := cl10 hX5
 obtain ⟨v0, v1, v2, v3, v4, v5, v6, v7, v8, v9⟩ := cz10 hX5
 obtain ⟨V, hV⟩ : ∃ V, ((w5.setCell ⟨w.heap.size, 3, none⟩ (.int .i64 b)).setCell ⟨w.heap.size, 4, none⟩ (.string out)) = V := ⟨_, rfl⟩
 have hXV : V.heap[w.heap.size]? = some (.cells #[.int .i64 1, .int .i64 m, .slice p.ea p.el p.ec, .int .i64 b, .string out, .int .i64 0, .int .i64 0, .slice p.ca p.cl p.cc, .int .i64 0, .slice p.ga p.gl p.gc] 33 (0, 0)) := by rw [← hV]; exact hSk (hSk (hX5) _) _
 have hOV : OnlyAt w.heap.size w5 V := by rw [← hV]; exact ((OnlyAt.refl _ _).set _ _).set _ _
 have hBV : Below w.heap.size w V := by rw [← hV]; exact ((HB5.out).setCell (p := ⟨w.heap.size, 3, none⟩) (Nat.le_refl _) _).setCell (p := ⟨w.heap.size, 4, none⟩) (Nat.le_refl _) _
 have hRV : V.heap[w.heap.size + 2]? = some (.cells #[.int .i64 0, .int .i64 0, .slice none 0 0, .int .i64 0, .string ⟨#[]⟩, .int .i64 0, .int .i64 0, .slice none 0 0, .int .i64 0, .slice none 0 0] 33 (0, 0)) := (hOV.2 _ (by omega)).trans hR5
 have hAV : (p : SS).At V.heap.size V (skReg 1 m b out) := SS.At.apart (⟨hA5.e, hA5.c, hA5.g⟩ : p.At w5.heap.size w5 (skReg 1 m b out)) hX5 (noU10 _ _ _ _ _ _ _ _ _ _ _ _ _ _ _ _) hOV
 obtain ⟨o0, o1, o2, o3, o4, o5, o6, o7, o8, o9⟩ := cl10 hXV
 obtain ⟨r0, r1, r2, r3, r4, r5, r6, r7, r8, r9⟩ := cl10 hRV
 obtain ⟨z0, z1, z2, z3, z4, z5, z6, z7, z8, z9⟩ := cz10 hRV
 obtain ⟨U, hU, hXU, hOU, hBU⟩ := store10 (.int .i64 1) (.int .i64 m) (.slice p.ea p.el p.ec) (.int .i64 b) (.string out) (.int .i64 0) (.int .i64 0) (.slice p.ca p.cl p.cc) (.int .i64 0) (.slice p.ga p.gl p.gc) hRV
 obtain ⟨k0, k1, k2, k3, k4, k5, k6, k7, k8, k9⟩ := cl10 hXU
 have HBU : Hid (Below w.heap.size w U) := hBU _ _ hBV (by omega)
 have HAU : Hid ((p : SS).At U.heap.size U (skReg 1 m b out)) := hAV.apart hRV (noU10 _ _ _ _ _ _ _ _ _ _ _ _ _ _ _ _) hOU
 clear hX5 hR5 hXV hOV hBV hRV hAV hXU hOU hBU
 go_wp2_with fail
 exact bodyPost_ret (v := .tuple #[.agg #[.int .i64 1, .int .i64 m, .slice p.ea p.el p.ec, .int .i64 b, .string out, .int .i64 0, .int .i64 0, .slice p.ca p.cl p.cc, .int .i64 0, .slice p.ga p.gl p.gc], .int .i64 0]) (by simp [results, Tryz.f8, go_sem, k0, k1, k2, k3, k4, k5, k6, k7, k8, k9]) rfl ⟨p, rfl, HAU.out, HBU.out⟩
set_option maxRecDepth 100000 in
set_option maxHeartbeats 8000000 in
theorem ref10_Merge_cnt {x y : Sk} {L L2 m : Nat} {B B2 : Bd} {c : Nat} {l l2 : List Int} (hB : B.Ok 2 L) (hB2 : B2.Ok 2 L2) (hx : x = skOf 2 L B) (hy : y = skOf 2 L2 B2) (hm : max L L2 = m) (hmb : m ≤ botN 2) (e1 : wkTo (L, B) m = (m, .cnt c l)) (e2 : wkTo (L2, B2) m = (m, .cnt c l2))  (s t : SS) (w : World) (hA : s.At w.heap.size w x) (hA2 : t.At w.heap.size w y) :
  Calls Tryz.prog 8 #[.agg #[.int .i64 x.kind, .int .i64 x.level, .slice s.ea s.el s.ec, .int .i64 x.hb, .string x.hr, .int .i64 x.cr, .int .i64 x.cc, .slice s.ca s.cl s.cc, .int .i64 x.gf, .slice s.ga s.gl s.gc], .agg #[.int .i64 y.kind, .int .i64 y.level, .slice t.ea t.el t.ec, .int .i64 y.hb, .string y.hr, .int .i64 y.cr, .int .i64 y.cc, .slice t.ca t.cl t.cc, .int .i64 y.gf, .slice t.ga t.gl t.gc]] w (SkP (skCnt 2 m 2 c (cmMrg l l2), 0) w) := by
 obtain ⟨ok1, -⟩ := wkTo_ok m hmb (m - L) (L, B) rfl hB
 obtain ⟨ok2, -⟩ := wkTo_ok m hmb (m - L2) (L2, B2) rfl hB2
 rw [e1] at ok1
 rw [e2] at ok2
 dsimp only at ok1 ok2
 obtain ⟨-, hL3, hc, hl, hu⟩ := ok1
 obtain ⟨-, -, -, hl2, hu2⟩ := ok2
 have hc4 : c = 4 ∨ c = 8 ∨ c = 16 ∨ c = 32 := by rcases (by omega : m = 0 ∨ m = 1 ∨ m = 2 ∨ m = 3) with rfl | rfl | rfl | rfl <;> omega
 obtain ⟨q, hq⟩ : ∃ q, cmMrg l l2 = q := ⟨_, rfl⟩
 obtain ⟨ql, hql⟩ : ∃ n, q.length = n := ⟨_, rfl⟩
 rw [hq]
 have HTx0 : ∀ W, s.At W.heap.size W x → Calls Tryz.prog 12 #[.agg #[.int .i64 x.kind, .int .i64 x.level, .slice s.ea s.el s.ec, .int .i64 x.hb, .string x.hr, .int .i64 x.cr, .int .i64 x.cc, .slice s.ca s.cl s.cc, .int .i64 x.gf, .slice s.ga s.gl s.gc], .int .i64 m] W fun e w' => ∃ p : SS, e = .returned (.tuple #[.agg #[.int .i64 2, .int .i64 m, .slice p.ea p.el p.ec, .int .i64 0, .string ⟨#[]⟩, .int .i64 2, .int .i64 c, .slice p.ca p.cl p.cc, .int .i64 0, .slice p.ga p.gl p.gc], .int .i64 0]) ∧ p.At w'.heap.size w' (skCnt 2 m 2 c l) ∧ Below W.heap.size W w' := fun W h => ref10_To_good (x' := (skCnt 2 m 2 c l)) hB hx e1 hmb rfl h
 have HTy0 : ∀ W, t.At W.heap.size W y → Calls Tryz.prog 12 #[.agg #[.int .i64 y.kind, .int .i64 y.level, .slice t.ea t.el t.ec, .int .i64 y.hb, .string y.hr, .int .i64 y.cr, .int .i64 y.cc, .slice t.ca t.cl t.cc, .int .i64 y.gf, .slice t.ga t.gl t.gc], .int .i64 m] W fun e w' => ∃ p2 : SS, e = .returned (.tuple #[.agg #[.int .i64 2, .int .i64 m, .slice p2.ea p2.el p2.ec, .int .i64 0, .string ⟨#[]⟩, .int .i64 2, .int .i64 c, .slice p2.ca p2.cl p2.cc, .int .i64 0, .slice p2.ga p2.gl p2.gc], .int .i64 0]) ∧ p2.At w'.heap.size w' (skCnt 2 m 2 c l2) ∧ Below W.heap.size W w' := fun W h => ref10_To_good (x' := (skCnt 2 m 2 c l2)) hB2 hy e2 hmb rfl h
 have hkk : (x.kind != y.kind) = false := by rw [bne_eq_false_iff_eq, hx, hy, (skOf_kind _ _ _).1, (skOf_kind _ _ _).1]
 have hmx : max x.level y.level = (m : Int) := by rw [hx, hy, (skOf_kind _ _ _).2, (skOf_kind _ _ _).2]; omega
 obtain ⟨W0, hW0, hX0, hY0, hXr, hB0, hs0⟩ := boxes3 w #[.int .i64 x.kind, .int .i64 x.level, .slice s.ea s.el s.ec, .int .i64 x.hb, .string x.hr, .int .i64 x.cr, .int .i64 x.cc, .slice s.ca s.cl s.cc, .int .i64 x.gf, .slice s.ga s.gl s.gc] 33 #[.int .i64 y.kind, .int .i64 y.level, .slice t.ea t.el t.ec, .int .i64 y.hb, .string y.hr, .int .i64 y.cr, .int .i64 y.cc, .slice t.ca t.cl t.cc, .int .i64 y.gf, .slice t.ga t.gl t.gc] 33 #[.int .i64 0, .int .i64 0, .slice none 0 0, .int .i64 0, .string ⟨#[]⟩, .int .i64 0, .int .i64 0, .slice none 0 0, .int .i64 0, .slice none 0 0] 33
 have HX : Hid (∀ W, Below W0.heap.size W0 W → W.heap[w.heap.size]? = some (.cells #[.int .i64 x.kind, .int .i64 x.level, .slice s.ea s.el s.ec, .int .i64 x.hb, .string x.hr, .int .i64 x.cr, .int .i64 x.cc, .slice s.ca s.cl s.cc, .int .i64 x.gf, .slice s.ga s.gl s.gc] 33 (0, 0)) ∧ W.heap[w.heap.size + 1]? = some (.cells #[.int .i64 y.kind, .int .i64 y.level, .slice t.ea t.el t.ec, .int .i64 y.hb, .string y.hr, .int .i64 y.cr, .int .i64 y.cc, .slice t.ca t.cl t.cc, .int .i64 y.gf, .slice t.ga t.gl t.gc] 33 (0, 0)) ∧ W.heap[w.heap.size + 2]? = some (.cells #[.int .i64 0, .int .i64 0, .slice none 0 0, .int .i64 0, .string ⟨#[]⟩, .int .i64 0, .int .i64 0, .slice none 0 0, .int .i64 0, .slice none 0 0] 33 (0, 0))) := fun W hb => ⟨known hb (Nat.le_refl _) hX0, known hb (Nat.le_refl _) hY0, known hb (Nat.le_refl _) hXr⟩
 have hRt := ref10_Right_ok hB hx (hA.go hB0)
 have HRt2 : Hid (∀ W, Below W0.heap.size W0 W → Calls Tryz.prog 20 #[.agg #[.int .i64 y.kind, .int .i64 y.level, .slice t.ea t.el t.ec, .int .i64 y.hb, .string y.hr, .int .i64 y.cr, .int .i64 y.cc, .slice t.ca t.cl t.cc, .int .i64 y.gf, .slice t.ga t.gl t.gc]] W fun e w' => e = .returned (.bool true) ∧ Below W.heap.size W w') := fun W hb => ref10_Right_ok hB2 hy ((hA2.go hB0).go hb)
 have HTx : Hid (∀ W, Below W0.heap.size W0 W → Calls Tryz.prog 12 #[.agg #[.int .i64 x.kind, .int .i64 x.level, .slice s.ea s.el s.ec, .int .i64 x.hb, .string x.hr, .int .i64 x.cr, .int .i64 x.cc, .slice s.ca s.cl s.cc, .int .i64 x.gf, .slice s.ga s.gl s.gc], .int .i64 m] W fun e w' => ∃ p : SS, e = .returned (.tuple #[.agg #[.int .i64 2, .int .i64 m, .slice p.ea p.el p.ec, .int .i64 0, .string ⟨#[]⟩, .int .i64 2, .int .i64 c, .slice p.ca p.cl p.cc, .int .i64 0, .slice p.ga p.gl p.gc], .int .i64 0]) ∧ p.At w'.heap.size w' (skCnt 2 m 2 c l) ∧ Below W.heap.size W w') := fun W hb => HTx0 W ((hA.go hB0).go hb)
 have HTy : Hid (∀ W, t.At W.heap.size W y → Calls Tryz.prog 12 #[.agg #[.int .i64 y.kind, .int .i64 y.level, .slice t.ea t.el t.ec, .int .i64 y.hb, .string y.hr, .int .i64 y.cr, .int .i64 y.cc, .slice t.ca t.cl t.cc, .int .i64 y.gf, .slice t.ga t.gl t.gc], .int .i64 m] W fun e w' => ∃ p2 : SS, e = .returned (.tuple #[.agg #[.int .i64 2, .int .i64 m, .slice p2.ea p2.el p2.ec, .int .i64 0, .string ⟨#[]⟩, .int .i64 2, .int .i64 c, .slice p2.ca p2.cl p2.cc, .int .i64 0, .slice p2.ga p2.gl p2.gc], .int .i64 0]) ∧ p2.At w'.heap.size w' (skCnt 2 m 2 c l2) ∧ Below W.heap.size W w') := HTy0
 have HAy := Lib.hid (hA2.go hB0)
 have HO : Hid (∀ W (p p2 : SS), p.At W.heap.size W (skCnt 2 m 2 c l) → p2.At W.heap.size W (skCnt 2 m 2 c l2) → Calls Tryz.prog 37 #[.agg #[.int .i64 2, .int .i64 c, .slice p.ca p.cl p.cc], .agg #[.int .i64 2, .int .i64 c, .slice p2.ca p2.cl p2.cc]] W fun e w' => ∃ a cap, e = .returned (.tuple #[.agg #[.int .i64 2, .int .i64 c, .slice a ql cap], .int .i64 0]) ∧ SlC encU 1 w'.heap.size w' a ql cap q ∧ Below W.heap.size W w') := fun W p p2 h h2 => by rw [← hql, ← hq]; exact ref08_Merge_any c l l2 _ _ _ _ _ _ W hc4 h.c h2.c hl hl2 hu hu2
 have HB0 := Lib.hid hB0
 have HS0 : Hid (W0.heap.size = w.heap.size + 3) := hs0
 obtain ⟨c0, c1, c2, c3, c4, c5, c6, c7, c8, c9⟩ := cl10 hX0
 clear hX0 hY0 hXr hB0 hA hA2 hs0 hB hB2 hx hy HTx0 HTy0 hq hql hl hl2 hu hu2 hc hc4 e1 e2 hm
 go_enter Tryz.func8, Tryz.ntmps8
 go_wp2_with fail
 refine hRt.mono ?_
 rintro e w1 ⟨rfl, hb1⟩
 obtain ⟨hX1, hY1, -⟩ := HX.out w1 hb1
 obtain ⟨d0, d1, d2, d3, d4, d5, d6, d7, d8, d9⟩ := cl10 hX1
 obtain ⟨e0, e1, e2, e3, e4, e5, e6, e7, e8, e9⟩ := cl10 hY1
 have hRt2 := HRt2.out w1 hb1
 have HB1 := Lib.hid hb1
 clear hRt c0 c1 c2 c3 c4 c5 c6 c7 c8 c9 hX1 hY1 hb1
 go_wp2_with fail
 refine hRt2.mono ?_
 rintro e w2 ⟨rfl, hb2⟩
 have hb02 := HB1.out.trans (hb2.mono HB1.out.size)
 obtain ⟨hX2, hY2, -⟩ := HX.out w2 hb02
 obtain ⟨f0, f1, f2, f3, f4, f5, f6, f7, f8, f9⟩ := cl10 hX2
 obtain ⟨g0, g1, g2, g3, g4, g5, g6, g7, g8, g9⟩ := cl10 hY2
 have HB2 := Lib.hid hb02
 clear hRt2 d0 d1 d2 d3 d4 d5 d6 d7 d8 d9 e0 e1 e2 e3 e4 e5 e6 e7 e8 e9 hX2 hY2 hb2 hb02
 go_wp2_with fail
 refine (HTx.out w2 HB2.out).mono ?_
 rintro e w3 ⟨p, rfl, hA3, hb3⟩
 have hb03 := HB2.out.trans (hb3.mono HB2.out.size)
 obtain ⟨hX3, hY3, hR3⟩ := HX.out w3 hb03
 obtain ⟨h0, h1, h2, h3, h4, h5, h6, h7, h8, h9⟩ := cl10 hX3
 obtain ⟨i0, i1, i2, i3, i4, i5, i6, i7, i8, i9⟩ := cz10 hX3
 obtain ⟨V3, hV3, hXV3, hOV3, hBV3⟩ := store10 (.int .i64 2) (.int .i64 m) (.slice p.ea p.el p.ec) (.int .i64 0) (.string ⟨#[]⟩) (.int .i64 2) (.int .i64 c) (.slice p.ca p.cl p.cc) (.int .i64 0) (.slice p.ga p.gl p.gc) hX3
 have hYV3 := (hOV3.2 (w.heap.size + 1) (by omega)).trans hY3
 have HRV3 := Lib.hid ((hOV3.2 (w.heap.size + 2) (by omega)).trans hR3)
 have HXV3 := Lib.hid hXV3
 have HYV3 := Lib.hid hYV3
 have hAV3 : p.At V3.heap.size V3 (skCnt 2 m 2 c l) := hA3.apart hX3 (noU10 _ _ _ _ _ _ _ _ _ _ _ _ _ _ _ _) hOV3
 have HAV3 := Lib.hid hAV3
 have HAyV3 : Hid (t.At V3.heap.size V3 y) := (HAy.out.go hb03).apart hX3 (noU10 _ _ _ _ _ _ _ _ _ _ _ _ _ _ _ _) hOV3
 have HBV3 : Hid (Below w.heap.size w V3) := hBV3 _ _ (HB0.out.trans (hb03.mono HB0.out.size)) (Nat.le_refl _)
 obtain ⟨k0, k1, k2, k3, k4, k5, k6, k7, k8, k9⟩ := cl10 hYV3
 clear f0 f1 f2 f3 f4 f5 f6 f7 f8 f9 g0 g1 g2 g3 g4 g5 g6 g7 g8 g9 hX3 hY3 hR3 hXV3 hYV3 hOV3 hBV3 hAV3 hA3 hb3 hb03
 go_wp2_with fail
 refine (HTy.out V3 HAyV3.out).mono ?_
 rintro e w4 ⟨p2, rfl, hA4, hb4⟩
 have hX4 := known hb4 (Nat.le_refl _) HXV3.out
 have hY4 := known hb4 (Nat.le_refl _) HYV3.out
 have hR4 := known hb4 (Nat.le_refl _) HRV3.out
 obtain ⟨lc0, lc1, lc2, lc3, lc4, lc5, lc6, lc7, lc8, lc9⟩ := cl10 hY4
 obtain ⟨j0, j1, j2, j3, j4, j5, j6, j7, j8, j9⟩ := cz10 hY4
 obtain ⟨V4, hV4, hYV4, hOV4, hBV4⟩ := store10 (.int .i64 2) (.int .i64 m) (.slice p2.ea p2.el p2.ec) (.int .i64 0) (.string ⟨#[]⟩) (.int .i64 2) (.int .i64 c) (.slice p2.ca p2.cl p2.cc) (.int .i64 0) (.slice p2.ga p2.gl p2.gc) hY4
 have hXV4 := (hOV4.2 w.heap.size (by omega)).trans hX4
 have HRV4 := Lib.hid ((hOV4.2 (w.heap.size + 2) (by omega)).trans hR4)
 have HXV4 := Lib.hid hXV4
 have HYV4 := Lib.hid hYV4
 have HA4x : Hid (p.At V4.heap.size V4 (skCnt 2 m 2 c l)) := (HAV3.out.go hb4).apart hY4 (noU10 _ _ _ _ _ _ _ _ _ _ _ _ _ _ _ _) hOV4
 have HA4y : Hid (p2.At V4.heap.size V4 (skCnt 2 m 2 c l2)) := hA4.apart hY4 (noU10 _ _ _ _ _ _ _ _ _ _ _ _ _ _ _ _) hOV4
 have HBV4 : Hid (Below w.heap.size w V4) := hBV4 _ _ (HBV3.out.trans (hb4.mono HBV3.out.size)) (Nat.le_succ _)
 obtain ⟨m0, m1, m2, m3, m4, m5, m6, m7, m8, m9⟩ := cl10 hXV4
 obtain ⟨n0, n1, n2, n3, n4, n5, n6, n7, n8, n9⟩ := cl10 hYV4
 clear k0 k1 k2 k3 k4 k5 k6 k7 k8 k9 h0 h1 h2 h3 h4 h5 h6 h7 h8 h9 i0 i1 i2 i3 i4 i5 i6 i7 i8 i9 hX4 hY4 hR4 hXV4 hYV4 hOV4 hBV4 hA4 hb4
 go_wp2_with fail
 refine (HO.out V4 p p2 HA4x.out HA4y.out).mono ?_
 rintro e w5 ⟨qa, qc, rfl, hS5, hb5⟩
 have hX5 := known hb5 (Nat.le_refl _) HXV4.out
 have hR5 := known hb5 (Nat.le_refl _) HRV4.out
 have hA5 := HA4x.out.go hb5
 have HB5 : Hid (Below w.heap.size w w5) := HBV4.out.trans (hb5.mono HBV4.out.size)
 clear n0 n1 n2 n3 n4 n5 n6 n7 n8 n9 lc0 lc1 lc2 lc3 lc4 lc5 lc6 lc7 lc8 lc9 j0 j1 j2 j3 j4 j5 j6 j7 j8 j9 m0 m1 m2 m3 m4 m5 m6 m7 m8 m9
 obtain ⟨q0, q1, q2, q3, q4, q5, q6, q7, q8, q9⟩ := cl10 hX5
 obtain ⟨v0, v1, v2, v3, v4, v5, v6, v7, v8, v9⟩ := cz10 hX5
 obtain ⟨V, hV⟩ : ∃ V, (((w5.setCell ⟨w.heap.size, 5, none⟩ (.int .i64 2)).setCell ⟨w.heap.size, 6, none⟩ (.int .i64 c)).setCell ⟨w.heap.size, 7, none⟩ (.slice qa ql qc)) = V := ⟨_, rfl⟩
 have hXV : V.heap[w.heap.size]? = some (.cells #[.int .i64 2, .int .i64 m, .slice p.ea p.el p.ec, .int .i64 0, .string ⟨#[]⟩, .int .i64 2, .int .i64 c, .slice qa ql qc, .int .i64 0, .slice p.ga p.gl p.gc] 33 (0, 0)) := by rw [← hV]; exact hSk (hSk (hSk (hX5) _) _) _
 have hOV : OnlyAt w.heap.size w5 V := by rw [← hV]; exact (((OnlyAt.refl _ _).set _ _).set _ _).set _ _
 have hBV : Below w.heap.size w V := by rw [← hV]; exact (((HB5.out).setCell (p := ⟨w.heap.size, 5, none⟩) (Nat.le_refl _) _).setCell (p := ⟨w.heap.size, 6, none⟩) (Nat.le_refl _) _).setCell (p := ⟨w.heap.size, 7, none⟩) (Nat.le_refl _) _
 have hRV : V.heap[w.heap.size + 2]? = some (.cells #[.int .i64 0, .int .i64 0, .slice none 0 0, .int .i64 0, .string ⟨#[]⟩, .int .i64 0, .int .i64 0, .slice none 0 0, .int .i64 0, .slice none 0 0] 33 (0, 0)) := (hOV.2 _ (by omega)).trans hR5
 have hAV : (⟨p.ea, p.el, p.ec, qa, ql, qc, p.ga, p.gl, p.gc⟩ : SS).At V.heap.size V (skCnt 2 m 2 c q) := SS.At.apart (⟨hA5.e, hS5, hA5.g⟩ : SS.At ⟨p.ea, p.el, p.ec, qa, ql, qc, p.ga, p.gl, p.gc⟩ w5.heap.size w5 (skCnt 2 m 2 c q)) hX5 (noU10 _ _ _ _ _ _ _ _ _ _ _ _ _ _ _ _) hOV
 obtain ⟨o0, o1, o2, o3, o4, o5, o6, o7, o8, o9⟩ := cl10 hXV
 obtain ⟨r0, r1, r2, r3, r4, r5, r6, r7, r8, r9⟩ := cl10 hRV
 obtain ⟨z0, z1, z2, z3, z4, z5, z6, z7, z8, z9⟩ := cz10 hRV
 obtain ⟨U, hU, hXU, hOU, hBU⟩ := store10 (.int .i64 2) (.int .i64 m) (.slice p.ea p.el p.ec) (.int .i64 0) (.string ⟨#[]⟩) (.int .i64 2) (.int .i64 c) (.slice qa ql qc) (.int .i64 0) (.slice p.ga p.gl p.gc) hRV
 obtain ⟨k0, k1, k2, k3, k4, k5, k6, k7, k8, k9⟩ := cl10 hXU
 have HBU : Hid (Below w.heap.size w U) := hBU _ _ hBV (by omega)
 have HAU : Hid ((⟨p.ea, p.el, p.ec, qa, ql, qc, p.ga, p.gl, p.gc⟩ : SS).At U.heap.size U (skCnt 2 m 2 c q)) := hAV.apart hRV (noU10 _ _ _ _ _ _ _ _ _ _ _ _ _ _ _ _) hOU
 clear hX5 hR5 hXV hOV hBV hRV hAV hXU hOU hBU
 go_wp2_with fail
 exact bodyPost_ret (v := .tuple #[.agg #[.int .i64 2, .int .i64 m, .slice p.ea p.el p.ec, .int .i64 0, .string ⟨#[]⟩, .int .i64 2, .int .i64 c, .slice qa ql qc, .int .i64 0, .slice p.ga p.gl p.gc], .int .i64 0]) (by simp [results, Tryz.f8, go_sem, k0, k1, k2, k3, k4, k5, k6, k7, k8, k9]) rfl ⟨⟨p.ea, p.el, p.ec, qa, ql, qc, p.ga, p.gl, p.gc⟩, rfl, HAU.out, HBU.out⟩
set_option maxRecDepth 100000 in
set_option maxHeartbeats 8000000 in
theorem ref10_Merge_bkt {x y : Sk} {L L2 m : Nat} {B B2 : Bd} {f : Nat} {l l2 : List (Int × Int)} (hB : B.Ok 3 L) (hB2 : B2.Ok 3 L2) (hx : x = skOf 3 L B) (hy : y = skOf 3 L2 B2) (hm : max L L2 = m) (hmb : m ≤ botN 3) (e1 : wkTo (L, B) m = (m, .bkt f l)) (e2 : wkTo (L2, B2) m = (m, .bkt f l2))  (s t : SS) (w : World) (hA : s.At w.heap.size w x) (hA2 : t.At w.heap.size w y) :
  Calls Tryz.prog 8 #[.agg #[.int .i64 x.kind, .int .i64 x.level, .slice s.ea s.el s.ec, .int .i64 x.hb, .string x.hr, .int .i64 x.cr, .int .i64 x.cc, .slice s.ca s.cl s.cc, .int .i64 x.gf, .slice s.ga s.gl s.gc], .agg #[.int .i64 y.kind, .int .i64 y.level, .slice t.ea t.el t.ec, .int .i64 y.hb, .string y.hr, .int .i64 y.cr, .int .i64 y.cc, .slice t.ca t.cl t.cc, .int .i64 y.gf, .slice t.ga t.gl t.gc]] w (SkP (skBkt 3 m f (hiDone (hiPuts l l2)), 0) w) := by
 obtain ⟨ok1, -⟩ := wkTo_ok m hmb (m - L) (L, B) rfl hB
 obtain ⟨ok2, -⟩ := wkTo_ok m hmb (m - L2) (L2, B2) rfl hB2
 rw [e1] at ok1
 rw [e2] at ok2
 dsimp only at ok1 ok2
 obtain ⟨-, hL3, hf, g4, g5, g6, g7⟩ := ok1
 obtain ⟨-, -, -, g14, g15, g16, g17⟩ := ok2
 have hk1 : BkR f l := ⟨by omega, g4, g5, g6, g7⟩
 have hk2 : BkR f l2 := ⟨by omega, g14, g15, g16, g17⟩
 obtain ⟨q, hq⟩ : ∃ q, hiDone (hiPuts l l2) = q := ⟨_, rfl⟩
 obtain ⟨ql, hql⟩ : ∃ n, q.length = n := ⟨_, rfl⟩
 rw [hq]
 have HTx0 : ∀ W, s.At W.heap.size W x → Calls Tryz.prog 12 #[.agg #[.int .i64 x.kind, .int .i64 x.level, .slice s.ea s.el s.ec, .int .i64 x.hb, .string x.hr, .int .i64 x.cr, .int .i64 x.cc, .slice s.ca s.cl s.cc, .int .i64 x.gf, .slice s.ga s.gl s.gc], .int .i64 m] W fun e w' => ∃ p : SS, e = .returned (.tuple #[.agg #[.int .i64 3, .int .i64 m, .slice p.ea p.el p.ec, .int .i64 0, .string ⟨#[]⟩, .int .i64 0, .int .i64 0, .slice p.ca p.cl p.cc, .int .i64 f, .slice p.ga p.gl p.gc], .int .i64 0]) ∧ p.At w'.heap.size w' (skBkt 3 m f l) ∧ Below W.heap.size W w' := fun W h => ref10_To_good (x' := (skBkt 3 m f l)) hB hx e1 hmb rfl h
 have HTy0 : ∀ W, t.At W.heap.size W y → Calls Tryz.prog 12 #[.agg #[.int .i64 y.kind, .int .i64 y.level, .slice t.ea t.el t.ec, .int .i64 y.hb, .string y.hr, .int .i64 y.cr, .int .i64 y.cc, .slice t.ca t.cl t.cc, .int .i64 y.gf, .slice t.ga t.gl t.gc], .int .i64 m] W fun e w' => ∃ p2 : SS, e = .returned (.tuple #[.agg #[.int .i64 3, .int .i64 m, .slice p2.ea p2.el p2.ec, .int .i64 0, .string ⟨#[]⟩, .int .i64 0, .int .i64 0, .slice p2.ca p2.cl p2.cc, .int .i64 f, .slice p2.ga p2.gl p2.gc], .int .i64 0]) ∧ p2.At w'.heap.size w' (skBkt 3 m f l2) ∧ Below W.heap.size W w' := fun W h => ref10_To_good (x' := (skBkt 3 m f l2)) hB2 hy e2 hmb rfl h
 have hkk : (x.kind != y.kind) = false := by rw [bne_eq_false_iff_eq, hx, hy, (skOf_kind _ _ _).1, (skOf_kind _ _ _).1]
 have hmx : max x.level y.level = (m : Int) := by rw [hx, hy, (skOf_kind _ _ _).2, (skOf_kind _ _ _).2]; omega
 obtain ⟨W0, hW0, hX0, hY0, hXr, hB0, hs0⟩ := boxes3 w #[.int .i64 x.kind, .int .i64 x.level, .slice s.ea s.el s.ec, .int .i64 x.hb, .string x.hr, .int .i64 x.cr, .int .i64 x.cc, .slice s.ca s.cl s.cc, .int .i64 x.gf, .slice s.ga s.gl s.gc] 33 #[.int .i64 y.kind, .int .i64 y.level, .slice t.ea t.el t.ec, .int .i64 y.hb, .string y.hr, .int .i64 y.cr, .int .i64 y.cc, .slice t.ca t.cl t.cc, .int .i64 y.gf, .slice t.ga t.gl t.gc] 33 #[.int .i64 0, .int .i64 0, .slice none 0 0, .int .i64 0, .string ⟨#[]⟩, .int .i64 0, .int .i64 0, .slice none 0 0, .int .i64 0, .slice none 0 0] 33
 have HX : Hid (∀ W, Below W0.heap.size W0 W → W.heap[w.heap.size]? = some (.cells #[.int .i64 x.kind, .int .i64 x.level, .slice s.ea s.el s.ec, .int .i64 x.hb, .string x.hr, .int .i64 x.cr, .int .i64 x.cc, .slice s.ca s.cl s.cc, .int .i64 x.gf, .slice s.ga s.gl s.gc] 33 (0, 0)) ∧ W.heap[w.heap.size + 1]? = some (.cells #[.int .i64 y.kind, .int .i64 y.level, .slice t.ea t.el t.ec, .int .i64 y.hb, .string y.hr, .int .i64 y.cr, .int .i64 y.cc, .slice t.ca t.cl t.cc, .int .i64 y.gf, .slice t.ga t.gl t.gc] 33 (0, 0)) ∧ W.heap[w.heap.size + 2]? = some (.cells #[.int .i64 0, .int .i64 0, .slice none 0 0, .int .i64 0, .string ⟨#[]⟩, .int .i64 0, .int .i64 0, .slice none 0 0, .int .i64 0, .slice none 0 0] 33 (0, 0))) := fun W hb => ⟨known hb (Nat.le_refl _) hX0, known hb (Nat.le_refl _) hY0, known hb (Nat.le_refl _) hXr⟩
 have hRt := ref10_Right_ok hB hx (hA.go hB0)
 have HRt2 : Hid (∀ W, Below W0.heap.size W0 W → Calls Tryz.prog 20 #[.agg #[.int .i64 y.kind, .int .i64 y.level, .slice t.ea t.el t.ec, .int .i64 y.hb, .string y.hr, .int .i64 y.cr, .int .i64 y.cc, .slice t.ca t.cl t.cc, .int .i64 y.gf, .slice t.ga t.gl t.gc]] W fun e w' => e = .returned (.bool true) ∧ Below W.heap.size W w') := fun W hb => ref10_Right_ok hB2 hy ((hA2.go hB0).go hb)
 have HTx : Hid (∀ W, Below W0.heap.size W0 W → Calls Tryz.prog 12 #[.agg #[.int .i64 x.kind, .int .i64 x.level, .slice s.ea s.el s.ec, .int .i64 x.hb, .string x.hr, .int .i64 x.cr, .int .i64 x.cc, .slice s.ca s.cl s.cc, .int .i64 x.gf, .slice s.ga s.gl s.gc], .int .i64 m] W fun e w' => ∃ p : SS, e = .returned (.tuple #[.agg #[.int .i64 3, .int .i64 m, .slice p.ea p.el p.ec, .int .i64 0, .string ⟨#[]⟩, .int .i64 0, .int .i64 0, .slice p.ca p.cl p.cc, .int .i64 f, .slice p.ga p.gl p.gc], .int .i64 0]) ∧ p.At w'.heap.size w' (skBkt 3 m f l) ∧ Below W.heap.size W w') := fun W hb => HTx0 W ((hA.go hB0).go hb)
 have HTy : Hid (∀ W, t.At W.heap.size W y → Calls Tryz.prog 12 #[.agg #[.int .i64 y.kind, .int .i64 y.level, .slice t.ea t.el t.ec, .int .i64 y.hb, .string y.hr, .int .i64 y.cr, .int .i64 y.cc, .slice t.ca t.cl t.cc, .int .i64 y.gf, .slice t.ga t.gl t.gc], .int .i64 m] W fun e w' => ∃ p2 : SS, e = .returned (.tuple #[.agg #[.int .i64 3, .int .i64 m, .slice p2.ea p2.el p2.ec, .int .i64 0, .string ⟨#[]⟩, .int .i64 0, .int .i64 0, .slice p2.ca p2.cl p2.cc, .int .i64 f, .slice p2.ga p2.gl p2.gc], .int .i64 0]) ∧ p2.At w'.heap.size w' (skBkt 3 m f l2) ∧ Below W.heap.size W w') := HTy0
 have HAy := Lib.hid (hA2.go hB0)
 have HO : Hid (∀ W (p p2 : SS), p.At W.heap.size W (skBkt 3 m f l) → p2.At W.heap.size W (skBkt 3 m f l2) → Calls Tryz.prog 38 #[.agg #[.int .i64 f, .slice p.ga p.gl p.gc], .agg #[.int .i64 f, .slice p2.ga p2.gl p2.gc]] W fun e w' => ∃ a cap, e = .returned (.tuple #[.agg #[.int .i64 f, .slice a ql cap], .int .i64 0]) ∧ SlC encB 2 w'.heap.size w' a ql cap q ∧ Below W.heap.size W w') := fun W p p2 h h2 => by rw [← hql, ← hq]; exact ref09_Merge_any f l l2 _ _ _ _ _ _ W hk1 hk2 h.g h2.g
 have HB0 := Lib.hid hB0
 have HS0 : Hid (W0.heap.size = w.heap.size + 3) := hs0
 obtain ⟨c0, c1, c2, c3, c4, c5, c6, c7, c8, c9⟩ := cl10 hX0
 clear hX0 hY0 hXr hB0 hA hA2 hs0 hB hB2 hx hy HTx0 HTy0 hq hql hk1 hk2 g4 g5 g6 g7 g14 g15 g16 g17 hf e1 e2 hm
 go_enter Tryz.func8, Tryz.ntmps8
 go_wp2_with fail
 refine hRt.mono ?_
 rintro e w1 ⟨rfl, hb1⟩
 obtain ⟨hX1, hY1, -⟩ := HX.out w1 hb1
 obtain ⟨d0, d1, d2, d3, d4, d5, d6, d7, d8, d9⟩ := cl10 hX1
 obtain ⟨e0, e1, e2, e3, e4, e5, e6, e7, e8, e9⟩ := cl10 hY1
 have hRt2 := HRt2.out w1 hb1
 have HB1 := Lib.hid hb1
 clear hRt c0 c1 c2 c3 c4 c5 c6 c7 c8 c9 hX1 hY1 hb1
 go_wp2_with fail
 refine hRt2.mono ?_
 rintro e w2 ⟨rfl, hb2⟩
 have hb02 := HB1.out.trans (hb2.mono HB1.out.size)
 obtain ⟨hX2, hY2, -⟩ := HX.out w2 hb02
 obtain ⟨f0, f1, f2, f3, f4, f5, f6, f7, f8, f9⟩ := cl10 hX2
 obtain ⟨g0, g1, g2, g3, g4, g5, g6, g7, g8, g9⟩ := cl10 hY2
 have HB2 := Lib.hid hb02
 clear hRt2 d0 d1 d2 d3 d4 d5 d6 d7 d8 d9 e0 e1 e2 e3 e4 e5 e6 e7 e8 e9 hX2 hY2 hb2 hb02
 go_wp2_with fail
 refine (HTx.out w2 HB2.out).mono ?_
 rintro e w3 ⟨p, rfl, hA3, hb3⟩
 have hb03 := HB2.out.trans (hb3.mono HB2.out.size)
 obtain ⟨hX3, hY3, hR3⟩ := HX.out w3 hb03
 obtain ⟨h0, h1, h2, h3, h4, h5, h6, h7, h8, h9⟩ := cl10 hX3
 obtain ⟨i0, i1, i2, i3, i4, i5, i6, i7, i8, i9⟩ := cz10 hX3
 obtain ⟨V3, hV3, hXV3, hOV3, hBV3⟩ := store10 (.int .i64 3) (.int .i64 m) (.slice p.ea p.el p.ec) (.int .i64 0) (.string ⟨#[]⟩) (.int .i64 0) (.int .i64 0) (.slice p.ca p.cl p.cc) (.int .i64 f) (.slice p.ga p.gl p.gc) hX3
 have hYV3 := (hOV3.2 (w.heap.size + 1) (by omega)).trans hY3
 have HRV3 := Lib.hid ((hOV3.2 (w.heap.size + 2) (by omega)).trans hR3)
 have HXV3 := Lib.hid hXV3
 have HYV3 := Lib.hid hYV3
 have hAV3 : p.At V3.heap.size V3 (skBkt 3 m f l) := hA3.apart hX3 (noU10 _ _ _ _ _ _ _ _ _ _ _ _ _ _ _ _) hOV3
 have HAV3 := Lib.hid hAV3
 have HAyV3 : Hid (t.At V3.heap.size V3 y) := (HAy.out.go hb03).apart hX3 (noU10 _ _ _ _ _ _ _ _ _ _ _ _ _ _ _ _) hOV3
 have HBV3 : Hid (Below w.heap.size w V3) := hBV3 _ _ (HB0.out.trans (hb03.mono HB0.out.size)) (Nat.le_refl _)
 obtain ⟨k0, k1, k2, k3, k4, k5, k6, k7, k8, k9⟩ := cl10 hYV3
 clear f0 f1 f2 f3 f4 f5 f6 f7 f8 f9 g0 g1 g2 g3 g4 g5 g6 g7 g8 g9 hX3 hY3 hR3 hXV3 hYV3 hOV3 hBV3 hAV3 hA3 hb3 hb03
 go_wp2_with fail
 refine (HTy.out V3 HAyV3.out).mono ?_
 rintro e w4 ⟨p2, rfl, hA4, hb4⟩
 have hX4 := known hb4 (Nat.le_refl _) HXV3.out
 have hY4 := known hb4 (Nat.le_refl _) HYV3.out
 have hR4 := known hb4 (Nat.le_refl _) HRV3.out
 obtain ⟨lc0, lc1, lc2, lc3, lc4, lc5, lc6, lc7, lc8, lc9⟩ := cl10 hY4
 obtain ⟨j0, j1, j2, j3, j4, j5, j6, j7, j8, j9⟩ := cz10 hY4
 obtain ⟨V4, hV4, hYV4, hOV4, hBV4⟩ := store10 (.int .i64 3) (.int .i64 m) (.slice p2.ea p2.el p2.ec) (.int .i64 0) (.string ⟨#[]⟩) (.int .i64 0) (.int .i64 0) (.slice p2.ca p2.cl p2.cc) (.int .i64 f) (.slice p2.ga p2.gl p2.gc) hY4
 have hXV4 := (hOV4.2 w.heap.size (by omega)).trans hX4
 have HRV4 := Lib.hid ((hOV4.2 (w.heap.size + 2) (by omega)).trans hR4)
 have HXV4 := Lib.hid hXV4
 have HYV4 := Lib.hid hYV4
 have HA4x : Hid (p.At V4.heap.size V4 (skBkt 3 m f l)) := (HAV3.out.go hb4).apart hY4 (noU10 _ _ _ _ _ _ _ _ _ _ _ _ _ _ _ _) hOV4
 have HA4y : Hid (p2.At V4.heap.size V4 (skBkt 3 m f l2)) := hA4.apart hY4 (noU10 _ _ _ _ _ _ _ _ _ _ _ _ _ _ _ _) hOV4
 have HBV4 : Hid (Below w.heap.size w V4) := hBV4 _ _ (HBV3.out.trans (hb4.mono HBV3.out.size)) (Nat.le_succ _)
 obtain ⟨m0, m1, m2, m3, m4, m5, m6, m7, m8, m9⟩ := cl10 hXV4
 obtain ⟨n0, n1, n2, n3, n4, n5, n6, n7, n8, n9⟩ := cl10 hYV4
 clear k0 k1 k2 k3 k4 k5 k6 k7 k8 k9 h0 h1 h2 h3 h4 h5 h6 h7 h8 h9 i0 i1 i2 i3 i4 i5 i6 i7 i8 i9 hX4 hY4 hR4 hXV4 hYV4 hOV4 hBV4 hA4 hb4
 go_wp2_with fail
 refine (HO.out V4 p p2 HA4x.out HA4y.out).mono ?_
 rintro e w5 ⟨qa, qc, rfl, hS5, hb5⟩
 have hX5 := known hb5 (Nat.le_refl _) HXV4.out
 have hR5 := known hb5 (Nat.le_refl _) HRV4.out
 have hA5 := HA4x.out.go hb5
 have HB5 : Hid (Below w.heap.size w w5) := HBV4.out.trans (hb5.mono HBV4.out.size)
 clear n0 n1 n2 n3 n4 n5 n6 n7 n8 n9 lc0 lc1 lc2 lc3 lc4 lc5 lc6 lc7 lc8 lc9 j0 j1 j2 j3 j4 j5 j6 j7 j8 j9 m0 m1 m2 m3 m4 m5 m6 m7 m8 m9
 obtain ⟨q0, q1, q2, q3, q4, q5, q6, q7, q8, q9⟩ := cl10 hX5
 obtain ⟨v0, v1, v2, v3, v4, v5, v6, v7, v8, v9⟩ := cz10 hX5
 obtain ⟨V, hV⟩ : ∃ V, ((w5.setCell ⟨w.heap.size, 8, none⟩ (.int .i64 f)).setCell ⟨w.heap.size, 9, none⟩ (.slice qa ql qc)) = V := ⟨_, rfl⟩
 have hXV : V.heap[w.heap.size]? = some (.cells #[.int .i64 3, .int .i64 m, .slice p.ea p.el p.ec, .int .i64 0, .string ⟨#[]⟩, .int .i64 0, .int .i64 0, .slice p.ca p.cl p.cc, .int .i64 f, .slice qa ql qc] 33 (0, 0)) := by rw [← hV]; exact hSk (hSk (hX5) _) _
 have hOV : OnlyAt w.heap.size w5 V := by rw [← hV]; exact ((OnlyAt.refl _ _).set _ _).set _ _
 have hBV : Below w.heap.size w V := by rw [← hV]; exact ((HB5.out).setCell (p := ⟨w.heap.size, 8, none⟩) (Nat.le_refl _) _).setCell (p := ⟨w.heap.size, 9, none⟩) (Nat.le_refl _) _
 have hRV : V.heap[w.heap.size + 2]? = some (.cells #[.int .i64 0, .int .i64 0, .slice none 0 0, .int .i64 0, .string ⟨#[]⟩, .int .i64 0, .int .i64 0, .slice none 0 0, .int .i64 0, .slice none 0 0] 33 (0, 0)) := (hOV.2 _ (by omega)).trans hR5
 have hAV : (⟨p.ea, p.el, p.ec, p.ca, p.cl, p.cc, qa, ql, qc⟩ : SS).At V.heap.size V (skBkt 3 m f q) := SS.At.apart (⟨hA5.e, hA5.c, hS5⟩ : SS.At ⟨p.ea, p.el, p.ec, p.ca, p.cl, p.cc, qa, ql, qc⟩ w5.heap.size w5 (skBkt 3 m f q)) hX5 (noU10 _ _ _ _ _ _ _ _ _ _ _ _ _ _ _ _) hOV
 obtain ⟨o0, o1, o2, o3, o4, o5, o6, o7, o8, o9⟩ := cl10 hXV
 obtain ⟨r0, r1, r2, r3, r4, r5, r6, r7, r8, r9⟩ := cl10 hRV
 obtain ⟨z0, z1, z2, z3, z4, z5, z6, z7, z8, z9⟩ := cz10 hRV
 obtain ⟨U, hU, hXU, hOU, hBU⟩ := store10 (.int .i64 3) (.int .i64 m) (.slice p.ea p.el p.ec) (.int .i64 0) (.string ⟨#[]⟩) (.int .i64 0) (.int .i64 0) (.slice p.ca p.cl p.cc) (.int .i64 f) (.slice qa ql qc) hRV
 obtain ⟨k0, k1, k2, k3, k4, k5, k6, k7, k8, k9⟩ := cl10 hXU
 have HBU : Hid (Below w.heap.size w U) := hBU _ _ hBV (by omega)
 have HAU : Hid ((⟨p.ea, p.el, p.ec, p.ca, p.cl, p.cc, qa, ql, qc⟩ : SS).At U.heap.size U (skBkt 3 m f q)) := hAV.apart hRV (noU10 _ _ _ _ _ _ _ _ _ _ _ _ _ _ _ _) hOU
 clear hX5 hR5 hXV hOV hBV hRV hAV hXU hOU hBU
 go_wp2_with fail
 exact bodyPost_ret (v := .tuple #[.agg #[.int .i64 3, .int .i64 m, .slice p.ea p.el p.ec, .int .i64 0, .string ⟨#[]⟩, .int .i64 0, .int .i64 0, .slice p.ca p.cl p.cc, .int .i64 f, .slice qa ql qc], .int .i64 0]) (by simp [results, Tryz.f8, go_sem, k0, k1, k2, k3, k4, k5, k6, k7, k8, k9]) rfl ⟨⟨p.ea, p.el, p.ec, p.ca, p.cl, p.cc, qa, ql, qc⟩, rfl, HAU.out, HBU.out⟩
set_option maxRecDepth 100000 in
set_option maxHeartbeats 8000000 in
theorem ref10_Merge_num {x y : Sk} {L L2 m : Nat} {B B2 : Bd} {l l2 : List Int} (hB : B.Ok 1 L) (hB2 : B2.Ok 1 L2) (hx : x = skOf 1 L B) (hy : y = skOf 1 L2 B2) (hm : max L L2 = m) (hmb : m ≤ botN 1) (e1 : wkTo (L, B) m = (m, .num l)) (e2 : wkTo (L2, B2) m = (m, .num l2)) {q : List Int} (hq : exGather l l2 = some q) (s t : SS) (w : World) (hA : s.At w.heap.size w x) (hA2 : t.At w.heap.size w y) :
  Calls Tryz.prog 8 #[.agg #[.int .i64 x.kind, .int .i64 x.level, .slice s.ea s.el s.ec, .int .i64 x.hb, .string x.hr, .int .i64 x.cr, .int .i64 x.cc, .slice s.ca s.cl s.cc, .int .i64 x.gf, .slice s.ga s.gl s.gc], .agg #[.int .i64 y.kind, .int .i64 y.level, .slice t.ea t.el t.ec, .int .i64 y.hb, .string y.hr, .int .i64 y.cr, .int .i64 y.cc, .slice t.ca t.cl t.cc, .int .i64 y.gf, .slice t.ga t.gl t.gc]] w (SkP (skNum 1 0 q, 0) w) := by
 obtain ⟨ok1, -⟩ := wkTo_ok m hmb (m - L) (L, B) rfl hB
 obtain ⟨ok2, -⟩ := wkTo_ok m hmb (m - L2) (L2, B2) rfl hB2
 rw [e1] at ok1
 rw [e2] at ok2
 dsimp only at ok1 ok2
 obtain ⟨-, hm0, hu1, hu2, hu⟩ := id ok1
 obtain ⟨-, -, hv1, hv2, hv⟩ := id ok2
 have hR1 : exRight l = true := up_right l hu1 hu2
 have hR2 : exRight l2 = true := up_right l2 hv1 hv2
 have HTx0 : ∀ W, s.At W.heap.size W x → Calls Tryz.prog 12 #[.agg #[.int .i64 x.kind, .int .i64 x.level, .slice s.ea s.el s.ec, .int .i64 x.hb, .string x.hr, .int .i64 x.cr, .int .i64 x.cc, .slice s.ca s.cl s.cc, .int .i64 x.gf, .slice s.ga s.gl s.gc], .int .i64 m] W fun e w' => ∃ p : SS, e = .returned (.tuple #[.agg #[.int .i64 1, .int .i64 0, .slice p.ea p.el p.ec, .int .i64 0, .string ⟨#[]⟩, .int .i64 0, .int .i64 0, .slice p.ca p.cl p.cc, .int .i64 0, .slice p.ga p.gl p.gc], .int .i64 0]) ∧ p.At w'.heap.size w' (skNum 1 0 l) ∧ Below W.heap.size W w' := fun W h => ref10_To_good (x' := (skNum 1 0 l)) hB hx e1 hmb (by rw [hm0]; rfl) h
 have HTy0 : ∀ W, t.At W.heap.size W y → Calls Tryz.prog 12 #[.agg #[.int .i64 y.kind, .int .i64 y.level, .slice t.ea t.el t.ec, .int .i64 y.hb, .string y.hr, .int .i64 y.cr, .int .i64 y.cc, .slice t.ca t.cl t.cc, .int .i64 y.gf, .slice t.ga t.gl t.gc], .int .i64 m] W fun e w' => ∃ p2 : SS, e = .returned (.tuple #[.agg #[.int .i64 1, .int .i64 0, .slice p2.ea p2.el p2.ec, .int .i64 0, .string ⟨#[]⟩, .int .i64 0, .int .i64 0, .slice p2.ca p2.cl p2.cc, .int .i64 0, .slice p2.ga p2.gl p2.gc], .int .i64 0]) ∧ p2.At w'.heap.size w' (skNum 1 0 l2) ∧ Below W.heap.size W w' := fun W h => ref10_To_good (x' := (skNum 1 0 l2)) hB2 hy e2 hmb (by rw [hm0]; rfl) h
 have hkk : (x.kind != y.kind) = false := by rw [bne_eq_false_iff_eq, hx, hy, (skOf_kind _ _ _).1, (skOf_kind _ _ _).1]
 have hmx : max x.level y.level = (m : Int) := by rw [hx, hy, (skOf_kind _ _ _).2, (skOf_kind _ _ _).2]; omega
 obtain ⟨W0, hW0, hX0, hY0, hXr, hB0, hs0⟩ := boxes3 w #[.int .i64 x.kind, .int .i64 x.level, .slice s.ea s.el s.ec, .int .i64 x.hb, .string x.hr, .int .i64 x.cr, .int .i64 x.cc, .slice s.ca s.cl s.cc, .int .i64 x.gf, .slice s.ga s.gl s.gc] 33 #[.int .i64 y.kind, .int .i64 y.level, .slice t.ea t.el t.ec, .int .i64 y.hb, .string y.hr, .int .i64 y.cr, .int .i64 y.cc, .slice t.ca t.cl t.cc, .int .i64 y.gf, .slice t.ga t.gl t.gc] 33 #[.int .i64 0, .int .i64 0, .slice none 0 0, .int .i64 0, .string ⟨#[]⟩, .int .i64 0, .int .i64 0, .slice none 0 0, .int .i64 0, .slice none 0 0] 33
 have HX : Hid (∀ W, Below W0.heap.size W0 W → W.heap[w.heap.size]? = some (.cells #[.int .i64 x.kind, .int .i64 x.level, .slice s.ea s.el s.ec, .int .i64 x.hb, .string x.hr, .int .i64 x.cr, .int .i64 x.cc, .slice s.ca s.cl s.cc, .int .i64 x.gf, .slice s.ga s.gl s.gc] 33 (0, 0)) ∧ W.heap[w.heap.size + 1]? = some (.cells #[.int .i64 y.kind, .int .i64 y.level, .slice t.ea t.el t.ec, .int .i64 y.hb, .string y.hr, .int .i64 y.cr, .int .i64 y.cc, .slice t.ca t.cl t.cc, .int .i64 y.gf, .slice t.ga t.gl t.gc] 33 (0, 0)) ∧ W.heap[w.heap.size + 2]? = some (.cells #[.int .i64 0, .int .i64 0, .slice none 0 0, .int .i64 0, .string ⟨#[]⟩, .int .i64 0, .int .i64 0, .slice none 0 0, .int .i64 0, .slice none 0 0] 33 (0, 0))) := fun W hb => ⟨known hb (Nat.le_refl _) hX0, known hb (Nat.le_refl _) hY0, known hb (Nat.le_refl _) hXr⟩
 have hRt := ref10_Right_ok hB hx (hA.go hB0)
 have HRt2 : Hid (∀ W, Below W0.heap.size W0 W → Calls Tryz.prog 20 #[.agg #[.int .i64 y.kind, .int .i64 y.level, .slice t.ea t.el t.ec, .int .i64 y.hb, .string y.hr, .int .i64 y.cr, .int .i64 y.cc, .slice t.ca t.cl t.cc, .int .i64 y.gf, .slice t.ga t.gl t.gc]] W fun e w' => e = .returned (.bool true) ∧ Below W.heap.size W w') := fun W hb => ref10_Right_ok hB2 hy ((hA2.go hB0).go hb)
 have HTx : Hid (∀ W, Below W0.heap.size W0 W → Calls Tryz.prog 12 #[.agg #[.int .i64 x.kind, .int .i64 x.level, .slice s.ea s.el s.ec, .int .i64 x.hb, .string x.hr, .int .i64 x.cr, .int .i64 x.cc, .slice s.ca s.cl s.cc, .int .i64 x.gf, .slice s.ga s.gl s.gc], .int .i64 m] W fun e w' => ∃ p : SS, e = .returned (.tuple #[.agg #[.int .i64 1, .int .i64 0, .slice p.ea p.el p.ec, .int .i64 0, .string ⟨#[]⟩, .int .i64 0, .int .i64 0, .slice p.ca p.cl p.cc, .int .i64 0, .slice p.ga p.gl p.gc], .int .i64 0]) ∧ p.At w'.heap.size w' (skNum 1 0 l) ∧ Below W.heap.size W w') := fun W hb => HTx0 W ((hA.go hB0).go hb)
 have HTy : Hid (∀ W, t.At W.heap.size W y → Calls Tryz.prog 12 #[.agg #[.int .i64 y.kind, .int .i64 y.level, .slice t.ea t.el t.ec, .int .i64 y.hb, .string y.hr, .int .i64 y.cr, .int .i64 y.cc, .slice t.ca t.cl t.cc, .int .i64 y.gf, .slice t.ga t.gl t.gc], .int .i64 m] W fun e w' => ∃ p2 : SS, e = .returned (.tuple #[.agg #[.int .i64 1, .int .i64 0, .slice p2.ea p2.el p2.ec, .int .i64 0, .string ⟨#[]⟩, .int .i64 0, .int .i64 0, .slice p2.ca p2.cl p2.cc, .int .i64 0, .slice p2.ga p2.gl p2.gc], .int .i64 0]) ∧ p2.At w'.heap.size w' (skNum 1 0 l2) ∧ Below W.heap.size W w') := HTy0
 have HAy := Lib.hid (hA2.go hB0)
 have HO : Hid (∀ W (p p2 : SS), p.At W.heap.size W (skNum 1 0 l) → p2.At W.heap.size W (skNum 1 0 l2) → Calls Tryz.prog 34 #[.agg #[.slice p.ea p.el p.ec], .agg #[.slice p2.ea p2.el p2.ec]] W (GatherPost06 (exGather l l2) W)) := fun W p p2 h h2 => ref06_Merge_any l l2 _ _ _ _ _ _ W h.e h2.e hR1 hR2 hu hv
 have hm1 : ((m : Int) == 0) = true := by rw [beq_iff_eq]; omega
 have HB0 := Lib.hid hB0
 have HS0 : Hid (W0.heap.size = w.heap.size + 3) := hs0
 obtain ⟨c0, c1, c2, c3, c4, c5, c6, c7, c8, c9⟩ := cl10 hX0
 clear hX0 hY0 hXr hB0 hA hA2 hs0 hB hB2 hx hy HTx0 HTy0 hu1 hu2 hu hv1 hv2 hv hR1 hR2 ok1 ok2 e1 e2 hm hm0
 go_enter Tryz.func8, Tryz.ntmps8
 go_wp2_with fail
 refine hRt.mono ?_
 rintro e w1 ⟨rfl, hb1⟩
 obtain ⟨hX1, hY1, -⟩ := HX.out w1 hb1
 obtain ⟨d0, d1, d2, d3, d4, d5, d6, d7, d8, d9⟩ := cl10 hX1
 obtain ⟨e0, e1, e2, e3, e4, e5, e6, e7, e8, e9⟩ := cl10 hY1
 have hRt2 := HRt2.out w1 hb1
 have HB1 := Lib.hid hb1
 clear hRt c0 c1 c2 c3 c4 c5 c6 c7 c8 c9 hX1 hY1 hb1
 go_wp2_with fail
 refine hRt2.mono ?_
 rintro e w2 ⟨rfl, hb2⟩
 have hb02 := HB1.out.trans (hb2.mono HB1.out.size)
 obtain ⟨hX2, hY2, -⟩ := HX.out w2 hb02
 obtain ⟨f0, f1, f2, f3, f4, f5, f6, f7, f8, f9⟩ := cl10 hX2
 obtain ⟨g0, g1, g2, g3, g4, g5, g6, g7, g8, g9⟩ := cl10 hY2
 have HB2 := Lib.hid hb02
 clear hRt2 d0 d1 d2 d3 d4 d5 d6 d7 d8 d9 e0 e1 e2 e3 e4 e5 e6 e7 e8 e9 hX2 hY2 hb2 hb02
 go_wp2_with fail
 refine (HTx.out w2 HB2.out).mono ?_
 rintro e w3 ⟨p, rfl, hA3, hb3⟩
 have hb03 := HB2.out.trans (hb3.mono HB2.out.size)
 obtain ⟨hX3, hY3, hR3⟩ := HX.out w3 hb03
 obtain ⟨h0, h1, h2, h3, h4, h5, h6, h7, h8, h9⟩ := cl10 hX3
 obtain ⟨i0, i1, i2, i3, i4, i5, i6, i7, i8, i9⟩ := cz10 hX3
 obtain ⟨V3, hV3, hXV3, hOV3, hBV3⟩ := store10 (.int .i64 1) (.int .i64 0) (.slice p.ea p.el p.ec) (.int .i64 0) (.string ⟨#[]⟩) (.int .i64 0) (.int .i64 0) (.slice p.ca p.cl p.cc) (.int .i64 0) (.slice p.ga p.gl p.gc) hX3
 have hYV3 := (hOV3.2 (w.heap.size + 1) (by omega)).trans hY3
 have HRV3 := Lib.hid ((hOV3.2 (w.heap.size + 2) (by omega)).trans hR3)
 have HXV3 := Lib.hid hXV3
 have HYV3 := Lib.hid hYV3
 have hAV3 : p.At V3.heap.size V3 (skNum 1 0 l) := hA3.apart hX3 (noU10 _ _ _ _ _ _ _ _ _ _ _ _ _ _ _ _) hOV3
 have HAV3 := Lib.hid hAV3
 have HAyV3 : Hid (t.At V3.heap.size V3 y) := (HAy.out.go hb03).apart hX3 (noU10 _ _ _ _ _ _ _ _ _ _ _ _ _ _ _ _) hOV3
 have HBV3 : Hid (Below w.heap.size w V3) := hBV3 _ _ (HB0.out.trans (hb03.mono HB0.out.size)) (Nat.le_refl _)
 obtain ⟨k0, k1, k2, k3, k4, k5, k6, k7, k8, k9⟩ := cl10 hYV3
 clear f0 f1 f2 f3 f4 f5 f6 f7 f8 f9 g0 g1 g2 g3 g4 g5 g6 g7 g8 g9 hX3 hY3 hR3 hXV3 hYV3 hOV3 hBV3 hAV3 hA3 hb3 hb03
 go_wp2_with fail
 refine (HTy.out V3 HAyV3.out).mono ?_
 rintro e w4 ⟨p2, rfl, hA4, hb4⟩
 have hX4 := known hb4 (Nat.le_refl _) HXV3.out
 have hY4 := known hb4 (Nat.le_refl _) HYV3.out
 have hR4 := known hb4 (Nat.le_refl _) HRV3.out
 obtain ⟨lc0, lc1, lc2, lc3, lc4, lc5, lc6, lc7, lc8, lc9⟩ := cl10 hY4
 obtain ⟨j0, j1, j2, j3, j4, j5, j6, j7, j8, j9⟩ := cz10 hY4
 obtain ⟨V4, hV4, hYV4, hOV4, hBV4⟩ := store10 (.int .i64 1) (.int .i64 0) (.slice p2.ea p2.el p2.ec) (.int .i64 0) (.string ⟨#[]⟩) (.int .i64 0) (.int .i64 0) (.slice p2.ca p2.cl p2.cc) (.int .i64 0) (.slice p2.ga p2.gl p2.gc) hY4
 have hXV4 := (hOV4.2 w.heap.size (by omega)).trans hX4
 have HRV4 := Lib.hid ((hOV4.2 (w.heap.size + 2) (by omega)).trans hR4)
 have HXV4 := Lib.hid hXV4
 have HYV4 := Lib.hid hYV4
 have HA4x : Hid (p.At V4.heap.size V4 (skNum 1 0 l)) := (HAV3.out.go hb4).apart hY4 (noU10 _ _ _ _ _ _ _ _ _ _ _ _ _ _ _ _) hOV4
 have HA4y : Hid (p2.At V4.heap.size V4 (skNum 1 0 l2)) := hA4.apart hY4 (noU10 _ _ _ _ _ _ _ _ _ _ _ _ _ _ _ _) hOV4
 have HBV4 : Hid (Below w.heap.size w V4) := hBV4 _ _ (HBV3.out.trans (hb4.mono HBV3.out.size)) (Nat.le_succ _)
 obtain ⟨m0, m1, m2, m3, m4, m5, m6, m7, m8, m9⟩ := cl10 hXV4
 obtain ⟨n0, n1, n2, n3, n4, n5, n6, n7, n8, n9⟩ := cl10 hYV4
 clear k0 k1 k2 k3 k4 k5 k6 k7 k8 k9 h0 h1 h2 h3 h4 h5 h6 h7 h8 h9 i0 i1 i2 i3 i4 i5 i6 i7 i8 i9 hX4 hY4 hR4 hXV4 hYV4 hOV4 hBV4 hA4 hb4
 rw [hq] at HO
 obtain ⟨ql, hql⟩ : ∃ n, q.length = n := ⟨_, rfl⟩
 obtain ⟨W5, hW5, hXw, hB5, hs5⟩ := boxes1 V4 #[.int .i64 1, .int .i64 0, .slice p.ea p.el p.ec, .int .i64 0, .string ⟨#[]⟩, .int .i64 0, .int .i64 0, .slice p.ca p.cl p.cc, .int .i64 0, .slice p.ga p.gl p.gc] 33
 have hwb : w.heap.size + 3 ≤ V4.heap.size := by have h1 := (Array.getElem?_eq_some_iff.1 HRV4.out).1; omega
 have hX5' := known hB5 (Nat.le_refl _) HXV4.out
 have hY5' := known hB5 (Nat.le_refl _) HYV4.out
 obtain ⟨u0, u1, u2, u3, u4, u5, u6, u7, u8, u9⟩ := cl10 hXw
 obtain ⟨v0, v1, v2, v3, v4, v5, v6, v7, v8, v9⟩ := cz10 hXw
 have e1 : W5.setCell ⟨V4.heap.size, 1, none⟩ (.int .i64 0) = W5 := set_same hXw rfl
 have e2 : W5.setCell ⟨V4.heap.size, 2, none⟩ (.slice p.ea p.el p.ec) = W5 := set_same hXw rfl
 have e3 : W5.setCell ⟨V4.heap.size, 3, none⟩ (.int .i64 0) = W5 := set_same hXw rfl
 have e4 : W5.setCell ⟨V4.heap.size, 4, none⟩ (.string ⟨#[]⟩) = W5 := set_same hXw rfl
 have e5 : W5.setCell ⟨V4.heap.size, 5, none⟩ (.int .i64 0) = W5 := set_same hXw rfl
 have e6 : W5.setCell ⟨V4.heap.size, 6, none⟩ (.int .i64 0) = W5 := set_same hXw rfl
 have e7 : W5.setCell ⟨V4.heap.size, 7, none⟩ (.slice p.ca p.cl p.cc) = W5 := set_same hXw rfl
 have e8 : W5.setCell ⟨V4.heap.size, 8, none⟩ (.int .i64 0) = W5 := set_same hXw rfl
 have e9 : W5.setCell ⟨V4.heap.size, 9, none⟩ (.slice p.ga p.gl p.gc) = W5 := set_same hXw rfl
 obtain ⟨x0, x1, x2, x3, x4, x5, x6, x7, x8, x9⟩ := cl10 hX5'
 obtain ⟨y0, y1, y2, y3, y4, y5, y6, y7, y8, y9⟩ := cl10 hY5'
 have HXw := Lib.hid hXw
 have HB5 := Lib.hid hB5
 clear hXw hB5 hs5 hX5' hY5'
 go_wp2_with fail
 refine (HO.out W5 p p2 (HA4x.out.go HB5.out) (HA4y.out.go HB5.out)).mono ?_
 rintro e w5 ⟨⟨qa, qc, rfl, hS5⟩, hb5'⟩
 rw [hql] at hS5 ⊢
 have hb5 := HB5.out.trans (hb5'.mono HB5.out.size)
 have hX5 := known hb5 (Nat.le_refl _) HXV4.out
 have hR5 := known hb5 (Nat.le_refl _) HRV4.out
 have hA5 := HA4x.out.go hb5
 have HB6 : Hid (Below w.heap.size w w5) := HBV4.out.trans (hb5.mono HBV4.out.size)
 clear hq hql hb5 hb5' n0 n1 n2 n3 n4 n5 n6 n7 n8 n9 lc0 lc1 lc2 lc3 lc4 lc5 lc6 lc7 lc8 lc9 j0 j1 j2 j3 j4 j5 j6 j7 j8 j9 m0 m1 m2 m3 m4 m5 m6 m7 m8 m9 u0 u1 u2 u3 u4 u5 u6 u7 u8 u9 x0 x1 x2 x3 x4 x5 x6 x7 x8 x9 y0 y1 y2 y3 y4 y5 y6 y7 y8 y9
 obtain ⟨q0, q1, q2, q3, q4, q5, q6, q7, q8, q9⟩ := cl10 hX5
 obtain ⟨v0, v1, v2, v3, v4, v5, v6, v7, v8, v9⟩ := cz10 hX5
 obtain ⟨V, hV⟩ : ∃ V, (w5.setCell ⟨w.heap.size, 2, none⟩ (.slice qa ql qc)) = V := ⟨_, rfl⟩
 have hXV : V.heap[w.heap.size]? = some (.cells #[.int .i64 1, .int .i64 0, .slice qa ql qc, .int .i64 0, .string ⟨#[]⟩, .int .i64 0, .int .i64 0, .slice p.ca p.cl p.cc, .int .i64 0, .slice p.ga p.gl p.gc] 33 (0, 0)) := by rw [← hV]; exact hSk (hX5) _
 have hOV : OnlyAt w.heap.size w5 V := by rw [← hV]; exact (OnlyAt.refl _ _).set _ _
 have hBV : Below w.heap.size w V := by rw [← hV]; exact (HB6.out).setCell (p := ⟨w.heap.size, 2, none⟩) (Nat.le_refl _) _
 have hRV : V.heap[w.heap.size + 2]? = some (.cells #[.int .i64 0, .int .i64 0, .slice none 0 0, .int .i64 0, .string ⟨#[]⟩, .int .i64 0, .int .i64 0, .slice none 0 0, .int .i64 0, .slice none 0 0] 33 (0, 0)) := (hOV.2 _ (by omega)).trans hR5
 have hAV : (⟨qa, ql, qc, p.ca, p.cl, p.cc, p.ga, p.gl, p.gc⟩ : SS).At V.heap.size V (skNum 1 0 q) := SS.At.apart (⟨hS5, hA5.c, hA5.g⟩ : SS.At ⟨qa, ql, qc, p.ca, p.cl, p.cc, p.ga, p.gl, p.gc⟩ w5.heap.size w5 (skNum 1 0 q)) hX5 (noU10 _ _ _ _ _ _ _ _ _ _ _ _ _ _ _ _) hOV
 obtain ⟨o0, o1, o2, o3, o4, o5, o6, o7, o8, o9⟩ := cl10 hXV
 obtain ⟨r0, r1, r2, r3, r4, r5, r6, r7, r8, r9⟩ := cl10 hRV
 obtain ⟨z0, z1, z2, z3, z4, z5, z6, z7, z8, z9⟩ := cz10 hRV
 obtain ⟨U, hU, hXU, hOU, hBU⟩ := store10 (.int .i64 1) (.int .i64 0) (.slice qa ql qc) (.int .i64 0) (.string ⟨#[]⟩) (.int .i64 0) (.int .i64 0) (.slice p.ca p.cl p.cc) (.int .i64 0) (.slice p.ga p.gl p.gc) hRV
 obtain ⟨k0, k1, k2, k3, k4, k5, k6, k7, k8, k9⟩ := cl10 hXU
 have HBU : Hid (Below w.heap.size w U) := hBU _ _ hBV (by omega)
 have HAU : Hid ((⟨qa, ql, qc, p.ca, p.cl, p.cc, p.ga, p.gl, p.gc⟩ : SS).At U.heap.size U (skNum 1 0 q)) := hAV.apart hRV (noU10 _ _ _ _ _ _ _ _ _ _ _ _ _ _ _ _) hOU
 clear hX5 hR5 hXV hOV hBV hRV hAV hXU hOU hBU
 go_wp2_with fail
 exact bodyPost_ret (v := .tuple #[.agg #[.int .i64 1, .int .i64 0, .slice qa ql qc, .int .i64 0, .string ⟨#[]⟩, .int .i64 0, .int .i64 0, .slice p.ca p.cl p.cc, .int .i64 0, .slice p.ga p.gl p.gc], .int .i64 0]) (by simp [results, Tryz.f8, go_sem, k0, k1, k2, k3, k4, k5, k6, k7, k8, k9]) rfl ⟨⟨qa, ql, qc, p.ca, p.cl, p.cc, p.ga, p.gl, p.gc⟩, rfl, HAU.out, HBU.out⟩
set_option maxRecDepth 100000 in
set_option maxHeartbeats 8000000 in
theorem ref10_Merge_full {x y : Sk} {L L2 m : Nat} {B B2 : Bd} {l l2 : List Int} (hB : B.Ok 1 L) (hB2 : B2.Ok 1 L2) (hx : x = skOf 1 L B) (hy : y = skOf 1 L2 B2) (hm : max L L2 = m) (hmb : m ≤ botN 1) (e1 : wkTo (L, B) m = (m, .num l)) (e2 : wkTo (L2, B2) m = (m, .num l2)) (hq : exGather l l2 = none) (s t : SS) (w : World) (hA : s.At w.heap.size w x) (hA2 : t.At w.heap.size w y) :
  Calls Tryz.prog 8 #[.agg #[.int .i64 x.kind, .int .i64 x.level, .slice s.ea s.el s.ec, .int .i64 x.hb, .string x.hr, .int .i64 x.cr, .int .i64 x.cc, .slice s.ca s.cl s.cc, .int .i64 x.gf, .slice s.ga s.gl s.gc], .agg #[.int .i64 y.kind, .int .i64 y.level, .slice t.ea t.el t.ec, .int .i64 y.hb, .string y.hr, .int .i64 y.cr, .int .i64 y.cc, .slice t.ca t.cl t.cc, .int .i64 y.gf, .slice t.ga t.gl t.gc]] w (SkP (skReg 1 1 7 (hlStr (hlMax (hlSum 7 (hlNone 7) (l.map Int.toNat)) (hlSum 7 (hlNone 7) (l2.map Int.toNat)))), 0) w) := by
 obtain ⟨ok1, -⟩ := wkTo_ok m hmb (m - L) (L, B) rfl hB
 obtain ⟨ok2, -⟩ := wkTo_ok m hmb (m - L2) (L2, B2) rfl hB2
 rw [e1] at ok1
 rw [e2] at ok2
 dsimp only at ok1 ok2
 obtain ⟨R, hRe⟩ : ∃ R, skReg 1 1 7 (hlStr (hlMax (hlSum 7 (hlNone 7) (l.map Int.toNat)) (hlSum 7 (hlNone 7) (l2.map Int.toNat)))) = R := ⟨_, rfl⟩
 rw [hRe]
 obtain ⟨-, hm0, hu1, hu2, hu⟩ := id ok1
 obtain ⟨-, -, hv1, hv2, hv⟩ := id ok2
 have hR1 : exRight l = true := up_right l hu1 hu2
 have hR2 : exRight l2 = true := up_right l2 hv1 hv2
 have HTx0 : ∀ W, s.At W.heap.size W x → Calls Tryz.prog 12 #[.agg #[.int .i64 x.kind, .int .i64 x.level, .slice s.ea s.el s.ec, .int .i64 x.hb, .string x.hr, .int .i64 x.cr, .int .i64 x.cc, .slice s.ca s.cl s.cc, .int .i64 x.gf, .slice s.ga s.gl s.gc], .int .i64 m] W fun e w' => ∃ p : SS, e = .returned (.tuple #[.agg #[.int .i64 1, .int .i64 0, .slice p.ea p.el p.ec, .int .i64 0, .string ⟨#[]⟩, .int .i64 0, .int .i64 0, .slice p.ca p.cl p.cc, .int .i64 0, .slice p.ga p.gl p.gc], .int .i64 0]) ∧ p.At w'.heap.size w' (skNum 1 0 l) ∧ Below W.heap.size W w' := fun W h => ref10_To_good (x' := (skNum 1 0 l)) hB hx e1 hmb (by rw [hm0]; rfl) h
 have HTy0 : ∀ W, t.At W.heap.size W y → Calls Tryz.prog 12 #[.agg #[.int .i64 y.kind, .int .i64 y.level, .slice t.ea t.el t.ec, .int .i64 y.hb, .string y.hr, .int .i64 y.cr, .int .i64 y.cc, .slice t.ca t.cl t.cc, .int .i64 y.gf, .slice t.ga t.gl t.gc], .int .i64 m] W fun e w' => ∃ p2 : SS, e = .returned (.tuple #[.agg #[.int .i64 1, .int .i64 0, .slice p2.ea p2.el p2.ec, .int .i64 0, .string ⟨#[]⟩, .int .i64 0, .int .i64 0, .slice p2.ca p2.cl p2.cc, .int .i64 0, .slice p2.ga p2.gl p2.gc], .int .i64 0]) ∧ p2.At w'.heap.size w' (skNum 1 0 l2) ∧ Below W.heap.size W w' := fun W h => ref10_To_good (x' := (skNum 1 0 l2)) hB2 hy e2 hmb (by rw [hm0]; rfl) h
 have hkk : (x.kind != y.kind) = false := by rw [bne_eq_false_iff_eq, hx, hy, (skOf_kind _ _ _).1, (skOf_kind _ _ _).1]
 have hmx : max x.level y.level = (m : Int) := by rw [hx, hy, (skOf_kind _ _ _).2, (skOf_kind _ _ _).2]; omega
 obtain ⟨W0, hW0, hX0, hY0, hXr, hB0, hs0⟩ := boxes3 w #[.int .i64 x.kind, .int .i64 x.level, .slice s.ea s.el s.ec, .int .i64 x.hb, .string x.hr, .int .i64 x.cr, .int .i64 x.cc, .slice s.ca s.cl s.cc, .int .i64 x.gf, .slice s.ga s.gl s.gc] 33 #[.int .i64 y.kind, .int .i64 y.level, .slice t.ea t.el t.ec, .int .i64 y.hb, .string y.hr, .int .i64 y.cr, .int .i64 y.cc, .slice t.ca t.cl t.cc, .int .i64 y.gf, .slice t.ga t.gl t.gc] 33 #[.int .i64 0, .int .i64 0, .slice none 0 0, .int .i64 0, .string ⟨#[]⟩, .int .i64 0, .int .i64 0, .slice none 0 0, .int .i64 0, .slice none 0 0] 33
 have HX : Hid (∀ W, Below W0.heap.size W0 W → W.heap[w.heap.size]? = some (.cells #[.int .i64 x.kind, .int .i64 x.level, .slice s.ea s.el s.ec, .int .i64 x.hb, .string x.hr, .int .i64 x.cr, .int .i64 x.cc, .slice s.ca s.cl s.cc, .int .i64 x.gf, .slice s.ga s.gl s.gc] 33 (0, 0)) ∧ W.heap[w.heap.size + 1]? = some (.cells #[.int .i64 y.kind, .int .i64 y.level, .slice t.ea t.el t.ec, .int .i64 y.hb, .string y.hr, .int .i64 y.cr, .int .i64 y.cc, .slice t.ca t.cl t.cc, .int .i64 y.gf, .slice t.ga t.gl t.gc] 33 (0, 0)) ∧ W.heap[w.heap.size + 2]? = some (.cells #[.int .i64 0, .int .i64 0, .slice none 0 0, .int .i64 0, .string ⟨#[]⟩, .int .i64 0, .int .i64 0, .slice none 0 0, .int .i64 0, .slice none 0 0] 33 (0, 0))) := fun W hb => ⟨known hb (Nat.le_refl _) hX0, known hb (Nat.le_refl _) hY0, known hb (Nat.le_refl _) hXr⟩
 have hRt := ref10_Right_ok hB hx (hA.go hB0)
 have HRt2 : Hid (∀ W, Below W0.heap.size W0 W → Calls Tryz.prog 20 #[.agg #[.int .i64 y.kind, .int .i64 y.level, .slice t.ea t.el t.ec, .int .i64 y.hb, .string y.hr, .int .i64 y.cr, .int .i64 y.cc, .slice t.ca t.cl t.cc, .int .i64 y.gf, .slice t.ga t.gl t.gc]] W fun e w' => e = .returned (.bool true) ∧ Below W.heap.size W w') := fun W hb => ref10_Right_ok hB2 hy ((hA2.go hB0).go hb)
 have HTx : Hid (∀ W, Below W0.heap.size W0 W → Calls Tryz.prog 12 #[.agg #[.int .i64 x.kind, .int .i64 x.level, .slice s.ea s.el s.ec, .int .i64 x.hb, .string x.hr, .int .i64 x.cr, .int .i64 x.cc, .slice s.ca s.cl s.cc, .int .i64 x.gf, .slice s.ga s.gl s.gc], .int .i64 m] W fun e w' => ∃ p : SS, e = .returned (.tuple #[.agg #[.int .i64 1, .int .i64 0, .slice p.ea p.el p.ec, .int .i64 0, .string ⟨#[]⟩, .int .i64 0, .int .i64 0, .slice p.ca p.cl p.cc, .int .i64 0, .slice p.ga p.gl p.gc], .int .i64 0]) ∧ p.At w'.heap.size w' (skNum 1 0 l) ∧ Below W.heap.size W w') := fun W hb => HTx0 W ((hA.go hB0).go hb)
 have HTy : Hid (∀ W, t.At W.heap.size W y → Calls Tryz.prog 12 #[.agg #[.int .i64 y.kind, .int .i64 y.level, .slice t.ea t.el t.ec, .int .i64 y.hb, .string y.hr, .int .i64 y.cr, .int .i64 y.cc, .slice t.ca t.cl t.cc, .int .i64 y.gf, .slice t.ga t.gl t.gc], .int .i64 m] W fun e w' => ∃ p2 : SS, e = .returned (.tuple #[.agg #[.int .i64 1, .int .i64 0, .slice p2.ea p2.el p2.ec, .int .i64 0, .string ⟨#[]⟩, .int .i64 0, .int .i64 0, .slice p2.ca p2.cl p2.cc, .int .i64 0, .slice p2.ga p2.gl p2.gc], .int .i64 0]) ∧ p2.At w'.heap.size w' (skNum 1 0 l2) ∧ Below W.heap.size W w') := HTy0
 have HAy := Lib.hid (hA2.go hB0)
 have HO : Hid (∀ W (p p2 : SS), p.At W.heap.size W (skNum 1 0 l) → p2.At W.heap.size W (skNum 1 0 l2) → Calls Tryz.prog 34 #[.agg #[.slice p.ea p.el p.ec], .agg #[.slice p2.ea p2.el p2.ec]] W (GatherPost06 (exGather l l2) W)) := fun W p p2 h h2 => ref06_Merge_any l l2 _ _ _ _ _ _ W h.e h2.e hR1 hR2 hu hv
 have hm1 : ((m : Int) == 0) = true := by rw [beq_iff_eq]; omega
 obtain ⟨lx, hlx⟩ : ∃ y, y = skOf 1 1 (Bd.num l).low := ⟨_, rfl⟩
 obtain ⟨ly, hly⟩ : ∃ y, y = skOf 1 1 (Bd.num l2).low := ⟨_, rfl⟩
 subst hm0
 have HLx : Hid (∀ W (p : SS), p.At W.heap.size W (skNum 1 0 l) → Calls Tryz.prog 35 #[.agg #[.int .i64 1, .int .i64 0, .slice p.ea p.el p.ec, .int .i64 0, .string ⟨#[]⟩, .int .i64 0, .int .i64 0, .slice p.ca p.cl p.cc, .int .i64 0, .slice p.ga p.gl p.gc]] W (LowP lx W)) := fun W p h => by rw [hlx]; exact ref10_lower_any ok1 (by decide) (skNum 1 0 l) rfl p W h
 have HLy : Hid (∀ W (p2 : SS), p2.At W.heap.size W (skNum 1 0 l2) → Calls Tryz.prog 35 #[.agg #[.int .i64 1, .int .i64 0, .slice p2.ea p2.el p2.ec, .int .i64 0, .string ⟨#[]⟩, .int .i64 0, .int .i64 0, .slice p2.ca p2.cl p2.cc, .int .i64 0, .slice p2.ga p2.gl p2.gc]] W (LowP ly W)) := fun W p2 h => by rw [hly]; exact ref10_lower_any ok2 (by decide) (skNum 1 0 l2) rfl p2 W h
 have HRec : Hid (∀ W (p p2 : SS), p.At W.heap.size W lx → p2.At W.heap.size W ly → Calls Tryz.prog 8 #[.agg #[.int .i64 lx.kind, .int .i64 lx.level, .slice p.ea p.el p.ec, .int .i64 lx.hb, .string lx.hr, .int .i64 lx.cr, .int .i64 lx.cc, .slice p.ca p.cl p.cc, .int .i64 lx.gf, .slice p.ga p.gl p.gc], .agg #[.int .i64 ly.kind, .int .i64 ly.level, .slice p2.ea p2.el p2.ec, .int .i64 ly.hb, .string ly.hr, .int .i64 ly.cr, .int .i64 ly.cc, .slice p2.ca p2.cl p2.cc, .int .i64 ly.gf, .slice p2.ga p2.gl p2.gc]] W (SkP (R, 0) W)) := fun W p p2 hp hp2 => by
  rw [← hRe]
  exact ref10_Merge_reg (L := 1) (L2 := 1) (m := 1) (B := (Bd.num l).low) (B2 := (Bd.num l2).low) (bd_low_ok ok1 (by decide)) (bd_low_ok ok2 (by decide)) hlx hly (by decide) (by decide) rfl rfl p p2 W hp hp2
 clear hlx hly hRe
 have HB0 := Lib.hid hB0
 have HS0 : Hid (W0.heap.size = w.heap.size + 3) := hs0
 obtain ⟨c0, c1, c2, c3, c4, c5, c6, c7, c8, c9⟩ := cl10 hX0
 clear hX0 hY0 hXr hB0 hA hA2 hs0 hB hB2 hx hy HTx0 HTy0 hu1 hu2 hu hv1 hv2 hv hR1 hR2 ok1 ok2 e1 e2 hm
 go_enter Tryz.func8, Tryz.ntmps8
 go_wp2_with fail
 refine hRt.mono ?_
 rintro e w1 ⟨rfl, hb1⟩
 obtain ⟨hX1, hY1, -⟩ := HX.out w1 hb1
 obtain ⟨d0, d1, d2, d3, d4, d5, d6, d7, d8, d9⟩ := cl10 hX1
 obtain ⟨e0, e1, e2, e3, e4, e5, e6, e7, e8, e9⟩ := cl10 hY1
 have hRt2 := HRt2.out w1 hb1
 have HB1 := Lib.hid hb1
 clear hRt c0 c1 c2 c3 c4 c5 c6 c7 c8 c9 hX1 hY1 hb1
 go_wp2_with fail
 refine hRt2.mono ?_
 rintro e w2 ⟨rfl, hb2⟩
 have hb02 := HB1.out.trans (hb2.mono HB1.out.size)
 obtain ⟨hX2, hY2, -⟩ := HX.out w2 hb02
 obtain ⟨f0, f1, f2, f3, f4, f5, f6, f7, f8, f9⟩ := cl10 hX2
 obtain ⟨g0, g1, g2, g3, g4, g5, g6, g7, g8, g9⟩ := cl10 hY2
 have HB2 := Lib.hid hb02
 clear hRt2 d0 d1 d2 d3 d4 d5 d6 d7 d8 d9 e0 e1 e2 e3 e4 e5 e6 e7 e8 e9 hX2 hY2 hb2 hb02
 go_wp2_with fail
 refine (HTx.out w2 HB2.out).mono ?_
 rintro e w3 ⟨p, rfl, hA3, hb3⟩
 have hb03 := HB2.out.trans (hb3.mono HB2.out.size)
 obtain ⟨hX3, hY3, hR3⟩ := HX.out w3 hb03
 obtain ⟨h0, h1, h2, h3, h4, h5, h6, h7, h8, h9⟩ := cl10 hX3
 obtain ⟨i0, i1, i2, i3, i4, i5, i6, i7, i8, i9⟩ := cz10 hX3
 obtain ⟨V3, hV3, hXV3, hOV3, hBV3⟩ := store10 (.int .i64 1) (.int .i64 0) (.slice p.ea p.el p.ec) (.int .i64 0) (.string ⟨#[]⟩) (.int .i64 0) (.int .i64 0) (.slice p.ca p.cl p.cc) (.int .i64 0) (.slice p.ga p.gl p.gc) hX3
 have hYV3 := (hOV3.2 (w.heap.size + 1) (by omega)).trans hY3
 have HRV3 := Lib.hid ((hOV3.2 (w.heap.size + 2) (by omega)).trans hR3)
 have HXV3 := Lib.hid hXV3
 have HYV3 := Lib.hid hYV3
 have hAV3 : p.At V3.heap.size V3 (skNum 1 0 l) := hA3.apart hX3 (noU10 _ _ _ _ _ _ _ _ _ _ _ _ _ _ _ _) hOV3
 have HAV3 := Lib.hid hAV3
 have HAyV3 : Hid (t.At V3.heap.size V3 y) := (HAy.out.go hb03).apart hX3 (noU10 _ _ _ _ _ _ _ _ _ _ _ _ _ _ _ _) hOV3
 have HBV3 : Hid (Below w.heap.size w V3) := hBV3 _ _ (HB0.out.trans (hb03.mono HB0.out.size)) (Nat.le_refl _)
 obtain ⟨k0, k1, k2, k3, k4, k5, k6, k7, k8, k9⟩ := cl10 hYV3
 clear f0 f1 f2 f3 f4 f5 f6 f7 f8 f9 g0 g1 g2 g3 g4 g5 g6 g7 g8 g9 hX3 hY3 hR3 hXV3 hYV3 hOV3 hBV3 hAV3 hA3 hb3 hb03
 go_wp2_with fail
 refine (HTy.out V3 HAyV3.out).mono ?_
 rintro e w4 ⟨p2, rfl, hA4, hb4⟩
 have hX4 := known hb4 (Nat.le_refl _) HXV3.out
 have hY4 := known hb4 (Nat.le_refl _) HYV3.out
 have hR4 := known hb4 (Nat.le_refl _) HRV3.out
 obtain ⟨lc0, lc1, lc2, lc3, lc4, lc5, lc6, lc7, lc8, lc9⟩ := cl10 hY4
 obtain ⟨j0, j1, j2, j3, j4, j5, j6, j7, j8, j9⟩ := cz10 hY4
 obtain ⟨V4, hV4, hYV4, hOV4, hBV4⟩ := store10 (.int .i64 1) (.int .i64 0) (.slice p2.ea p2.el p2.ec) (.int .i64 0) (.string ⟨#[]⟩) (.int .i64 0) (.int .i64 0) (.slice p2.ca p2.cl p2.cc) (.int .i64 0) (.slice p2.ga p2.gl p2.gc) hY4
 have hXV4 := (hOV4.2 w.heap.size (by omega)).trans hX4
 have HRV4 := Lib.hid ((hOV4.2 (w.heap.size + 2) (by omega)).trans hR4)
 have HXV4 := Lib.hid hXV4
 have HYV4 := Lib.hid hYV4
 have HA4x : Hid (p.At V4.heap.size V4 (skNum 1 0 l)) := (HAV3.out.go hb4).apart hY4 (noU10 _ _ _ _ _ _ _ _ _ _ _ _ _ _ _ _) hOV4
 have HA4y : Hid (p2.At V4.heap.size V4 (skNum 1 0 l2)) := hA4.apart hY4 (noU10 _ _ _ _ _ _ _ _ _ _ _ _ _ _ _ _) hOV4
 have HBV4 : Hid (Below w.heap.size w V4) := hBV4 _ _ (HBV3.out.trans (hb4.mono HBV3.out.size)) (Nat.le_succ _)
 obtain ⟨m0, m1, m2, m3, m4, m5, m6, m7, m8, m9⟩ := cl10 hXV4
 obtain ⟨n0, n1, n2, n3, n4, n5, n6, n7, n8, n9⟩ := cl10 hYV4
 clear k0 k1 k2 k3 k4 k5 k6 k7 k8 k9 h0 h1 h2 h3 h4 h5 h6 h7 h8 h9 i0 i1 i2 i3 i4 i5 i6 i7 i8 i9 hX4 hY4 hR4 hXV4 hYV4 hOV4 hBV4 hA4 hb4
 rw [hq] at HO
 clear hq
 obtain ⟨W5, hW5, hXw, hB5, hs5⟩ := boxes1 V4 #[.int .i64 1, .int .i64 0, .slice p.ea p.el p.ec, .int .i64 0, .string ⟨#[]⟩, .int .i64 0, .int .i64 0, .slice p.ca p.cl p.cc, .int .i64 0, .slice p.ga p.gl p.gc] 33
 have hwb : w.heap.size + 3 ≤ V4.heap.size := by have h1 := (Array.getElem?_eq_some_iff.1 HRV4.out).1; omega
 have hX5' := known hB5 (Nat.le_refl _) HXV4.out
 have hY5' := known hB5 (Nat.le_refl _) HYV4.out
 obtain ⟨u0, u1, u2, u3, u4, u5, u6, u7, u8, u9⟩ := cl10 hXw
 obtain ⟨v0, v1, v2, v3, v4, v5, v6, v7, v8, v9⟩ := cz10 hXw
 have e1 : W5.setCell ⟨V4.heap.size, 1, none⟩ (.int .i64 0) = W5 := set_same hXw rfl
 have e2 : W5.setCell ⟨V4.heap.size, 2, none⟩ (.slice p.ea p.el p.ec) = W5 := set_same hXw rfl
 have e3 : W5.setCell ⟨V4.heap.size, 3, none⟩ (.int .i64 0) = W5 := set_same hXw rfl
 have e4 : W5.setCell ⟨V4.heap.size, 4, none⟩ (.string ⟨#[]⟩) = W5 := set_same hXw rfl
 have e5 : W5.setCell ⟨V4.heap.size, 5, none⟩ (.int .i64 0) = W5 := set_same hXw rfl
 have e6 : W5.setCell ⟨V4.heap.size, 6, none⟩ (.int .i64 0) = W5 := set_same hXw rfl
 have e7 : W5.setCell ⟨V4.heap.size, 7, none⟩ (.slice p.ca p.cl p.cc) = W5 := set_same hXw rfl
 have e8 : W5.setCell ⟨V4.heap.size, 8, none⟩ (.int .i64 0) = W5 := set_same hXw rfl
 have e9 : W5.setCell ⟨V4.heap.size, 9, none⟩ (.slice p.ga p.gl p.gc) = W5 := set_same hXw rfl
 obtain ⟨x0, x1, x2, x3, x4, x5, x6, x7, x8, x9⟩ := cl10 hX5'
 obtain ⟨y0, y1, y2, y3, y4, y5, y6, y7, y8, y9⟩ := cl10 hY5'
 have HXw := Lib.hid hXw
 have HB5 := Lib.hid hB5
 clear hXw hB5 hs5 hX5' hY5'
 go_wp2_with fail
 refine (HO.out W5 p p2 (HA4x.out.go HB5.out) (HA4y.out.go HB5.out)).mono ?_
 rintro e w5 ⟨rfl, hb5'⟩
 have hb5 := HB5.out.trans (hb5'.mono HB5.out.size)
 have hX5 := known hb5 (Nat.le_refl _) HXV4.out
 have hY5 := known hb5 (Nat.le_refl _) HYV4.out
 have hR5 := known hb5 (Nat.le_refl _) HRV4.out
 have hXw5 := known hb5' (Nat.le_refl _) HXw.out
 obtain ⟨q0, q1, q2, q3, q4, q5, q6, q7, q8, q9⟩ := cl10 hX5
 obtain ⟨g0, g1, g2, g3, g4, g5, g6, g7, g8, g9⟩ := cz10 hX5
 obtain ⟨V, hV⟩ : ∃ V, w5.setCell ⟨w.heap.size, 2, none⟩ (.slice none 0 0) = V := ⟨_, rfl⟩
 have hOV : OnlyAt w.heap.size w5 V := by rw [← hV]; exact (OnlyAt.refl _ _).set _ _
 have hBV : Below w.heap.size w V := by rw [← hV]; exact (HBV4.out.trans (hb5.mono HBV4.out.size)).setCell (p := ⟨w.heap.size, 2, none⟩) (Nat.le_refl _) _
 have hXwV := (hOV.2 V4.heap.size (by omega)).trans hXw5
 have hYV := (hOV.2 (w.heap.size + 1) (by omega)).trans hY5
 have hRV := (hOV.2 (w.heap.size + 2) (by omega)).trans hR5
 have hAx : p.At V.heap.size V (skNum 1 0 l) := SS.At.apart (HA4x.out.go hb5) hX5 (noU10 _ _ _ _ _ _ _ _ _ _ _ _ _ _ _ _) hOV
 have hAy : p2.At V.heap.size V (skNum 1 0 l2) := SS.At.apart (HA4y.out.go hb5) hX5 (noU10 _ _ _ _ _ _ _ _ _ _ _ _ _ _ _ _) hOV
 have HLxV : Hid (Calls Tryz.prog 35 #[.agg #[.int .i64 1, .int .i64 0, .slice p.ea p.el p.ec, .int .i64 0, .string ⟨#[]⟩, .int .i64 0, .int .i64 0, .slice p.ca p.cl p.cc, .int .i64 0, .slice p.ga p.gl p.gc]] V.drew (LowP lx V.drew)) := HLx.out V.drew p ⟨hAx.e, hAx.c, hAx.g⟩
 have HAy := Lib.hid hAy
 have HK : Hid (∀ W, Below V.heap.size V W → W.heap[w.heap.size + 1]? = some (.cells #[.int .i64 1, .int .i64 0, .slice p2.ea p2.el p2.ec, .int .i64 0, .string ⟨#[]⟩, .int .i64 0, .int .i64 0, .slice p2.ca p2.cl p2.cc, .int .i64 0, .slice p2.ga p2.gl p2.gc] 33 (0, 0)) ∧ W.heap[w.heap.size + 2]? = some (.cells #[.int .i64 0, .int .i64 0, .slice none 0 0, .int .i64 0, .string ⟨#[]⟩, .int .i64 0, .int .i64 0, .slice none 0 0, .int .i64 0, .slice none 0 0] 33 (0, 0))) := fun W hb => ⟨known hb (Nat.le_refl _) hYV, known hb (Nat.le_refl _) hRV⟩
 have HBV : Hid (Below w.heap.size w V.drew) := hBV.drew
 have HVV : Hid (Below V.heap.size V V.drew) := (Below.refl _ _).drew
 obtain ⟨o0, o1, o2, o3, o4, o5, o6, o7, o8, o9⟩ := cl10 hXwV
 obtain ⟨z0, z1, z2, z3, z4, z5, z6, z7, z8, z9⟩ := cl10 hYV
 clear hX5 hY5 hR5 hXw5 hXwV hYV hRV hAx hAy hOV hBV hb5 hb5' n0 n1 n2 n3 n4 n5 n6 n7 n8 n9 lc0 lc1 lc2 lc3 lc4 lc5 lc6 lc7 lc8 lc9 j0 j1 j2 j3 j4 j5 j6 j7 j8 j9 m0 m1 m2 m3 m4 m5 m6 m7 m8 m9 u0 u1 u2 u3 u4 u5 u6 u7 u8 u9 x0 x1 x2 x3 x4 x5 x6 x7 x8 x9 y0 y1 y2 y3 y4 y5 y6 y7 y8 y9
 go_wp2_with fail
 refine wp_region_any (by kernel_rfl) ?_
 change wpAny _ _ _ _ _ _ _ (World.drew _)
 refine wpAny_ready (rs := [0, 2]) (by kernel_rfl) (by simp) ?_
 refine AllReady.cons rfl (fun K hK => ?_) ?_
 ·go_simp
  refine hK _ _ ?_
  clear hK K
  refine wpAny_ready (rs := [1, 2]) (by kernel_rfl) (by simp) ?_
  refine AllReady.cons rfl (fun K hK => ?_) ?_
  ·go_simp
   refine HLxV.out.mono ?_
   rintro e w6 ⟨p6, rfl, hA6, hb6⟩
   have hb6' := HVV.out.trans (hb6.mono HVV.out.size)
   obtain ⟨hY6, -⟩ := HK.out w6 hb6'
   obtain ⟨a0, a1, a2, a3, a4, a5, a6, a7, a8, a9⟩ := cl10 hY6
   have HA6 := Lib.hid hA6
   have HB6 := Lib.hid hb6'
   have HBw6 : Hid (Below w.heap.size w w6) := HBV.out.trans (hb6.mono HBV.out.size)
   have HLyW := Lib.hid (HLy.out w6 p2 (HAy.out.go hb6'))
   clear hY6 hA6 hb6 hb6'
   refine hK _ _ ?_
   clear hK K
   refine wpAny_ready (rs := [2]) (by kernel_rfl) (by simp) ?_
   refine AllReady.cons rfl (fun K hK => ?_) ?_
   ·go_simp
    refine hK _ _ ?_
    clear hK K
    refine wpAny_ready (rs := [3]) (by kernel_rfl) (by simp) ?_
    refine AllReady.cons rfl (fun K hK => ?_) ?_
    ·go_simp
     refine HLyW.out.mono ?_
     rintro e w7 ⟨p7, rfl, hA7, hb7⟩
     have HRc := Lib.hid (HRec.out w7 p6 p7 (HA6.out.go hb7) hA7)
     have HB7 := Lib.hid (HB6.out.trans (hb7.mono HB6.out.size))
     have HBw7 : Hid (Below w.heap.size w w7) := HBw6.out.trans (hb7.mono HBw6.out.size)
     clear hA7 hb7
     refine hK _ _ ?_
     clear hK K
     refine wpAny_ready (rs := [4]) (by kernel_rfl) (by simp) ?_
     refine AllReady.cons rfl (fun K hK => ?_) ?_
     ·go_simp
      refine HRc.out.mono ?_
      rintro e w8 ⟨p8, rfl, hA8, hb8⟩
      obtain ⟨-, hR8⟩ := HK.out w8 (HB7.out.trans (hb8.mono HB7.out.size))
      have HBw8 : Hid (Below w.heap.size w w8) := HBw7.out.trans (hb8.mono HBw7.out.size)
      obtain ⟨r0, r1, r2, r3, r4, r5, r6, r7, r8, r9⟩ := cl10 hR8
      obtain ⟨f0, f1, f2, f3, f4, f5, f6, f7, f8, f9⟩ := cz10 hR8
      obtain ⟨U, hU, hXU, hOU, hBU⟩ := store10 (.int .i64 R.kind) (.int .i64 R.level) (.slice p8.ea p8.el p8.ec) (.int .i64 R.hb) (.string R.hr) (.int .i64 R.cr) (.int .i64 R.cc) (.slice p8.ca p8.cl p8.cc) (.int .i64 R.gf) (.slice p8.ga p8.gl p8.gc) hR8
      obtain ⟨k0, k1, k2, k3, k4, k5, k6, k7, k8, k9⟩ := cl10 hXU
      have HAU := Lib.hid (hA8.apart hR8 (noU10 _ _ _ _ _ _ _ _ _ _ _ _ _ _ _ _) hOU)
      have HBU : Hid (Below w.heap.size w U) := hBU _ _ HBw8.out (by omega)
      clear hA8 hb8 hR8 hXU hOU hBU
      refine hK _ _ ?_
      clear hK K
      refine tk 5 (v := ?_) rfl ?_ ?_
      rotate_left
      ·intro w; go_simp; with_reducible rfl
      refine tk 6 (v := ?_) rfl ?_ ?_
      rotate_left
      ·intro w; go_simp; with_reducible rfl
      refine wpAny_ready (rs := [7]) (by kernel_rfl) (by simp) ?_
      refine AllReady.cons rfl (fun K hK => ?_) ?_
      ·go_simp
       refine hK _ _ ?_
       clear hK K
       refine wpAny_ready (rs := [8]) (by kernel_rfl) (by simp) ?_
       refine AllReady.cons rfl (fun K hK => ?_) ?_
       ·go_simp
        refine hK _ _ ?_
        clear hK K
        refine wpAny_done (by kernel_rfl) ?_ _
        go_wp2_with fail
        exact bodyPost_ret (v := .tuple #[.agg #[.int .i64 R.kind, .int .i64 R.level, .slice p8.ea p8.el p8.ec, .int .i64 R.hb, .string R.hr, .int .i64 R.cr, .int .i64 R.cc, .slice p8.ca p8.cl p8.cc, .int .i64 R.gf, .slice p8.ga p8.gl p8.gc], .int .i64 0]) (by simp [results, Tryz.f8, go_sem, k0, k1, k2, k3, k4, k5, k6, k7, k8, k9]) rfl ⟨p8, rfl, HAU.out, HBU.out⟩
       exact AllReady.nil
      exact AllReady.nil
     exact AllReady.nil
    exact AllReady.nil
   exact AllReady.nil
  refine AllReady.cons rfl (fun K hK => ?_) ?_
  ·go_simp
   refine hK _ _ ?_
   clear hK K
   refine wpAny_ready (rs := [1]) (by kernel_rfl) (by simp) ?_
   refine AllReady.cons rfl (fun K hK => ?_) ?_
   ·go_simp
    refine HLxV.out.mono ?_
    rintro e w6 ⟨p6, rfl, hA6, hb6⟩
    have hb6' := HVV.out.trans (hb6.mono HVV.out.size)
    obtain ⟨hY6, -⟩ := HK.out w6 hb6'
    obtain ⟨a0, a1, a2, a3, a4, a5, a6, a7, a8, a9⟩ := cl10 hY6
    have HA6 := Lib.hid hA6
    have HB6 := Lib.hid hb6'
    have HBw6 : Hid (Below w.heap.size w w6) := HBV.out.trans (hb6.mono HBV.out.size)
    have HLyW := Lib.hid (HLy.out w6 p2 (HAy.out.go hb6'))
    clear hY6 hA6 hb6 hb6'
    refine hK _ _ ?_
    clear hK K
    refine wpAny_ready (rs := [3]) (by kernel_rfl) (by simp) ?_
    refine AllReady.cons rfl (fun K hK => ?_) ?_
    ·go_simp
     refine HLyW.out.mono ?_
     rintro e w7 ⟨p7, rfl, hA7, hb7⟩
     have HRc := Lib.hid (HRec.out w7 p6 p7 (HA6.out.go hb7) hA7)
     have HB7 := Lib.hid (HB6.out.trans (hb7.mono HB6.out.size))
     have HBw7 : Hid (Below w.heap.size w w7) := HBw6.out.trans (hb7.mono HBw6.out.size)
     clear hA7 hb7
     refine hK _ _ ?_
     clear hK K
     refine wpAny_ready (rs := [4]) (by kernel_rfl) (by simp) ?_
     refine AllReady.cons rfl (fun K hK => ?_) ?_
     ·go_simp
      refine HRc.out.mono ?_
      rintro e w8 ⟨p8, rfl, hA8, hb8⟩
      obtain ⟨-, hR8⟩ := HK.out w8 (HB7.out.trans (hb8.mono HB7.out.size))
      have HBw8 : Hid (Below w.heap.size w w8) := HBw7.out.trans (hb8.mono HBw7.out.size)
      obtain ⟨r0, r1, r2, r3, r4, r5, r6, r7, r8, r9⟩ := cl10 hR8
      obtain ⟨f0, f1, f2, f3, f4, f5, f6, f7, f8, f9⟩ := cz10 hR8
      obtain ⟨U, hU, hXU, hOU, hBU⟩ := store10 (.int .i64 R.kind) (.int .i64 R.level) (.slice p8.ea p8.el p8.ec) (.int .i64 R.hb) (.string R.hr) (.int .i64 R.cr) (.int .i64 R.cc) (.slice p8.ca p8.cl p8.cc) (.int .i64 R.gf) (.slice p8.ga p8.gl p8.gc) hR8
      obtain ⟨k0, k1, k2, k3, k4, k5, k6, k7, k8, k9⟩ := cl10 hXU
      have HAU := Lib.hid (hA8.apart hR8 (noU10 _ _ _ _ _ _ _ _ _ _ _ _ _ _ _ _) hOU)
      have HBU : Hid (Below w.heap.size w U) := hBU _ _ HBw8.out (by omega)
      clear hA8 hb8 hR8 hXU hOU hBU
      refine hK _ _ ?_
      clear hK K
      refine tk 5 (v := ?_) rfl ?_ ?_
      rotate_left
      ·intro w; go_simp; with_reducible rfl
      refine tk 6 (v := ?_) rfl ?_ ?_
      rotate_left
      ·intro w; go_simp; with_reducible rfl
      refine wpAny_ready (rs := [7]) (by kernel_rfl) (by simp) ?_
      refine AllReady.cons rfl (fun K hK => ?_) ?_
      ·go_simp
       refine hK _ _ ?_
       clear hK K
       refine wpAny_ready (rs := [8]) (by kernel_rfl) (by simp) ?_
       refine AllReady.cons rfl (fun K hK => ?_) ?_
       ·go_simp
        refine hK _ _ ?_
        clear hK K
        refine wpAny_done (by kernel_rfl) ?_ _
        go_wp2_with fail
        exact bodyPost_ret (v := .tuple #[.agg #[.int .i64 R.kind, .int .i64 R.level, .slice p8.ea p8.el p8.ec, .int .i64 R.hb, .string R.hr, .int .i64 R.cr, .int .i64 R.cc, .slice p8.ca p8.cl p8.cc, .int .i64 R.gf, .slice p8.ga p8.gl p8.gc], .int .i64 0]) (by simp [results, Tryz.f8, go_sem, k0, k1, k2, k3, k4, k5, k6, k7, k8, k9]) rfl ⟨p8, rfl, HAU.out, HBU.out⟩
       exact AllReady.nil
      exact AllReady.nil
     exact AllReady.nil
    exact AllReady.nil
   exact AllReady.nil
  exact AllReady.nil
 refine AllReady.cons rfl (fun K hK => ?_) ?_
 ·go_simp
  refine hK _ _ ?_
  clear hK K
  refine wpAny_ready (rs := [0]) (by kernel_rfl) (by simp) ?_
  refine AllReady.cons rfl (fun K hK => ?_) ?_
  ·go_simp
   refine hK _ _ ?_
   clear hK K
   refine wpAny_ready (rs := [1]) (by kernel_rfl) (by simp) ?_
   refine AllReady.cons rfl (fun K hK => ?_) ?_
   ·go_simp
    refine HLxV.out.mono ?_
    rintro e w6 ⟨p6, rfl, hA6, hb6⟩
    have hb6' := HVV.out.trans (hb6.mono HVV.out.size)
    obtain ⟨hY6, -⟩ := HK.out w6 hb6'
    obtain ⟨a0, a1, a2, a3, a4, a5, a6, a7, a8, a9⟩ := cl10 hY6
    have HA6 := Lib.hid hA6
    have HB6 := Lib.hid hb6'
    have HBw6 : Hid (Below w.heap.size w w6) := HBV.out.trans (hb6.mono HBV.out.size)
    have HLyW := Lib.hid (HLy.out w6 p2 (HAy.out.go hb6'))
    clear hY6 hA6 hb6 hb6'
    refine hK _ _ ?_
    clear hK K
    refine wpAny_ready (rs := [3]) (by kernel_rfl) (by simp) ?_
    refine AllReady.cons rfl (fun K hK => ?_) ?_
    ·go_simp
     refine HLyW.out.mono ?_
     rintro e w7 ⟨p7, rfl, hA7, hb7⟩
     have HRc := Lib.hid (HRec.out w7 p6 p7 (HA6.out.go hb7) hA7)
     have HB7 := Lib.hid (HB6.out.trans (hb7.mono HB6.out.size))
     have HBw7 : Hid (Below w.heap.size w w7) := HBw6.out.trans (hb7.mono HBw6.out.size)
     clear hA7 hb7
     refine hK _ _ ?_
     clear hK K
     refine wpAny_ready (rs := [4]) (by kernel_rfl) (by simp) ?_
     refine AllReady.cons rfl (fun K hK => ?_) ?_
     ·go_simp
      refine HRc.out.mono ?_
      rintro e w8 ⟨p8, rfl, hA8, hb8⟩
      obtain ⟨-, hR8⟩ := HK.out w8 (HB7.out.trans (hb8.mono HB7.out.size))
      have HBw8 : Hid (Below w.heap.size w w8) := HBw7.out.trans (hb8.mono HBw7.out.size)
      obtain ⟨r0, r1, r2, r3, r4, r5, r6, r7, r8, r9⟩ := cl10 hR8
      obtain ⟨f0, f1, f2, f3, f4, f5, f6, f7, f8, f9⟩ := cz10 hR8
      obtain ⟨U, hU, hXU, hOU, hBU⟩ := store10 (.int .i64 R.kind) (.int .i64 R.level) (.slice p8.ea p8.el p8.ec) (.int .i64 R.hb) (.string R.hr) (.int .i64 R.cr) (.int .i64 R.cc) (.slice p8.ca p8.cl p8.cc) (.int .i64 R.gf) (.slice p8.ga p8.gl p8.gc) hR8
      obtain ⟨k0, k1, k2, k3, k4, k5, k6, k7, k8, k9⟩ := cl10 hXU
      have HAU := Lib.hid (hA8.apart hR8 (noU10 _ _ _ _ _ _ _ _ _ _ _ _ _ _ _ _) hOU)
      have HBU : Hid (Below w.heap.size w U) := hBU _ _ HBw8.out (by omega)
      clear hA8 hb8 hR8 hXU hOU hBU
      refine hK _ _ ?_
      clear hK K
      refine tk 5 (v := ?_) rfl ?_ ?_
      rotate_left
      ·intro w; go_simp; with_reducible rfl
      refine tk 6 (v := ?_) rfl ?_ ?_
      rotate_left
      ·intro w; go_simp; with_reducible rfl
      refine wpAny_ready (rs := [7]) (by kernel_rfl) (by simp) ?_
      refine AllReady.cons rfl (fun K hK => ?_) ?_
      ·go_simp
       refine hK _ _ ?_
       clear hK K
       refine wpAny_ready (rs := [8]) (by kernel_rfl) (by simp) ?_
       refine AllReady.cons rfl (fun K hK => ?_) ?_
       ·go_simp
        refine hK _ _ ?_
        clear hK K
        refine wpAny_done (by kernel_rfl) ?_ _
        go_wp2_with fail
        exact bodyPost_ret (v := .tuple #[.agg #[.int .i64 R.kind, .int .i64 R.level, .slice p8.ea p8.el p8.ec, .int .i64 R.hb, .string R.hr, .int .i64 R.cr, .int .i64 R.cc, .slice p8.ca p8.cl p8.cc, .int .i64 R.gf, .slice p8.ga p8.gl p8.gc], .int .i64 0]) (by simp [results, Tryz.f8, go_sem, k0, k1, k2, k3, k4, k5, k6, k7, k8, k9]) rfl ⟨p8, rfl, HAU.out, HBU.out⟩
       exact AllReady.nil
      exact AllReady.nil
     exact AllReady.nil
    exact AllReady.nil
   exact AllReady.nil
  exact AllReady.nil
 exact AllReady.nil
set_option maxRecDepth 100000 in
set_option maxHeartbeats 8000000 in
theorem ref10_Merge_no1 {x y : Sk} {s t : SS} {w : World} (hx : s.At w.heap.size w x) (hl : x.lim) (hy : t.At w.heap.size w y) (hl2 : y.lim) (ok : skOk x = false) :
  Calls Tryz.prog 8 #[.agg #[.int .i64 x.kind, .int .i64 x.level, .slice s.ea s.el s.ec, .int .i64 x.hb, .string x.hr, .int .i64 x.cr, .int .i64 x.cc, .slice s.ca s.cl s.cc, .int .i64 x.gf, .slice s.ga s.gl s.gc], .agg #[.int .i64 y.kind, .int .i64 y.level, .slice t.ea t.el t.ec, .int .i64 y.hb, .string y.hr, .int .i64 y.cr, .int .i64 y.cc, .slice t.ca t.cl t.cc, .int .i64 y.gf, .slice t.ga t.gl t.gc]] w (SkP (zsk, 100) w) := by
 obtain ⟨W0, hW0, hX0, hY0, hXr, hB0, hs0⟩ := boxes3 w #[.int .i64 x.kind, .int .i64 x.level, .slice s.ea s.el s.ec, .int .i64 x.hb, .string x.hr, .int .i64 x.cr, .int .i64 x.cc, .slice s.ca s.cl s.cc, .int .i64 x.gf, .slice s.ga s.gl s.gc] 33 #[.int .i64 y.kind, .int .i64 y.level, .slice t.ea t.el t.ec, .int .i64 y.hb, .string y.hr, .int .i64 y.cr, .int .i64 y.cc, .slice t.ca t.cl t.cc, .int .i64 y.gf, .slice t.ga t.gl t.gc] 33 #[.int .i64 0, .int .i64 0, .slice none 0 0, .int .i64 0, .string ⟨#[]⟩, .int .i64 0, .int .i64 0, .slice none 0 0, .int .i64 0, .slice none 0 0] 33
 have HX : Hid (∀ W, Below W0.heap.size W0 W → W.heap[w.heap.size]? = some (.cells #[.int .i64 x.kind, .int .i64 x.level, .slice s.ea s.el s.ec, .int .i64 x.hb, .string x.hr, .int .i64 x.cr, .int .i64 x.cc, .slice s.ca s.cl s.cc, .int .i64 x.gf, .slice s.ga s.gl s.gc] 33 (0, 0)) ∧ W.heap[w.heap.size + 1]? = some (.cells #[.int .i64 y.kind, .int .i64 y.level, .slice t.ea t.el t.ec, .int .i64 y.hb, .string y.hr, .int .i64 y.cr, .int .i64 y.cc, .slice t.ca t.cl t.cc, .int .i64 y.gf, .slice t.ga t.gl t.gc] 33 (0, 0)) ∧ W.heap[w.heap.size + 2]? = some (.cells #[.int .i64 0, .int .i64 0, .slice none 0 0, .int .i64 0, .string ⟨#[]⟩, .int .i64 0, .int .i64 0, .slice none 0 0, .int .i64 0, .slice none 0 0] 33 (0, 0))) := fun W hb => ⟨known hb (Nat.le_refl _) hX0, known hb (Nat.le_refl _) hY0, known hb (Nat.le_refl _) hXr⟩
 have hRt := ref10_Right_any x s W0 (hx.go hB0) hl.e hl.cc hl.g
 have HRt2 : Hid (∀ W, Below W0.heap.size W0 W → Calls Tryz.prog 20 #[.agg #[.int .i64 y.kind, .int .i64 y.level, .slice t.ea t.el t.ec, .int .i64 y.hb, .string y.hr, .int .i64 y.cr, .int .i64 y.cc, .slice t.ca t.cl t.cc, .int .i64 y.gf, .slice t.ga t.gl t.gc]] W fun e w' => e = .returned (.bool (skOk y)) ∧ Below W.heap.size W w') := fun W hb => ref10_Right_any y t W ((hy.go hB0).go hb) hl2.e hl2.cc hl2.g
 rw [ok] at hRt
 have HB0 := Lib.hid hB0
 obtain ⟨c0, c1, c2, c3, c4, c5, c6, c7, c8, c9⟩ := cl10 hX0
 clear hX0 hY0 hXr hB0 hx hl hy hl2 hs0
 go_enter Tryz.func8, Tryz.ntmps8
 go_wp2_with fail
 refine hRt.mono ?_
 rintro e w1 ⟨rfl, hb1⟩
 have hR1 := (HX.out w1 hb1).2.2
 have HB9 := Lib.hid hb1
 clear hRt hb1
 obtain ⟨r0, r1, r2, r3, r4, r5, r6, r7, r8, r9⟩ := cl10 hR1
 obtain ⟨g0, g1, g2, g3, g4, g5, g6, g7, g8, g9⟩ := cz10 hR1
 have z0 : w1.setCell ⟨w.heap.size + 2, 0, none⟩ (.int .i64 0) = w1 := set_same hR1 rfl
 have z1 : w1.setCell ⟨w.heap.size + 2, 1, none⟩ (.int .i64 0) = w1 := set_same hR1 rfl
 have z2 : w1.setCell ⟨w.heap.size + 2, 2, none⟩ (.slice none 0 0) = w1 := set_same hR1 rfl
 have z3 : w1.setCell ⟨w.heap.size + 2, 3, none⟩ (.int .i64 0) = w1 := set_same hR1 rfl
 have z4 : w1.setCell ⟨w.heap.size + 2, 4, none⟩ (.string ⟨#[]⟩) = w1 := set_same hR1 rfl
 have z5 : w1.setCell ⟨w.heap.size + 2, 5, none⟩ (.int .i64 0) = w1 := set_same hR1 rfl
 have z6 : w1.setCell ⟨w.heap.size + 2, 6, none⟩ (.int .i64 0) = w1 := set_same hR1 rfl
 have z7 : w1.setCell ⟨w.heap.size + 2, 7, none⟩ (.slice none 0 0) = w1 := set_same hR1 rfl
 have z8 : w1.setCell ⟨w.heap.size + 2, 8, none⟩ (.int .i64 0) = w1 := set_same hR1 rfl
 have z9 : w1.setCell ⟨w.heap.size + 2, 9, none⟩ (.slice none 0 0) = w1 := set_same hR1 rfl
 clear hR1
 go_wp2_with fail
 exact bodyPost_ret (v := .tuple #[.agg #[.int .i64 0, .int .i64 0, .slice none 0 0, .int .i64 0, .string ⟨#[]⟩, .int .i64 0, .int .i64 0, .slice none 0 0, .int .i64 0, .slice none 0 0], .int .i64 100]) (by simp [results, Tryz.f8, go_sem, r0, r1, r2, r3, r4, r5, r6, r7, r8, r9]) rfl (.zero ⟨rfl, HB0.out.trans (HB9.out.mono HB0.out.size)⟩)
set_option maxRecDepth 100000 in
set_option maxHeartbeats 8000000 in
theorem ref10_Merge_no2 {x y : Sk} {s t : SS} {w : World} (hx : s.At w.heap.size w x) (hl : x.lim) (hy : t.At w.heap.size w y) (hl2 : y.lim) (ok : skOk x = true) (ok2 : skOk y = false) :
  Calls Tryz.prog 8 #[.agg #[.int .i64 x.kind, .int .i64 x.level, .slice s.ea s.el s.ec, .int .i64 x.hb, .string x.hr, .int .i64 x.cr, .int .i64 x.cc, .slice s.ca s.cl s.cc, .int .i64 x.gf, .slice s.ga s.gl s.gc], .agg #[.int .i64 y.kind, .int .i64 y.level, .slice t.ea t.el t.ec, .int .i64 y.hb, .string y.hr, .int .i64 y.cr, .int .i64 y.cc, .slice t.ca t.cl t.cc, .int .i64 y.gf, .slice t.ga t.gl t.gc]] w (SkP (zsk, 100) w) := by
 obtain ⟨W0, hW0, hX0, hY0, hXr, hB0, hs0⟩ := boxes3 w #[.int .i64 x.kind, .int .i64 x.level, .slice s.ea s.el s.ec, .int .i64 x.hb, .string x.hr, .int .i64 x.cr, .int .i64 x.cc, .slice s.ca s.cl s.cc, .int .i64 x.gf, .slice s.ga s.gl s.gc] 33 #[.int .i64 y.kind, .int .i64 y.level, .slice t.ea t.el t.ec, .int .i64 y.hb, .string y.hr, .int .i64 y.cr, .int .i64 y.cc, .slice t.ca t.cl t.cc, .int .i64 y.gf, .slice t.ga t.gl t.gc] 33 #[.int .i64 0, .int .i64 0, .slice none 0 0, .int .i64 0, .string ⟨#[]⟩, .int .i64 0, .int .i64 0, .slice none 0 0, .int .i64 0, .slice none 0 0] 33
 have HX : Hid (∀ W, Below W0.heap.size W0 W → W.heap[w.heap.size]? = some (.cells #[.int .i64 x.kind, .int .i64 x.level, .slice s.ea s.el s.ec, .int .i64 x.hb, .string x.hr, .int .i64 x.cr, .int .i64 x.cc, .slice s.ca s.cl s.cc, .int .i64 x.gf, .slice s.ga s.gl s.gc] 33 (0, 0)) ∧ W.heap[w.heap.size + 1]? = some (.cells #[.int .i64 y.kind, .int .i64 y.level, .slice t.ea t.el t.ec, .int .i64 y.hb, .string y.hr, .int .i64 y.cr, .int .i64 y.cc, .slice t.ca t.cl t.cc, .int .i64 y.gf, .slice t.ga t.gl t.gc] 33 (0, 0)) ∧ W.heap[w.heap.size + 2]? = some (.cells #[.int .i64 0, .int .i64 0, .slice none 0 0, .int .i64 0, .string ⟨#[]⟩, .int .i64 0, .int .i64 0, .slice none 0 0, .int .i64 0, .slice none 0 0] 33 (0, 0))) := fun W hb => ⟨known hb (Nat.le_refl _) hX0, known hb (Nat.le_refl _) hY0, known hb (Nat.le_refl _) hXr⟩
 have hRt := ref10_Right_any x s W0 (hx.go hB0) hl.e hl.cc hl.g
 have HRt2 : Hid (∀ W, Below W0.heap.size W0 W → Calls Tryz.prog 20 #[.agg #[.int .i64 y.kind, .int .i64 y.level, .slice t.ea t.el t.ec, .int .i64 y.hb, .string y.hr, .int .i64 y.cr, .int .i64 y.cc, .slice t.ca t.cl t.cc, .int .i64 y.gf, .slice t.ga t.gl t.gc]] W fun e w' => e = .returned (.bool (skOk y)) ∧ Below W.heap.size W w') := fun W hb => ref10_Right_any y t W ((hy.go hB0).go hb) hl2.e hl2.cc hl2.g
 rw [ok] at hRt
 rw [ok2] at HRt2
 have HB0 := Lib.hid hB0
 obtain ⟨c0, c1, c2, c3, c4, c5, c6, c7, c8, c9⟩ := cl10 hX0
 clear hX0 hY0 hXr hB0 hx hl hy hl2 hs0
 go_enter Tryz.func8, Tryz.ntmps8
 go_wp2_with fail
 refine hRt.mono ?_
 rintro e w1 ⟨rfl, hb1⟩
 obtain ⟨-, hY1, -⟩ := HX.out w1 hb1
 obtain ⟨e0, e1, e2, e3, e4, e5, e6, e7, e8, e9⟩ := cl10 hY1
 have HB1 := Lib.hid hb1
 have hRt2 := HRt2.out w1 hb1
 clear hRt hb1 hY1 c0 c1 c2 c3 c4 c5 c6 c7 c8 c9
 go_wp2_with fail
 refine hRt2.mono ?_
 rintro e w2 ⟨rfl, hb2⟩
 have hb02 := HB1.out.trans (hb2.mono HB1.out.size)
 obtain ⟨hX2, hY2, hR1⟩ := HX.out w2 hb02
 obtain ⟨f0, f1, f2, f3, f4, f5, f6, f7, f8, f9⟩ := cl10 hX2
 obtain ⟨h0, h1, h2, h3, h4, h5, h6, h7, h8, h9⟩ := cl10 hY2
 have HB9 := Lib.hid hb02
 clear hRt2 hX2 hY2 hb02 hb2 e0 e1 e2 e3 e4 e5 e6 e7 e8 e9
 obtain ⟨r0, r1, r2, r3, r4, r5, r6, r7, r8, r9⟩ := cl10 hR1
 obtain ⟨g0, g1, g2, g3, g4, g5, g6, g7, g8, g9⟩ := cz10 hR1
 have z0 : w2.setCell ⟨w.heap.size + 2, 0, none⟩ (.int .i64 0) = w2 := set_same hR1 rfl
 have z1 : w2.setCell ⟨w.heap.size + 2, 1, none⟩ (.int .i64 0) = w2 := set_same hR1 rfl
 have z2 : w2.setCell ⟨w.heap.size + 2, 2, none⟩ (.slice none 0 0) = w2 := set_same hR1 rfl
 have z3 : w2.setCell ⟨w.heap.size + 2, 3, none⟩ (.int .i64 0) = w2 := set_same hR1 rfl
 have z4 : w2.setCell ⟨w.heap.size + 2, 4, none⟩ (.string ⟨#[]⟩) = w2 := set_same hR1 rfl
 have z5 : w2.setCell ⟨w.heap.size + 2, 5, none⟩ (.int .i64 0) = w2 := set_same hR1 rfl
 have z6 : w2.setCell ⟨w.heap.size + 2, 6, none⟩ (.int .i64 0) = w2 := set_same hR1 rfl
 have z7 : w2.setCell ⟨w.heap.size + 2, 7, none⟩ (.slice none 0 0) = w2 := set_same hR1 rfl
 have z8 : w2.setCell ⟨w.heap.size + 2, 8, none⟩ (.int .i64 0) = w2 := set_same hR1 rfl
 have z9 : w2.setCell ⟨w.heap.size + 2, 9, none⟩ (.slice none 0 0) = w2 := set_same hR1 rfl
 clear hR1
 go_wp2_with fail
 exact bodyPost_ret (v := .tuple #[.agg #[.int .i64 0, .int .i64 0, .slice none 0 0, .int .i64 0, .string ⟨#[]⟩, .int .i64 0, .int .i64 0, .slice none 0 0, .int .i64 0, .slice none 0 0], .int .i64 100]) (by simp [results, Tryz.f8, go_sem, r0, r1, r2, r3, r4, r5, r6, r7, r8, r9]) rfl (.zero ⟨rfl, HB0.out.trans (HB9.out.mono HB0.out.size)⟩)
set_option maxRecDepth 100000 in
set_option maxHeartbeats 8000000 in
theorem ref10_Merge_kinds {x y : Sk} {s t : SS} {w : World} (hx : s.At w.heap.size w x) (hl : x.lim) (hy : t.At w.heap.size w y) (hl2 : y.lim) (ok : skOk x = true) (ok2 : skOk y = true) (hk : x.kind ≠ y.kind) :
  Calls Tryz.prog 8 #[.agg #[.int .i64 x.kind, .int .i64 x.level, .slice s.ea s.el s.ec, .int .i64 x.hb, .string x.hr, .int .i64 x.cr, .int .i64 x.cc, .slice s.ca s.cl s.cc, .int .i64 x.gf, .slice s.ga s.gl s.gc], .agg #[.int .i64 y.kind, .int .i64 y.level, .slice t.ea t.el t.ec, .int .i64 y.hb, .string y.hr, .int .i64 y.cr, .int .i64 y.cc, .slice t.ca t.cl t.cc, .int .i64 y.gf, .slice t.ga t.gl t.gc]] w (SkP (zsk, 101) w) := by
 obtain ⟨W0, hW0, hX0, hY0, hXr, hB0, hs0⟩ := boxes3 w #[.int .i64 x.kind, .int .i64 x.level, .slice s.ea s.el s.ec, .int .i64 x.hb, .string x.hr, .int .i64 x.cr, .int .i64 x.cc, .slice s.ca s.cl s.cc, .int .i64 x.gf, .slice s.ga s.gl s.gc] 33 #[.int .i64 y.kind, .int .i64 y.level, .slice t.ea t.el t.ec, .int .i64 y.hb, .string y.hr, .int .i64 y.cr, .int .i64 y.cc, .slice t.ca t.cl t.cc, .int .i64 y.gf, .slice t.ga t.gl t.gc] 33 #[.int .i64 0, .int .i64 0, .slice none 0 0, .int .i64 0, .string ⟨#[]⟩, .int .i64 0, .int .i64 0, .slice none 0 0, .int .i64 0, .slice none 0 0] 33
 have HX : Hid (∀ W, Below W0.heap.size W0 W → W.heap[w.heap.size]? = some (.cells #[.int .i64 x.kind, .int .i64 x.level, .slice s.ea s.el s.ec, .int .i64 x.hb, .string x.hr, .int .i64 x.cr, .int .i64 x.cc, .slice s.ca s.cl s.cc, .int .i64 x.gf, .slice s.ga s.gl s.gc] 33 (0, 0)) ∧ W.heap[w.heap.size + 1]? = some (.cells #[.int .i64 y.kind, .int .i64 y.level, .slice t.ea t.el t.ec, .int .i64 y.hb, .string y.hr, .int .i64 y.cr, .int .i64 y.cc, .slice t.ca t.cl t.cc, .int .i64 y.gf, .slice t.ga t.gl t.gc] 33 (0, 0)) ∧ W.heap[w.heap.size + 2]? = some (.cells #[.int .i64 0, .int .i64 0, .slice none 0 0, .int .i64 0, .string ⟨#[]⟩, .int .i64 0, .int .i64 0, .slice none 0 0, .int .i64 0, .slice none 0 0] 33 (0, 0))) := fun W hb => ⟨known hb (Nat.le_refl _) hX0, known hb (Nat.le_refl _) hY0, known hb (Nat.le_refl _) hXr⟩
 have hRt := ref10_Right_any x s W0 (hx.go hB0) hl.e hl.cc hl.g
 have HRt2 : Hid (∀ W, Below W0.heap.size W0 W → Calls Tryz.prog 20 #[.agg #[.int .i64 y.kind, .int .i64 y.level, .slice t.ea t.el t.ec, .int .i64 y.hb, .string y.hr, .int .i64 y.cr, .int .i64 y.cc, .slice t.ca t.cl t.cc, .int .i64 y.gf, .slice t.ga t.gl t.gc]] W fun e w' => e = .returned (.bool (skOk y)) ∧ Below W.heap.size W w') := fun W hb => ref10_Right_any y t W ((hy.go hB0).go hb) hl2.e hl2.cc hl2.g
 rw [ok] at hRt
 rw [ok2] at HRt2
 have hkk : (x.kind != y.kind) = true := by rw [bne_iff_ne]; exact hk
 clear hk
 have HB0 := Lib.hid hB0
 obtain ⟨c0, c1, c2, c3, c4, c5, c6, c7, c8, c9⟩ := cl10 hX0
 clear hX0 hY0 hXr hB0 hx hl hy hl2 hs0
 go_enter Tryz.func8, Tryz.ntmps8
 go_wp2_with fail
 refine hRt.mono ?_
 rintro e w1 ⟨rfl, hb1⟩
 obtain ⟨-, hY1, -⟩ := HX.out w1 hb1
 obtain ⟨e0, e1, e2, e3, e4, e5, e6, e7, e8, e9⟩ := cl10 hY1
 have HB1 := Lib.hid hb1
 have hRt2 := HRt2.out w1 hb1
 clear hRt hb1 hY1 c0 c1 c2 c3 c4 c5 c6 c7 c8 c9
 go_wp2_with fail
 refine hRt2.mono ?_
 rintro e w2 ⟨rfl, hb2⟩
 have hb02 := HB1.out.trans (hb2.mono HB1.out.size)
 obtain ⟨hX2, hY2, hR1⟩ := HX.out w2 hb02
 obtain ⟨f0, f1, f2, f3, f4, f5, f6, f7, f8, f9⟩ := cl10 hX2
 obtain ⟨h0, h1, h2, h3, h4, h5, h6, h7, h8, h9⟩ := cl10 hY2
 have HB9 := Lib.hid hb02
 clear hRt2 hX2 hY2 hb02 hb2 e0 e1 e2 e3 e4 e5 e6 e7 e8 e9
 obtain ⟨r0, r1, r2, r3, r4, r5, r6, r7, r8, r9⟩ := cl10 hR1
 obtain ⟨g0, g1, g2, g3, g4, g5, g6, g7, g8, g9⟩ := cz10 hR1
 have z0 : w2.setCell ⟨w.heap.size + 2, 0, none⟩ (.int .i64 0) = w2 := set_same hR1 rfl
 have z1 : w2.setCell ⟨w.heap.size + 2, 1, none⟩ (.int .i64 0) = w2 := set_same hR1 rfl
 have z2 : w2.setCell ⟨w.heap.size + 2, 2, none⟩ (.slice none 0 0) = w2 := set_same hR1 rfl
 have z3 : w2.setCell ⟨w.heap.size + 2, 3, none⟩ (.int .i64 0) = w2 := set_same hR1 rfl
 have z4 : w2.setCell ⟨w.heap.size + 2, 4, none⟩ (.string ⟨#[]⟩) = w2 := set_same hR1 rfl
 have z5 : w2.setCell ⟨w.heap.size + 2, 5, none⟩ (.int .i64 0) = w2 := set_same hR1 rfl
 have z6 : w2.setCell ⟨w.heap.size + 2, 6, none⟩ (.int .i64 0) = w2 := set_same hR1 rfl
 have z7 : w2.setCell ⟨w.heap.size + 2, 7, none⟩ (.slice none 0 0) = w2 := set_same hR1 rfl
 have z8 : w2.setCell ⟨w.heap.size + 2, 8, none⟩ (.int .i64 0) = w2 := set_same hR1 rfl
 have z9 : w2.setCell ⟨w.heap.size + 2, 9, none⟩ (.slice none 0 0) = w2 := set_same hR1 rfl
 clear hR1
 go_wp2_with fail
 exact bodyPost_ret (v := .tuple #[.agg #[.int .i64 0, .int .i64 0, .slice none 0 0, .int .i64 0, .string ⟨#[]⟩, .int .i64 0, .int .i64 0, .slice none 0 0, .int .i64 0, .slice none 0 0], .int .i64 101]) (by simp [results, Tryz.f8, go_sem, r0, r1, r2, r3, r4, r5, r6, r7, r8, r9]) rfl (.zero ⟨rfl, HB0.out.trans (HB9.out.mono HB0.out.size)⟩)
theorem bots {k L L2 : Nat} {B B2 : Bd} (hB : B.Ok k L) (hB2 : B2.Ok k L2) : max L L2 ≤ botN k := by have := ok_bot hB; have := ok_bot hB2; omega
theorem ref10_Merge_S {x y : Sk} {s t : SS} {w : World} (hx : s.At w.heap.size w x) (hl : x.lim) (hy : t.At w.heap.size w y) (hl2 : y.lim) :
  Calls Tryz.prog 8 #[.agg #[.int .i64 x.kind, .int .i64 x.level, .slice s.ea s.el s.ec, .int .i64 x.hb, .string x.hr, .int .i64 x.cr, .int .i64 x.cc, .slice s.ca s.cl s.cc, .int .i64 x.gf, .slice s.ga s.gl s.gc], .agg #[.int .i64 y.kind, .int .i64 y.level, .slice t.ea t.el t.ec, .int .i64 y.hb, .string y.hr, .int .i64 y.cr, .int .i64 y.cc, .slice t.ca t.cl t.cc, .int .i64 y.gf, .slice t.ga t.gl t.gc]] w (SkP (mrgS x y) w) := by
 cases ok : skOk x with
 | false =>
  unfold mrgS
  rw [ok]
  exact ref10_Merge_no1 hx hl hy hl2 ok
 | true =>
 cases ok2 : skOk y with
 | false =>
  unfold mrgS
  rw [ok, ok2]
  exact ref10_Merge_no2 hx hl hy hl2 ok ok2
 | true =>
  by_cases hk : x.kind = y.kind
  ·obtain ⟨k, L, B, hxe, hB⟩ := hl.bd ok
   obtain ⟨k2, L2, B2, hye, hB2⟩ := hl2.bd ok2
   obtain rfl : k = k2 := by rw [hxe, hye, (skOf_kind _ _ _).1, (skOf_kind _ _ _).1] at hk; omega
   have hmb := bots hB hB2
   have e0 : mrgS x y = (skOf k (wkMerge (L, B) (L2, B2)).1 (wkMerge (L, B) (L2, B2)).2, 0) := by rw [hxe, hye, mrgS_sk hB hB2, if_pos rfl]
   rw [e0]
   obtain ⟨m, hm⟩ : ∃ m, max L L2 = m := ⟨_, rfl⟩
   rw [hm] at hmb
   obtain ⟨ok1', lv1⟩ := wkTo_ok m hmb (m - L) (L, B) rfl hB
   obtain ⟨ok2', lv2⟩ := wkTo_ok m hmb (m - L2) (L2, B2) rfl hB2
   obtain ⟨⟨m1, X⟩, e1⟩ : ∃ q, wkTo (L, B) m = q := ⟨_, rfl⟩
   obtain ⟨⟨m2, Y⟩, e2⟩ : ∃ q, wkTo (L2, B2) m = q := ⟨_, rfl⟩
   rw [e1] at ok1' lv1
   rw [e2] at ok2' lv2
   dsimp only at ok1' lv1 ok2' lv2
   obtain rfl : m1 = m := by omega
   obtain rfl : m2 = m1 := by omega
   have hw : wkMerge (L, B) (L2, B2) = match X.merge Y with | some C => (m2, C) | none => (m2 + 1, (X.low.merge Y.low).getD X.low) := by
    unfold wkMerge
    dsimp only
    rw [hm, e1, e2]
    rfl
   rw [hw]
   cases X with
   | num l =>
    obtain ⟨rfl, rfl, -⟩ := id ok1'
    cases Y with
    | num l2 =>
     cases hq : exGather l l2 with
     | some q =>
      have e : (Bd.num l).merge (Bd.num l2) = some (.num q) := by simp [Bd.merge, hq]
      rw [e]
      exact ref10_Merge_num hB hB2 hxe hye hm hmb e1 e2 hq s t w hx hy
     | none =>
      have e : (Bd.num l).merge (Bd.num l2) = none := by simp [Bd.merge, hq]
      rw [e]
      exact ref10_Merge_full hB hB2 hxe hye hm hmb e1 e2 hq s t w hx hy
    | reg b r => obtain ⟨-, h, -⟩ := ok2'; omega
    | cnt c l2 => obtain ⟨h, -⟩ := ok2'; omega
    | bkt f l2 => obtain ⟨h, -⟩ := ok2'; omega
   | reg b r =>
    obtain ⟨rfl, hL1, -, hb, -⟩ := id ok1'
    cases Y with
    | num l2 => obtain ⟨-, h, -⟩ := ok2'; omega
    | reg b2 r2 =>
     obtain rfl : b2 = b := by obtain ⟨-, -, -, h, -⟩ := ok2'; omega
     exact ref10_Merge_reg hB hB2 hxe hye hm hmb e1 e2 s t w hx hy
    | cnt c l2 => obtain ⟨h, -⟩ := ok2'; omega
    | bkt f l2 => obtain ⟨h, -⟩ := ok2'; omega
   | cnt c l =>
    obtain ⟨rfl, -, hc, -⟩ := id ok1'
    cases Y with
    | num l2 => obtain ⟨h, -⟩ := ok2'; omega
    | reg b2 r2 => obtain ⟨h, -⟩ := ok2'; omega
    | cnt c2 l2 =>
     obtain rfl : c2 = c := by obtain ⟨-, -, h, -⟩ := ok2'; exact same_cols h hc
     exact ref10_Merge_cnt hB hB2 hxe hye hm hmb e1 e2 s t w hx hy
    | bkt f l2 => obtain ⟨h, -⟩ := ok2'; omega
   | bkt f l =>
    obtain ⟨rfl, -, hf, -⟩ := id ok1'
    cases Y with
    | num l2 => obtain ⟨h, -⟩ := ok2'; omega
    | reg b2 r2 => obtain ⟨h, -⟩ := ok2'; omega
    | cnt c2 l2 => obtain ⟨h, -⟩ := ok2'; omega
    | bkt f2 l2 =>
     obtain rfl : f2 = f := by obtain ⟨-, -, h, -⟩ := ok2'; omega
     exact ref10_Merge_bkt hB hB2 hxe hye hm hmb e1 e2 s t w hx hy
  ·have e : mrgS x y = (zsk, 101) := by unfold mrgS; rw [ok, ok2]; simp only [Bool.and_self, if_true]; rw [if_neg hk]
   rw [e]
   exact ref10_Merge_kinds hx hl hy hl2 ok ok2 hk
end Go.Proofs.YtcbbenncdainfaaGreatDoor
