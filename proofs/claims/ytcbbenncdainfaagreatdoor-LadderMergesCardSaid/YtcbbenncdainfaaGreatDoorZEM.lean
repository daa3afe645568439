/- aviarylaw10.LadderMerges answers true. Printed by gen_em.py. -/
import Derived.Test.YtcbbenncdainfaaGreatDoorZDN
namespace Go.Proofs.YtcbbenncdainfaaGreatDoor
open Go Go.RowKit Go.Shelf
theorem lim_cut {x : Sk} (h : x.arg) (hc : I64 x.cc) : x.cut.lim where
 e := fun n hn => h.e n (List.mem_of_mem_take hn)
 c := fun n hn => h.c n (List.mem_of_mem_take hn)
 g := fun b hb => h.g b (List.mem_of_mem_take hb)
 cc := hc
 fit := fun b hb => (h.g b (List.mem_of_mem_take hb)).1.2
 el := by show (x.e.take 70).length < _; rw [List.length_take]; omega
 cl := by show (x.cl.take 200).length < _; rw [List.length_take]; omega
 gl := by show (x.gl.take 300).length < _; rw [List.length_take]; omega
set_option maxRecDepth 100000 in
set_option maxHeartbeats 8000000 in
theorem ladderMerges_any (x : Sk) (s : SS) (y : Sk) (t : SS) (lv : Int) (w : World) (hx : s.At w.heap.size w x) (hux : x.arg ∧ I64 x.cc) (hy : t.At w.heap.size w y) (huy : y.arg ∧ I64 y.cc) (_ : I64 lv) (hg : GT w) :
  Calls Tryz.prog 3 #[.agg #[.int .i64 x.kind, .int .i64 x.level, .slice s.ea s.el s.ec, .int .i64 x.hb, .string x.hr, .int .i64 x.cr, .int .i64 x.cc, .slice s.ca s.cl s.cc, .int .i64 x.gf, .slice s.ga s.gl s.gc], .agg #[.int .i64 y.kind, .int .i64 y.level, .slice t.ea t.el t.ec, .int .i64 y.hb, .string y.hr, .int .i64 y.cr, .int .i64 y.cc, .slice t.ca t.cl t.cc, .int .i64 y.gf, .slice t.ga t.gl t.gc], .int .i64 lv] w fun e w' => e = .returned (.bool true) ∧ Below w.heap.size w w' := by
 obtain ⟨X, hXe⟩ : ∃ X, x.cut = X := ⟨_, rfl⟩
 obtain ⟨S, hSe⟩ : ∃ S, s.cut = S := ⟨_, rfl⟩
 obtain ⟨Y, hYe⟩ : ∃ Y, y.cut = Y := ⟨_, rfl⟩
 obtain ⟨T, hTe⟩ : ∃ T, t.cut = T := ⟨_, rfl⟩
 have HFx : Hid (∀ W, s.At W.heap.size W x → Calls Tryz.prog 6 #[.agg #[.int .i64 x.kind, .int .i64 x.level, .slice s.ea s.el s.ec, .int .i64 x.hb, .string x.hr, .int .i64 x.cr, .int .i64 x.cc, .slice s.ca s.cl s.cc, .int .i64 x.gf, .slice s.ga s.gl s.gc]] W fun e w' => e = .returned (.agg #[.int .i64 X.kind, .int .i64 X.level, .slice S.ea S.el S.ec, .int .i64 X.hb, .string X.hr, .int .i64 X.cr, .int .i64 X.cc, .slice S.ca S.cl S.cc, .int .i64 X.gf, .slice S.ga S.gl S.gc]) ∧ Below W.heap.size W w') := fun W h => by rw [← hXe, ← hSe]; exact few10_any x s W h
 have HFy : Hid (∀ W, t.At W.heap.size W y → Calls Tryz.prog 6 #[.agg #[.int .i64 y.kind, .int .i64 y.level, .slice t.ea t.el t.ec, .int .i64 y.hb, .string y.hr, .int .i64 y.cr, .int .i64 y.cc, .slice t.ca t.cl t.cc, .int .i64 y.gf, .slice t.ga t.gl t.gc]] W fun e w' => e = .returned (.agg #[.int .i64 Y.kind, .int .i64 Y.level, .slice T.ea T.el T.ec, .int .i64 Y.hb, .string Y.hr, .int .i64 Y.cr, .int .i64 Y.cc, .slice T.ca T.cl T.cc, .int .i64 Y.gf, .slice T.ga T.gl T.gc]) ∧ Below W.heap.size W w') := fun W h => by rw [← hYe, ← hTe]; exact few10_any y t W h
 have hLX : X.lim := by rw [← hXe]; exact lim_cut hux.1 hux.2
 have hLY : Y.lim := by rw [← hYe]; exact lim_cut huy.1 huy.2
 have hAX : S.At w.heap.size w X := by rw [← hXe, ← hSe]; exact hx.cut
 have hAY : T.At w.heap.size w Y := by rw [← hYe, ← hTe]; exact hy.cut
 obtain ⟨⟨A1, E1⟩, hr1⟩ : ∃ r, mrgS X Y = r := ⟨_, rfl⟩
 obtain ⟨⟨A2, E2⟩, hr2⟩ : ∃ r, lowS X = r := ⟨_, rfl⟩
 obtain ⟨⟨A3, E3⟩, hr3⟩ : ∃ r, toS X lv = r := ⟨_, rfl⟩
 have H1 : Hid (∀ W, S.At W.heap.size W X → T.At W.heap.size W Y → GT W → Calls Tryz.prog 7 #[.agg #[.int .i64 X.kind, .int .i64 X.level, .slice S.ea S.el S.ec, .int .i64 X.hb, .string X.hr, .int .i64 X.cr, .int .i64 X.cc, .slice S.ca S.cl S.cc, .int .i64 X.gf, .slice S.ga S.gl S.gc], .agg #[.int .i64 Y.kind, .int .i64 Y.level, .slice T.ea T.el T.ec, .int .i64 Y.hb, .string Y.hr, .int .i64 Y.cr, .int .i64 Y.cc, .slice T.ca T.cl T.cc, .int .i64 Y.gf, .slice T.ga T.gl T.gc]] W fun e w' => ∃ p : SS, e = .returned (.tuple #[.agg #[.int .i64 A1.kind, .int .i64 A1.level, .slice p.ea p.el p.ec, .int .i64 A1.hb, .string A1.hr, .int .i64 A1.cr, .int .i64 A1.cc, .slice p.ca p.cl p.cc, .int .i64 A1.gf, .slice p.ga p.gl p.gc], .int .i64 E1]) ∧ p.At w'.heap.size w' A1 ∧ Below W.heap.size W w') := fun W h1 h2 h3 => by
  have h9 := ladder_Merge_S h1 hLX h2 hLY h3
  rw [hr1] at h9
  exact h9
 have H2 : Hid (∀ W, S.At W.heap.size W X → T.At W.heap.size W Y → GT W → Calls Tryz.prog 8 #[.agg #[.int .i64 X.kind, .int .i64 X.level, .slice S.ea S.el S.ec, .int .i64 X.hb, .string X.hr, .int .i64 X.cr, .int .i64 X.cc, .slice S.ca S.cl S.cc, .int .i64 X.gf, .slice S.ga S.gl S.gc], .agg #[.int .i64 Y.kind, .int .i64 Y.level, .slice T.ea T.el T.ec, .int .i64 Y.hb, .string Y.hr, .int .i64 Y.cr, .int .i64 Y.cc, .slice T.ca T.cl T.cc, .int .i64 Y.gf, .slice T.ga T.gl T.gc]] W fun e w' => ∃ p : SS, e = .returned (.tuple #[.agg #[.int .i64 A1.kind, .int .i64 A1.level, .slice p.ea p.el p.ec, .int .i64 A1.hb, .string A1.hr, .int .i64 A1.cr, .int .i64 A1.cc, .slice p.ca p.cl p.cc, .int .i64 A1.gf, .slice p.ga p.gl p.gc], .int .i64 E1]) ∧ p.At w'.heap.size w' A1 ∧ Below W.heap.size W w') := fun W h1 h2 h3 => by
  have h9 := ref10_Merge_S h1 hLX h2 hLY
  rw [hr1] at h9
  exact h9
 have H3 : Hid (∀ W, S.At W.heap.size W X → T.At W.heap.size W Y → GT W → Calls Tryz.prog 9 #[.agg #[.int .i64 X.kind, .int .i64 X.level, .slice S.ea S.el S.ec, .int .i64 X.hb, .string X.hr, .int .i64 X.cr, .int .i64 X.cc, .slice S.ca S.cl S.cc, .int .i64 X.gf, .slice S.ga S.gl S.gc]] W fun e w' => ∃ p : SS, e = .returned (.tuple #[.agg #[.int .i64 A2.kind, .int .i64 A2.level, .slice p.ea p.el p.ec, .int .i64 A2.hb, .string A2.hr, .int .i64 A2.cr, .int .i64 A2.cc, .slice p.ca p.cl p.cc, .int .i64 A2.gf, .slice p.ga p.gl p.gc], .int .i64 E2]) ∧ p.At w'.heap.size w' A2 ∧ Below W.heap.size W w') := fun W h1 h2 h3 => by
  have h9 := ladder_Lower_S h1 hLX h3
  rw [hr2] at h9
  exact h9
 have H4 : Hid (∀ W, S.At W.heap.size W X → T.At W.heap.size W Y → GT W → Calls Tryz.prog 10 #[.agg #[.int .i64 X.kind, .int .i64 X.level, .slice S.ea S.el S.ec, .int .i64 X.hb, .string X.hr, .int .i64 X.cr, .int .i64 X.cc, .slice S.ca S.cl S.cc, .int .i64 X.gf, .slice S.ga S.gl S.gc]] W fun e w' => ∃ p : SS, e = .returned (.tuple #[.agg #[.int .i64 A2.kind, .int .i64 A2.level, .slice p.ea p.el p.ec, .int .i64 A2.hb, .string A2.hr, .int .i64 A2.cr, .int .i64 A2.cc, .slice p.ca p.cl p.cc, .int .i64 A2.gf, .slice p.ga p.gl p.gc], .int .i64 E2]) ∧ p.At w'.heap.size w' A2 ∧ Below W.heap.size W w') := fun W h1 h2 h3 => by
  have h9 := ref10_Lower_S h1 hLX
  rw [hr2] at h9
  exact h9
 have H5 : Hid (∀ W, S.At W.heap.size W X → T.At W.heap.size W Y → GT W → Calls Tryz.prog 11 #[.agg #[.int .i64 X.kind, .int .i64 X.level, .slice S.ea S.el S.ec, .int .i64 X.hb, .string X.hr, .int .i64 X.cr, .int .i64 X.cc, .slice S.ca S.cl S.cc, .int .i64 X.gf, .slice S.ga S.gl S.gc], .int .i64 lv] W fun e w' => ∃ p : SS, e = .returned (.tuple #[.agg #[.int .i64 A3.kind, .int .i64 A3.level, .slice p.ea p.el p.ec, .int .i64 A3.hb, .string A3.hr, .int .i64 A3.cr, .int .i64 A3.cc, .slice p.ca p.cl p.cc, .int .i64 A3.gf, .slice p.ga p.gl p.gc], .int .i64 E3]) ∧ p.At w'.heap.size w' A3 ∧ Below W.heap.size W w') := fun W h1 h2 h3 => by
  have h9 := ladder_To_S lv h1 hLX h3
  rw [hr3] at h9
  exact h9
 have H6 : Hid (∀ W, S.At W.heap.size W X → T.At W.heap.size W Y → GT W → Calls Tryz.prog 12 #[.agg #[.int .i64 X.kind, .int .i64 X.level, .slice S.ea S.el S.ec, .int .i64 X.hb, .string X.hr, .int .i64 X.cr, .int .i64 X.cc, .slice S.ca S.cl S.cc, .int .i64 X.gf, .slice S.ga S.gl S.gc], .int .i64 lv] W fun e w' => ∃ p : SS, e = .returned (.tuple #[.agg #[.int .i64 A3.kind, .int .i64 A3.level, .slice p.ea p.el p.ec, .int .i64 A3.hb, .string A3.hr, .int .i64 A3.cr, .int .i64 A3.cc, .slice p.ca p.cl p.cc, .int .i64 A3.gf, .slice p.ga p.gl p.gc], .int .i64 E3]) ∧ p.At w'.heap.size w' A3 ∧ Below W.heap.size W w') := fun W h1 h2 h3 => by
  have h9 := ref10_To_S lv h1 hLX
  rw [hr3] at h9
  exact h9
 have HG : Hid (∀ W, Below w.heap.size w W → GT W) := fun W hb => hg.go hb
 obtain ⟨W0, hW0, hX0, hY0, hB0, hs0⟩ := boxes2 w #[.int .i64 x.kind, .int .i64 x.level, .slice s.ea s.el s.ec, .int .i64 x.hb, .string x.hr, .int .i64 x.cr, .int .i64 x.cc, .slice s.ca s.cl s.cc, .int .i64 x.gf, .slice s.ga s.gl s.gc] 33 #[.int .i64 y.kind, .int .i64 y.level, .slice t.ea t.el t.ec, .int .i64 y.hb, .string y.hr, .int .i64 y.cr, .int .i64 y.cc, .slice t.ca t.cl t.cc, .int .i64 y.gf, .slice t.ga t.gl t.gc] 33
 have HX0 := Lib.hid hX0
 have HY0 := Lib.hid hY0
 have HA0 := Lib.hid (And.intro (hx.go hB0) (And.intro (hy.go hB0) (And.intro (hAX.go hB0) (hAY.go hB0))))
 have HB0 := Lib.hid hB0
 clear hX0 hY0 hB0 hx hy hAX hAY hux huy hg hXe hSe hYe hTe hLX hLY hr1 hr2 hr3 hs0
 go_enter Tryz.func3, Tryz.ntmps3
 go_wp2_with (go_at_call 5; refine (shown10_any _).mono ?_; rintro e w1 ⟨rfl, hb1⟩; have hX1 := known hb1 (Nat.le_refl _) HX0.out; obtain ⟨d0, d1, d2, d3, d4, d5, d6, d7, d8, d9⟩ := cl10 hX1; have HB1 := Lib.hid hb1; clear hX1 hb1)
 refine (HFx.out _ (HA0.out.1.go HB1.out)).mono ?_
 rintro e w2 ⟨rfl, hb2⟩
 have hb02 := HB1.out.trans (hb2.mono HB1.out.size)
 have hX2 := known hb02 (Nat.le_refl _) HX0.out
 have hY2 := known hb02 (Nat.le_refl _) HY0.out
 obtain ⟨f0, f1, f2, f3, f4, f5, f6, f7, f8, f9⟩ := cl10 hX2
 obtain ⟨g0, g1, g2, g3, g4, g5, g6, g7, g8, g9⟩ := cz10 hX2
 obtain ⟨V2, hV2, hXV2, hOV2, hBV2⟩ := store10 (.int .i64 X.kind) (.int .i64 X.level) (.slice S.ea S.el S.ec) (.int .i64 X.hb) (.string X.hr) (.int .i64 X.cr) (.int .i64 X.cc) (.slice S.ca S.cl S.cc) (.int .i64 X.gf) (.slice S.ga S.gl S.gc) hX2
 have hYV2 := (hOV2.2 (w.heap.size + 1) (by omega)).trans hY2
 obtain ⟨k0, k1, k2, k3, k4, k5, k6, k7, k8, k9⟩ := cl10 hYV2
 have HA2 : Hid (t.At V2.heap.size V2 y ∧ S.At V2.heap.size V2 X ∧ T.At V2.heap.size V2 Y) := ⟨(HA0.out.2.1.go hb02).apart hX2 (noU10 _ _ _ _ _ _ _ _ _ _ _ _ _ _ _ _) hOV2, (HA0.out.2.2.1.go hb02).apart hX2 (noU10 _ _ _ _ _ _ _ _ _ _ _ _ _ _ _ _) hOV2, (HA0.out.2.2.2.go hb02).apart hX2 (noU10 _ _ _ _ _ _ _ _ _ _ _ _ _ _ _ _) hOV2⟩
 have HXV2 := Lib.hid hXV2
 have HYV2 := Lib.hid hYV2
 have HBV2 : Hid (Below w.heap.size w V2) := hBV2 _ _ (HB0.out.trans (hb02.mono HB0.out.size)) (Nat.le_refl _)
 clear d0 d1 d2 d3 d4 d5 d6 d7 d8 d9 hX2 hY2 hXV2 hYV2 hOV2 hBV2 hb2 hb02
 go_wp2_with fail
 refine (HFy.out _ HA2.out.1).mono ?_
 rintro e w3 ⟨rfl, hb3⟩
 have hX3 := known hb3 (Nat.le_refl _) HXV2.out
 have hY3 := known hb3 (Nat.le_refl _) HYV2.out
 obtain ⟨l0, l1, l2, l3, l4, l5, l6, l7, l8, l9⟩ := cl10 hY3
 obtain ⟨i0, i1, i2, i3, i4, i5, i6, i7, i8, i9⟩ := cz10 hY3
 obtain ⟨V3, hV3, hYV3, hOV3, hBV3⟩ := store10 (.int .i64 Y.kind) (.int .i64 Y.level) (.slice T.ea T.el T.ec) (.int .i64 Y.hb) (.string Y.hr) (.int .i64 Y.cr) (.int .i64 Y.cc) (.slice T.ca T.cl T.cc) (.int .i64 Y.gf) (.slice T.ga T.gl T.gc) hY3
 have hXV3 := (hOV3.2 w.heap.size (by omega)).trans hX3
 have hA3 : S.At V3.heap.size V3 X ∧ T.At V3.heap.size V3 Y := ⟨(HA2.out.2.1.go hb3).apart hY3 (noU10 _ _ _ _ _ _ _ _ _ _ _ _ _ _ _ _) hOV3, (HA2.out.2.2.go hb3).apart hY3 (noU10 _ _ _ _ _ _ _ _ _ _ _ _ _ _ _ _) hOV3⟩
 have hbw3 : Below w.heap.size w V3 := hBV3 _ _ (HBV2.out.trans (hb3.mono HBV2.out.size)) (Nat.le_succ _)
 have HXY : Hid (∀ W, Below V3.heap.size V3 W → W.heap[w.heap.size]? = some (.cells #[.int .i64 X.kind, .int .i64 X.level, .slice S.ea S.el S.ec, .int .i64 X.hb, .string X.hr, .int .i64 X.cr, .int .i64 X.cc, .slice S.ca S.cl S.cc, .int .i64 X.gf, .slice S.ga S.gl S.gc] 33 (0, 0)) ∧ W.heap[w.heap.size + 1]? = some (.cells #[.int .i64 Y.kind, .int .i64 Y.level, .slice T.ea T.el T.ec, .int .i64 Y.hb, .string Y.hr, .int .i64 Y.cr, .int .i64 Y.cc, .slice T.ca T.cl T.cc, .int .i64 Y.gf, .slice T.ga T.gl T.gc] 33 (0, 0)) ∧ S.At W.heap.size W X ∧ T.At W.heap.size W Y ∧ GT W) := fun W hb => ⟨known hb (Nat.le_refl _) hXV3, known hb (Nat.le_refl _) hYV3, hA3.1.go hb, hA3.2.go hb, HG.out W (hbw3.trans (hb.mono hbw3.size))⟩
 have HBw3 := Lib.hid hbw3
 obtain ⟨m0, m1, m2, m3, m4, m5, m6, m7, m8, m9⟩ := cl10 hXV3
 obtain ⟨n0, n1, n2, n3, n4, n5, n6, n7, n8, n9⟩ := cl10 hYV3
 have HD0 : Hid (Below V3.heap.size V3 V3) := Below.refl _ _
 clear f0 f1 f2 f3 f4 f5 f6 f7 f8 f9 g0 g1 g2 g3 g4 g5 g6 g7 g8 g9 k0 k1 k2 k3 k4 k5 k6 k7 k8 k9 hX3 hY3 hXV3 hYV3 hOV3 hBV3 hA3 hbw3 hb3
 go_wp2_with fail
 obtain ⟨-, -, hx1, hy1, hg1⟩ := HXY.out V3 HD0.out
 refine (H1.out _ hx1 hy1 hg1).mono ?_
 rintro e u1 ⟨p1, rfl, hA1, hb1⟩
 obtain ⟨W1, hW1, hX1, hB1, hs1⟩ := boxes1 u1 #[.int .i64 A1.kind, .int .i64 A1.level, .slice p1.ea p1.el p1.ec, .int .i64 A1.hb, .string A1.hr, .int .i64 A1.cr, .int .i64 A1.cc, .slice p1.ca p1.cl p1.cc, .int .i64 A1.gf, .slice p1.ga p1.gl p1.gc] 33
 have e1_1 : W1.setCell ⟨u1.heap.size, 1, none⟩ (.int .i64 A1.level) = W1 := set_same hX1 rfl
 have e1_2 : W1.setCell ⟨u1.heap.size, 2, none⟩ (.slice p1.ea p1.el p1.ec) = W1 := set_same hX1 rfl
 have e1_3 : W1.setCell ⟨u1.heap.size, 3, none⟩ (.int .i64 A1.hb) = W1 := set_same hX1 rfl
 have e1_4 : W1.setCell ⟨u1.heap.size, 4, none⟩ (.string A1.hr) = W1 := set_same hX1 rfl
 have e1_5 : W1.setCell ⟨u1.heap.size, 5, none⟩ (.int .i64 A1.cr) = W1 := set_same hX1 rfl
 have e1_6 : W1.setCell ⟨u1.heap.size, 6, none⟩ (.int .i64 A1.cc) = W1 := set_same hX1 rfl
 have e1_7 : W1.setCell ⟨u1.heap.size, 7, none⟩ (.slice p1.ca p1.cl p1.cc) = W1 := set_same hX1 rfl
 have e1_8 : W1.setCell ⟨u1.heap.size, 8, none⟩ (.int .i64 A1.gf) = W1 := set_same hX1 rfl
 have e1_9 : W1.setCell ⟨u1.heap.size, 9, none⟩ (.slice p1.ga p1.gl p1.gc) = W1 := set_same hX1 rfl
 obtain ⟨z1_0, z1_1, z1_2, z1_3, z1_4, z1_5, z1_6, z1_7, z1_8, z1_9⟩ := cz10 hX1
 have HR1 : Hid (∀ W, Below W1.heap.size W1 W → W.heap[u1.heap.size]? = some (.cells #[.int .i64 A1.kind, .int .i64 A1.level, .slice p1.ea p1.el p1.ec, .int .i64 A1.hb, .string A1.hr, .int .i64 A1.cr, .int .i64 A1.cc, .slice p1.ca p1.cl p1.cc, .int .i64 A1.gf, .slice p1.ga p1.gl p1.gc] 33 (0, 0)) ∧ p1.At W.heap.size W A1) := fun W hb => ⟨known hb (Nat.le_refl _) hX1, (hA1.go hB1).go hb⟩
 have HC1 : Hid (Below V3.heap.size V3 W1) := hb1.trans (hB1.mono hb1.size)
 have HD1 : Hid (Below V3.heap.size V3 W1) := HD0.out.trans (HC1.out.mono HD0.out.size)
 obtain ⟨hxb, hyb, -⟩ := HXY.out W1 HD1.out
 obtain ⟨m1_0, m1_1, m1_2, m1_3, m1_4, m1_5, m1_6, m1_7, m1_8, m1_9⟩ := cl10 hxb
 obtain ⟨n1_0, n1_1, n1_2, n1_3, n1_4, n1_5, n1_6, n1_7, n1_8, n1_9⟩ := cl10 hyb
 clear hX1 hB1 hs1 hA1 hb1 hx1 hy1 hg1 hxb hyb l0 l1 l2 l3 l4 l5 l6 l7 l8 l9 i0 i1 i2 i3 i4 i5 i6 i7 i8 i9 m0 n0 m1 n1 m2 n2 m3 n3 m4 n4 m5 n5 m6 n6 m7 n7 m8 n8 m9 n9
 go_wp2_with fail
 obtain ⟨-, -, hx2, hy2, hg2⟩ := HXY.out W1 HD1.out
 refine (H2.out _ hx2 hy2 hg2).mono ?_
 rintro e u2 ⟨p2, rfl, hA2, hb2⟩
 obtain ⟨W2, hW2, hX2, hB2, hs2⟩ := boxes1 u2 #[.int .i64 A1.kind, .int .i64 A1.level, .slice p2.ea p2.el p2.ec, .int .i64 A1.hb, .string A1.hr, .int .i64 A1.cr, .int .i64 A1.cc, .slice p2.ca p2.cl p2.cc, .int .i64 A1.gf, .slice p2.ga p2.gl p2.gc] 33
 have e2_1 : W2.setCell ⟨u2.heap.size, 1, none⟩ (.int .i64 A1.level) = W2 := set_same hX2 rfl
 have e2_2 : W2.setCell ⟨u2.heap.size, 2, none⟩ (.slice p2.ea p2.el p2.ec) = W2 := set_same hX2 rfl
 have e2_3 : W2.setCell ⟨u2.heap.size, 3, none⟩ (.int .i64 A1.hb) = W2 := set_same hX2 rfl
 have e2_4 : W2.setCell ⟨u2.heap.size, 4, none⟩ (.string A1.hr) = W2 := set_same hX2 rfl
 have e2_5 : W2.setCell ⟨u2.heap.size, 5, none⟩ (.int .i64 A1.cr) = W2 := set_same hX2 rfl
 have e2_6 : W2.setCell ⟨u2.heap.size, 6, none⟩ (.int .i64 A1.cc) = W2 := set_same hX2 rfl
 have e2_7 : W2.setCell ⟨u2.heap.size, 7, none⟩ (.slice p2.ca p2.cl p2.cc) = W2 := set_same hX2 rfl
 have e2_8 : W2.setCell ⟨u2.heap.size, 8, none⟩ (.int .i64 A1.gf) = W2 := set_same hX2 rfl
 have e2_9 : W2.setCell ⟨u2.heap.size, 9, none⟩ (.slice p2.ga p2.gl p2.gc) = W2 := set_same hX2 rfl
 obtain ⟨z2_0, z2_1, z2_2, z2_3, z2_4, z2_5, z2_6, z2_7, z2_8, z2_9⟩ := cz10 hX2
 have HR2 : Hid (∀ W, Below W2.heap.size W2 W → W.heap[u2.heap.size]? = some (.cells #[.int .i64 A1.kind, .int .i64 A1.level, .slice p2.ea p2.el p2.ec, .int .i64 A1.hb, .string A1.hr, .int .i64 A1.cr, .int .i64 A1.cc, .slice p2.ca p2.cl p2.cc, .int .i64 A1.gf, .slice p2.ga p2.gl p2.gc] 33 (0, 0)) ∧ p2.At W.heap.size W A1) := fun W hb => ⟨known hb (Nat.le_refl _) hX2, (hA2.go hB2).go hb⟩
 have HC2 : Hid (Below W1.heap.size W1 W2) := hb2.trans (hB2.mono hb2.size)
 have HD2 : Hid (Below V3.heap.size V3 W2) := HD1.out.trans (HC2.out.mono HD1.out.size)
 obtain ⟨hxb, hyb, -⟩ := HXY.out W2 HD2.out
 obtain ⟨m2_0, m2_1, m2_2, m2_3, m2_4, m2_5, m2_6, m2_7, m2_8, m2_9⟩ := cl10 hxb
 obtain ⟨n2_0, n2_1, n2_2, n2_3, n2_4, n2_5, n2_6, n2_7, n2_8, n2_9⟩ := cl10 hyb
 clear hX2 hB2 hs2 hA2 hb2 hx2 hy2 hg2 hxb hyb e1_1 e1_2 e1_3 e1_4 e1_5 e1_6 e1_7 e1_8 e1_9 z1_0 z1_1 z1_2 z1_3 z1_4 z1_5 z1_6 z1_7 z1_8 z1_9 m1_0 n1_0 m1_1 n1_1 m1_2 n1_2 m1_3 n1_3 m1_4 n1_4 m1_5 n1_5 m1_6 n1_6 m1_7 n1_7 m1_8 n1_8 m1_9 n1_9
 go_wp2_with fail
 obtain ⟨-, -, hx3, hy3, hg3⟩ := HXY.out W2 HD2.out
 refine (H3.out _ hx3 hy3 hg3).mono ?_
 rintro e u3 ⟨p3, rfl, hA3, hb3⟩
 obtain ⟨W3, hW3, hX3, hB3, hs3⟩ := boxes1 u3 #[.int .i64 A2.kind, .int .i64 A2.level, .slice p3.ea p3.el p3.ec, .int .i64 A2.hb, .string A2.hr, .int .i64 A2.cr, .int .i64 A2.cc, .slice p3.ca p3.cl p3.cc, .int .i64 A2.gf, .slice p3.ga p3.gl p3.gc] 33
 have e3_1 : W3.setCell ⟨u3.heap.size, 1, none⟩ (.int .i64 A2.level) = W3 := set_same hX3 rfl
 have e3_2 : W3.setCell ⟨u3.heap.size, 2, none⟩ (.slice p3.ea p3.el p3.ec) = W3 := set_same hX3 rfl
 have e3_3 : W3.setCell ⟨u3.heap.size, 3, none⟩ (.int .i64 A2.hb) = W3 := set_same hX3 rfl
 have e3_4 : W3.setCell ⟨u3.heap.size, 4, none⟩ (.string A2.hr) = W3 := set_same hX3 rfl
 have e3_5 : W3.setCell ⟨u3.heap.size, 5, none⟩ (.int .i64 A2.cr) = W3 := set_same hX3 rfl
 have e3_6 : W3.setCell ⟨u3.heap.size, 6, none⟩ (.int .i64 A2.cc) = W3 := set_same hX3 rfl
 have e3_7 : W3.setCell ⟨u3.heap.size, 7, none⟩ (.slice p3.ca p3.cl p3.cc) = W3 := set_same hX3 rfl
 have e3_8 : W3.setCell ⟨u3.heap.size, 8, none⟩ (.int .i64 A2.gf) = W3 := set_same hX3 rfl
 have e3_9 : W3.setCell ⟨u3.heap.size, 9, none⟩ (.slice p3.ga p3.gl p3.gc) = W3 := set_same hX3 rfl
 obtain ⟨z3_0, z3_1, z3_2, z3_3, z3_4, z3_5, z3_6, z3_7, z3_8, z3_9⟩ := cz10 hX3
 have HR3 : Hid (∀ W, Below W3.heap.size W3 W → W.heap[u3.heap.size]? = some (.cells #[.int .i64 A2.kind, .int .i64 A2.level, .slice p3.ea p3.el p3.ec, .int .i64 A2.hb, .string A2.hr, .int .i64 A2.cr, .int .i64 A2.cc, .slice p3.ca p3.cl p3.cc, .int .i64 A2.gf, .slice p3.ga p3.gl p3.gc] 33 (0, 0)) ∧ p3.At W.heap.size W A2) := fun W hb => ⟨known hb (Nat.le_refl _) hX3, (hA3.go hB3).go hb⟩
 have HC3 : Hid (Below W2.heap.size W2 W3) := hb3.trans (hB3.mono hb3.size)
 have HD3 : Hid (Below V3.heap.size V3 W3) := HD2.out.trans (HC3.out.mono HD2.out.size)
 obtain ⟨hxb, hyb, -⟩ := HXY.out W3 HD3.out
 obtain ⟨m3_0, m3_1, m3_2, m3_3, m3_4, m3_5, m3_6, m3_7, m3_8, m3_9⟩ := cl10 hxb
 obtain ⟨n3_0, n3_1, n3_2, n3_3, n3_4, n3_5, n3_6, n3_7, n3_8, n3_9⟩ := cl10 hyb
 clear hX3 hB3 hs3 hA3 hb3 hx3 hy3 hg3 hxb hyb e2_1 e2_2 e2_3 e2_4 e2_5 e2_6 e2_7 e2_8 e2_9 z2_0 z2_1 z2_2 z2_3 z2_4 z2_5 z2_6 z2_7 z2_8 z2_9 m2_0 n2_0 m2_1 n2_1 m2_2 n2_2 m2_3 n2_3 m2_4 n2_4 m2_5 n2_5 m2_6 n2_6 m2_7 n2_7 m2_8 n2_8 m2_9 n2_9
 go_wp2_with fail
 obtain ⟨-, -, hx4, hy4, hg4⟩ := HXY.out W3 HD3.out
 refine (H4.out _ hx4 hy4 hg4).mono ?_
 rintro e u4 ⟨p4, rfl, hA4, hb4⟩
 obtain ⟨W4, hW4, hX4, hB4, hs4⟩ := boxes1 u4 #[.int .i64 A2.kind, .int .i64 A2.level, .slice p4.ea p4.el p4.ec, .int .i64 A2.hb, .string A2.hr, .int .i64 A2.cr, .int .i64 A2.cc, .slice p4.ca p4.cl p4.cc, .int .i64 A2.gf, .slice p4.ga p4.gl p4.gc] 33
 have e4_1 : W4.setCell ⟨u4.heap.size, 1, none⟩ (.int .i64 A2.level) = W4 := set_same hX4 rfl
 have e4_2 : W4.setCell ⟨u4.heap.size, 2, none⟩ (.slice p4.ea p4.el p4.ec) = W4 := set_same hX4 rfl
 have e4_3 : W4.setCell ⟨u4.heap.size, 3, none⟩ (.int .i64 A2.hb) = W4 := set_same hX4 rfl
 have e4_4 : W4.setCell ⟨u4.heap.size, 4, none⟩ (.string A2.hr) = W4 := set_same hX4 rfl
 have e4_5 : W4.setCell ⟨u4.heap.size, 5, none⟩ (.int .i64 A2.cr) = W4 := set_same hX4 rfl
 have e4_6 : W4.setCell ⟨u4.heap.size, 6, none⟩ (.int .i64 A2.cc) = W4 := set_same hX4 rfl
 have e4_7 : W4.setCell ⟨u4.heap.size, 7, none⟩ (.slice p4.ca p4.cl p4.cc) = W4 := set_same hX4 rfl
 have e4_8 : W4.setCell ⟨u4.heap.size, 8, none⟩ (.int .i64 A2.gf) = W4 := set_same hX4 rfl
 have e4_9 : W4.setCell ⟨u4.heap.size, 9, none⟩ (.slice p4.ga p4.gl p4.gc) = W4 := set_same hX4 rfl
 obtain ⟨z4_0, z4_1, z4_2, z4_3, z4_4, z4_5, z4_6, z4_7, z4_8, z4_9⟩ := cz10 hX4
 have HR4 : Hid (∀ W, Below W4.heap.size W4 W → W.heap[u4.heap.size]? = some (.cells #[.int .i64 A2.kind, .int .i64 A2.level, .slice p4.ea p4.el p4.ec, .int .i64 A2.hb, .string A2.hr, .int .i64 A2.cr, .int .i64 A2.cc, .slice p4.ca p4.cl p4.cc, .int .i64 A2.gf, .slice p4.ga p4.gl p4.gc] 33 (0, 0)) ∧ p4.At W.heap.size W A2) := fun W hb => ⟨known hb (Nat.le_refl _) hX4, (hA4.go hB4).go hb⟩
 have HC4 : Hid (Below W3.heap.size W3 W4) := hb4.trans (hB4.mono hb4.size)
 have HD4 : Hid (Below V3.heap.size V3 W4) := HD3.out.trans (HC4.out.mono HD3.out.size)
 obtain ⟨hxb, hyb, -⟩ := HXY.out W4 HD4.out
 obtain ⟨m4_0, m4_1, m4_2, m4_3, m4_4, m4_5, m4_6, m4_7, m4_8, m4_9⟩ := cl10 hxb
 obtain ⟨n4_0, n4_1, n4_2, n4_3, n4_4, n4_5, n4_6, n4_7, n4_8, n4_9⟩ := cl10 hyb
 clear hX4 hB4 hs4 hA4 hb4 hx4 hy4 hg4 hxb hyb e3_1 e3_2 e3_3 e3_4 e3_5 e3_6 e3_7 e3_8 e3_9 z3_0 z3_1 z3_2 z3_3 z3_4 z3_5 z3_6 z3_7 z3_8 z3_9 m3_0 n3_0 m3_1 n3_1 m3_2 n3_2 m3_3 n3_3 m3_4 n3_4 m3_5 n3_5 m3_6 n3_6 m3_7 n3_7 m3_8 n3_8 m3_9 n3_9
 go_wp2_with fail
 obtain ⟨-, -, hx5, hy5, hg5⟩ := HXY.out W4 HD4.out
 refine (H5.out _ hx5 hy5 hg5).mono ?_
 rintro e u5 ⟨p5, rfl, hA5, hb5⟩
 obtain ⟨W5, hW5, hX5, hB5, hs5⟩ := boxes1 u5 #[.int .i64 A3.kind, .int .i64 A3.level, .slice p5.ea p5.el p5.ec, .int .i64 A3.hb, .string A3.hr, .int .i64 A3.cr, .int .i64 A3.cc, .slice p5.ca p5.cl p5.cc, .int .i64 A3.gf, .slice p5.ga p5.gl p5.gc] 33
 have e5_1 : W5.setCell ⟨u5.heap.size, 1, none⟩ (.int .i64 A3.level) = W5 := set_same hX5 rfl
 have e5_2 : W5.setCell ⟨u5.heap.size, 2, none⟩ (.slice p5.ea p5.el p5.ec) = W5 := set_same hX5 rfl
 have e5_3 : W5.setCell ⟨u5.heap.size, 3, none⟩ (.int .i64 A3.hb) = W5 := set_same hX5 rfl
 have e5_4 : W5.setCell ⟨u5.heap.size, 4, none⟩ (.string A3.hr) = W5 := set_same hX5 rfl
 have e5_5 : W5.setCell ⟨u5.heap.size, 5, none⟩ (.int .i64 A3.cr) = W5 := set_same hX5 rfl
 have e5_6 : W5.setCell ⟨u5.heap.size, 6, none⟩ (.int .i64 A3.cc) = W5 := set_same hX5 rfl
 have e5_7 : W5.setCell ⟨u5.heap.size, 7, none⟩ (.slice p5.ca p5.cl p5.cc) = W5 := set_same hX5 rfl
 have e5_8 : W5.setCell ⟨u5.heap.size, 8, none⟩ (.int .i64 A3.gf) = W5 := set_same hX5 rfl
 have e5_9 : W5.setCell ⟨u5.heap.size, 9, none⟩ (.slice p5.ga p5.gl p5.gc) = W5 := set_same hX5 rfl
 obtain ⟨z5_0, z5_1, z5_2, z5_3, z5_4, z5_5, z5_6, z5_7, z5_8, z5_9⟩ := cz10 hX5
 have HR5 : Hid (∀ W, Below W5.heap.size W5 W → W.heap[u5.heap.size]? = some (.cells #[.int .i64 A3.kind, .int .i64 A3.level, .slice p5.ea p5.el p5.ec, .int .i64 A3.hb, .string A3.hr, .int .i64 A3.cr, .int .i64 A3.cc, .slice p5.ca p5.cl p5.cc, .int .i64 A3.gf, .slice p5.ga p5.gl p5.gc] 33 (0, 0)) ∧ p5.At W.heap.size W A3) := fun W hb => ⟨known hb (Nat.le_refl _) hX5, (hA5.go hB5).go hb⟩
 have HC5 : Hid (Below W4.heap.size W4 W5) := hb5.trans (hB5.mono hb5.size)
 have HD5 : Hid (Below V3.heap.size V3 W5) := HD4.out.trans (HC5.out.mono HD4.out.size)
 obtain ⟨hxb, hyb, -⟩ := HXY.out W5 HD5.out
 obtain ⟨m5_0, m5_1, m5_2, m5_3, m5_4, m5_5, m5_6, m5_7, m5_8, m5_9⟩ := cl10 hxb
 obtain ⟨n5_0, n5_1, n5_2, n5_3, n5_4, n5_5, n5_6, n5_7, n5_8, n5_9⟩ := cl10 hyb
 clear hX5 hB5 hs5 hA5 hb5 hx5 hy5 hg5 hxb hyb e4_1 e4_2 e4_3 e4_4 e4_5 e4_6 e4_7 e4_8 e4_9 z4_0 z4_1 z4_2 z4_3 z4_4 z4_5 z4_6 z4_7 z4_8 z4_9 m4_0 n4_0 m4_1 n4_1 m4_2 n4_2 m4_3 n4_3 m4_4 n4_4 m4_5 n4_5 m4_6 n4_6 m4_7 n4_7 m4_8 n4_8 m4_9 n4_9
 go_wp2_with fail
 obtain ⟨-, -, hx6, hy6, hg6⟩ := HXY.out W5 HD5.out
 refine (H6.out _ hx6 hy6 hg6).mono ?_
 rintro e u6 ⟨p6, rfl, hA6, hb6⟩
 obtain ⟨W6, hW6, hX6, hB6, hs6⟩ := boxes1 u6 #[.int .i64 A3.kind, .int .i64 A3.level, .slice p6.ea p6.el p6.ec, .int .i64 A3.hb, .string A3.hr, .int .i64 A3.cr, .int .i64 A3.cc, .slice p6.ca p6.cl p6.cc, .int .i64 A3.gf, .slice p6.ga p6.gl p6.gc] 33
 have e6_1 : W6.setCell ⟨u6.heap.size, 1, none⟩ (.int .i64 A3.level) = W6 := set_same hX6 rfl
 have e6_2 : W6.setCell ⟨u6.heap.size, 2, none⟩ (.slice p6.ea p6.el p6.ec) = W6 := set_same hX6 rfl
 have e6_3 : W6.setCell ⟨u6.heap.size, 3, none⟩ (.int .i64 A3.hb) = W6 := set_same hX6 rfl
 have e6_4 : W6.setCell ⟨u6.heap.size, 4, none⟩ (.string A3.hr) = W6 := set_same hX6 rfl
 have e6_5 : W6.setCell ⟨u6.heap.size, 5, none⟩ (.int .i64 A3.cr) = W6 := set_same hX6 rfl
 have e6_6 : W6.setCell ⟨u6.heap.size, 6, none⟩ (.int .i64 A3.cc) = W6 := set_same hX6 rfl
 have e6_7 : W6.setCell ⟨u6.heap.size, 7, none⟩ (.slice p6.ca p6.cl p6.cc) = W6 := set_same hX6 rfl
 have e6_8 : W6.setCell ⟨u6.heap.size, 8, none⟩ (.int .i64 A3.gf) = W6 := set_same hX6 rfl
 have e6_9 : W6.setCell ⟨u6.heap.size, 9, none⟩ (.slice p6.ga p6.gl p6.gc) = W6 := set_same hX6 rfl
 obtain ⟨z6_0, z6_1, z6_2, z6_3, z6_4, z6_5, z6_6, z6_7, z6_8, z6_9⟩ := cz10 hX6
 have HR6 : Hid (∀ W, Below W6.heap.size W6 W → W.heap[u6.heap.size]? = some (.cells #[.int .i64 A3.kind, .int .i64 A3.level, .slice p6.ea p6.el p6.ec, .int .i64 A3.hb, .string A3.hr, .int .i64 A3.cr, .int .i64 A3.cc, .slice p6.ca p6.cl p6.cc, .int .i64 A3.gf, .slice p6.ga p6.gl p6.gc] 33 (0, 0)) ∧ p6.At W.heap.size W A3) := fun W hb => ⟨known hb (Nat.le_refl _) hX6, (hA6.go hB6).go hb⟩
 have HC6 : Hid (Below W5.heap.size W5 W6) := hb6.trans (hB6.mono hb6.size)
 have HD6 : Hid (Below V3.heap.size V3 W6) := HD5.out.trans (HC6.out.mono HD5.out.size)
 obtain ⟨hxb, hyb, -⟩ := HXY.out W6 HD6.out
 obtain ⟨m6_0, m6_1, m6_2, m6_3, m6_4, m6_5, m6_6, m6_7, m6_8, m6_9⟩ := cl10 hxb
 obtain ⟨n6_0, n6_1, n6_2, n6_3, n6_4, n6_5, n6_6, n6_7, n6_8, n6_9⟩ := cl10 hyb
 clear hX6 hB6 hs6 hA6 hb6 hx6 hy6 hg6 hxb hyb e5_1 e5_2 e5_3 e5_4 e5_5 e5_6 e5_7 e5_8 e5_9 z5_0 z5_1 z5_2 z5_3 z5_4 z5_5 z5_6 z5_7 z5_8 z5_9 m5_0 n5_0 m5_1 n5_1 m5_2 n5_2 m5_3 n5_3 m5_4 n5_4 m5_5 n5_5 m5_6 n5_6 m5_7 n5_7 m5_8 n5_8 m5_9 n5_9
 have HZ6 : Hid (Below W6.heap.size W6 W6) := Below.refl _ _
 have HZ5 : Hid (Below W5.heap.size W5 W6) := HC6.out.trans (HZ6.out.mono HC6.out.size)
 have HZ4 : Hid (Below W4.heap.size W4 W6) := HC5.out.trans (HZ5.out.mono HC5.out.size)
 have HZ3 : Hid (Below W3.heap.size W3 W6) := HC4.out.trans (HZ4.out.mono HC4.out.size)
 have HZ2 : Hid (Below W2.heap.size W2 W6) := HC3.out.trans (HZ3.out.mono HC3.out.size)
 have HZ1 : Hid (Below W1.heap.size W1 W6) := HC2.out.trans (HZ2.out.mono HC2.out.size)
 have HBW : Hid (Below w.heap.size w W6) := HBw3.out.trans (HD6.out.mono HBw3.out.size)
 have hEE : ∀ z : Int, (z == z) = true := fun z => beq_self_eq_true z
 go_wp2_with fail
 let Inv : World → Prop := fun W => Below W6.heap.size W6 W
 have hgo : ∀ W W', Inv W → Below W.heap.size W W' → Inv W' := fun W W' h hb => Below.trans h (hb.mono (Below.size h))
 have HXq : Hid (∀ X' : WIn Inv, X'.world.heap[w.heap.size]? = some (.cells #[.int .i64 X.kind, .int .i64 X.level, .slice S.ea S.el S.ec, .int .i64 X.hb, .string X.hr, .int .i64 X.cr, .int .i64 X.cc, .slice S.ca S.cl S.cc, .int .i64 X.gf, .slice S.ga S.gl S.gc] 33 (0, 0)) ∧ X'.world.heap[w.heap.size + 1]? = some (.cells #[.int .i64 Y.kind, .int .i64 Y.level, .slice T.ea T.el T.ec, .int .i64 Y.hb, .string Y.hr, .int .i64 Y.cr, .int .i64 Y.cc, .slice T.ca T.cl T.cc, .int .i64 Y.gf, .slice T.ga T.gl T.gc] 33 (0, 0)) ∧ S.At X'.world.heap.size X'.world X ∧ T.At X'.world.heap.size X'.world Y) := fun X' => by
  obtain ⟨h1, h2, h3, h4, -⟩ := HXY.out X'.world (HD6.out.trans (X'.ok.mono HD6.out.size))
  exact ⟨h1, h2, h3, h4⟩
 have HRq1 : Hid (∀ X' : WIn Inv, X'.world.heap[u1.heap.size]? = some (.cells #[.int .i64 A1.kind, .int .i64 A1.level, .slice p1.ea p1.el p1.ec, .int .i64 A1.hb, .string A1.hr, .int .i64 A1.cr, .int .i64 A1.cc, .slice p1.ca p1.cl p1.cc, .int .i64 A1.gf, .slice p1.ga p1.gl p1.gc] 33 (0, 0)) ∧ p1.At X'.world.heap.size X'.world A1) := fun X' => HR1.out X'.world (HZ1.out.trans (X'.ok.mono HZ1.out.size))
 have q1_0 : ∀ X' : WIn Inv, X'.world.cell? ⟨u1.heap.size, 0, none⟩ = some (.int .i64 A1.kind) := fun X' => cCc (HRq1.out X').1 0
 have q1_1 : ∀ X' : WIn Inv, X'.world.cell? ⟨u1.heap.size, 1, none⟩ = some (.int .i64 A1.level) := fun X' => cCc (HRq1.out X').1 1
 have q1_2 : ∀ X' : WIn Inv, X'.world.cell? ⟨u1.heap.size, 2, none⟩ = some (.slice p1.ea p1.el p1.ec) := fun X' => cCc (HRq1.out X').1 2
 have q1_3 : ∀ X' : WIn Inv, X'.world.cell? ⟨u1.heap.size, 3, none⟩ = some (.int .i64 A1.hb) := fun X' => cCc (HRq1.out X').1 3
 have q1_4 : ∀ X' : WIn Inv, X'.world.cell? ⟨u1.heap.size, 4, none⟩ = some (.string A1.hr) := fun X' => cCc (HRq1.out X').1 4
 have q1_5 : ∀ X' : WIn Inv, X'.world.cell? ⟨u1.heap.size, 5, none⟩ = some (.int .i64 A1.cr) := fun X' => cCc (HRq1.out X').1 5
 have q1_6 : ∀ X' : WIn Inv, X'.world.cell? ⟨u1.heap.size, 6, none⟩ = some (.int .i64 A1.cc) := fun X' => cCc (HRq1.out X').1 6
 have q1_7 : ∀ X' : WIn Inv, X'.world.cell? ⟨u1.heap.size, 7, none⟩ = some (.slice p1.ca p1.cl p1.cc) := fun X' => cCc (HRq1.out X').1 7
 have q1_8 : ∀ X' : WIn Inv, X'.world.cell? ⟨u1.heap.size, 8, none⟩ = some (.int .i64 A1.gf) := fun X' => cCc (HRq1.out X').1 8
 have q1_9 : ∀ X' : WIn Inv, X'.world.cell? ⟨u1.heap.size, 9, none⟩ = some (.slice p1.ga p1.gl p1.gc) := fun X' => cCc (HRq1.out X').1 9
 have HRq2 : Hid (∀ X' : WIn Inv, X'.world.heap[u2.heap.size]? = some (.cells #[.int .i64 A1.kind, .int .i64 A1.level, .slice p2.ea p2.el p2.ec, .int .i64 A1.hb, .string A1.hr, .int .i64 A1.cr, .int .i64 A1.cc, .slice p2.ca p2.cl p2.cc, .int .i64 A1.gf, .slice p2.ga p2.gl p2.gc] 33 (0, 0)) ∧ p2.At X'.world.heap.size X'.world A1) := fun X' => HR2.out X'.world (HZ2.out.trans (X'.ok.mono HZ2.out.size))
 have q2_0 : ∀ X' : WIn Inv, X'.world.cell? ⟨u2.heap.size, 0, none⟩ = some (.int .i64 A1.kind) := fun X' => cCc (HRq2.out X').1 0
 have q2_1 : ∀ X' : WIn Inv, X'.world.cell? ⟨u2.heap.size, 1, none⟩ = some (.int .i64 A1.level) := fun X' => cCc (HRq2.out X').1 1
 have q2_2 : ∀ X' : WIn Inv, X'.world.cell? ⟨u2.heap.size, 2, none⟩ = some (.slice p2.ea p2.el p2.ec) := fun X' => cCc (HRq2.out X').1 2
 have q2_3 : ∀ X' : WIn Inv, X'.world.cell? ⟨u2.heap.size, 3, none⟩ = some (.int .i64 A1.hb) := fun X' => cCc (HRq2.out X').1 3
 have q2_4 : ∀ X' : WIn Inv, X'.world.cell? ⟨u2.heap.size, 4, none⟩ = some (.string A1.hr) := fun X' => cCc (HRq2.out X').1 4
 have q2_5 : ∀ X' : WIn Inv, X'.world.cell? ⟨u2.heap.size, 5, none⟩ = some (.int .i64 A1.cr) := fun X' => cCc (HRq2.out X').1 5
 have q2_6 : ∀ X' : WIn Inv, X'.world.cell? ⟨u2.heap.size, 6, none⟩ = some (.int .i64 A1.cc) := fun X' => cCc (HRq2.out X').1 6
 have q2_7 : ∀ X' : WIn Inv, X'.world.cell? ⟨u2.heap.size, 7, none⟩ = some (.slice p2.ca p2.cl p2.cc) := fun X' => cCc (HRq2.out X').1 7
 have q2_8 : ∀ X' : WIn Inv, X'.world.cell? ⟨u2.heap.size, 8, none⟩ = some (.int .i64 A1.gf) := fun X' => cCc (HRq2.out X').1 8
 have q2_9 : ∀ X' : WIn Inv, X'.world.cell? ⟨u2.heap.size, 9, none⟩ = some (.slice p2.ga p2.gl p2.gc) := fun X' => cCc (HRq2.out X').1 9
 have HRq3 : Hid (∀ X' : WIn Inv, X'.world.heap[u3.heap.size]? = some (.cells #[.int .i64 A2.kind, .int .i64 A2.level, .slice p3.ea p3.el p3.ec, .int .i64 A2.hb, .string A2.hr, .int .i64 A2.cr, .int .i64 A2.cc, .slice p3.ca p3.cl p3.cc, .int .i64 A2.gf, .slice p3.ga p3.gl p3.gc] 33 (0, 0)) ∧ p3.At X'.world.heap.size X'.world A2) := fun X' => HR3.out X'.world (HZ3.out.trans (X'.ok.mono HZ3.out.size))
 have q3_0 : ∀ X' : WIn Inv, X'.world.cell? ⟨u3.heap.size, 0, none⟩ = some (.int .i64 A2.kind) := fun X' => cCc (HRq3.out X').1 0
 have q3_1 : ∀ X' : WIn Inv, X'.world.cell? ⟨u3.heap.size, 1, none⟩ = some (.int .i64 A2.level) := fun X' => cCc (HRq3.out X').1 1
 have q3_2 : ∀ X' : WIn Inv, X'.world.cell? ⟨u3.heap.size, 2, none⟩ = some (.slice p3.ea p3.el p3.ec) := fun X' => cCc (HRq3.out X').1 2
 have q3_3 : ∀ X' : WIn Inv, X'.world.cell? ⟨u3.heap.size, 3, none⟩ = some (.int .i64 A2.hb) := fun X' => cCc (HRq3.out X').1 3
 have q3_4 : ∀ X' : WIn Inv, X'.world.cell? ⟨u3.heap.size, 4, none⟩ = some (.string A2.hr) := fun X' => cCc (HRq3.out X').1 4
 have q3_5 : ∀ X' : WIn Inv, X'.world.cell? ⟨u3.heap.size, 5, none⟩ = some (.int .i64 A2.cr) := fun X' => cCc (HRq3.out X').1 5
 have q3_6 : ∀ X' : WIn Inv, X'.world.cell? ⟨u3.heap.size, 6, none⟩ = some (.int .i64 A2.cc) := fun X' => cCc (HRq3.out X').1 6
 have q3_7 : ∀ X' : WIn Inv, X'.world.cell? ⟨u3.heap.size, 7, none⟩ = some (.slice p3.ca p3.cl p3.cc) := fun X' => cCc (HRq3.out X').1 7
 have q3_8 : ∀ X' : WIn Inv, X'.world.cell? ⟨u3.heap.size, 8, none⟩ = some (.int .i64 A2.gf) := fun X' => cCc (HRq3.out X').1 8
 have q3_9 : ∀ X' : WIn Inv, X'.world.cell? ⟨u3.heap.size, 9, none⟩ = some (.slice p3.ga p3.gl p3.gc) := fun X' => cCc (HRq3.out X').1 9
 have HRq4 : Hid (∀ X' : WIn Inv, X'.world.heap[u4.heap.size]? = some (.cells #[.int .i64 A2.kind, .int .i64 A2.level, .slice p4.ea p4.el p4.ec, .int .i64 A2.hb, .string A2.hr, .int .i64 A2.cr, .int .i64 A2.cc, .slice p4.ca p4.cl p4.cc, .int .i64 A2.gf, .slice p4.ga p4.gl p4.gc] 33 (0, 0)) ∧ p4.At X'.world.heap.size X'.world A2) := fun X' => HR4.out X'.world (HZ4.out.trans (X'.ok.mono HZ4.out.size))
 have q4_0 : ∀ X' : WIn Inv, X'.world.cell? ⟨u4.heap.size, 0, none⟩ = some (.int .i64 A2.kind) := fun X' => cCc (HRq4.out X').1 0
 have q4_1 : ∀ X' : WIn Inv, X'.world.cell? ⟨u4.heap.size, 1, none⟩ = some (.int .i64 A2.level) := fun X' => cCc (HRq4.out X').1 1
 have q4_2 : ∀ X' : WIn Inv, X'.world.cell? ⟨u4.heap.size, 2, none⟩ = some (.slice p4.ea p4.el p4.ec) := fun X' => cCc (HRq4.out X').1 2
 have q4_3 : ∀ X' : WIn Inv, X'.world.cell? ⟨u4.heap.size, 3, none⟩ = some (.int .i64 A2.hb) := fun X' => cCc (HRq4.out X').1 3
 have q4_4 : ∀ X' : WIn Inv, X'.world.cell? ⟨u4.heap.size, 4, none⟩ = some (.string A2.hr) := fun X' => cCc (HRq4.out X').1 4
 have q4_5 : ∀ X' : WIn Inv, X'.world.cell? ⟨u4.heap.size, 5, none⟩ = some (.int .i64 A2.cr) := fun X' => cCc (HRq4.out X').1 5
 have q4_6 : ∀ X' : WIn Inv, X'.world.cell? ⟨u4.heap.size, 6, none⟩ = some (.int .i64 A2.cc) := fun X' => cCc (HRq4.out X').1 6
 have q4_7 : ∀ X' : WIn Inv, X'.world.cell? ⟨u4.heap.size, 7, none⟩ = some (.slice p4.ca p4.cl p4.cc) := fun X' => cCc (HRq4.out X').1 7
 have q4_8 : ∀ X' : WIn Inv, X'.world.cell? ⟨u4.heap.size, 8, none⟩ = some (.int .i64 A2.gf) := fun X' => cCc (HRq4.out X').1 8
 have q4_9 : ∀ X' : WIn Inv, X'.world.cell? ⟨u4.heap.size, 9, none⟩ = some (.slice p4.ga p4.gl p4.gc) := fun X' => cCc (HRq4.out X').1 9
 have HRq5 : Hid (∀ X' : WIn Inv, X'.world.heap[u5.heap.size]? = some (.cells #[.int .i64 A3.kind, .int .i64 A3.level, .slice p5.ea p5.el p5.ec, .int .i64 A3.hb, .string A3.hr, .int .i64 A3.cr, .int .i64 A3.cc, .slice p5.ca p5.cl p5.cc, .int .i64 A3.gf, .slice p5.ga p5.gl p5.gc] 33 (0, 0)) ∧ p5.At X'.world.heap.size X'.world A3) := fun X' => HR5.out X'.world (HZ5.out.trans (X'.ok.mono HZ5.out.size))
 have q5_0 : ∀ X' : WIn Inv, X'.world.cell? ⟨u5.heap.size, 0, none⟩ = some (.int .i64 A3.kind) := fun X' => cCc (HRq5.out X').1 0
 have q5_1 : ∀ X' : WIn Inv, X'.world.cell? ⟨u5.heap.size, 1, none⟩ = some (.int .i64 A3.level) := fun X' => cCc (HRq5.out X').1 1
 have q5_2 : ∀ X' : WIn Inv, X'.world.cell? ⟨u5.heap.size, 2, none⟩ = some (.slice p5.ea p5.el p5.ec) := fun X' => cCc (HRq5.out X').1 2
 have q5_3 : ∀ X' : WIn Inv, X'.world.cell? ⟨u5.heap.size, 3, none⟩ = some (.int .i64 A3.hb) := fun X' => cCc (HRq5.out X').1 3
 have q5_4 : ∀ X' : WIn Inv, X'.world.cell? ⟨u5.heap.size, 4, none⟩ = some (.string A3.hr) := fun X' => cCc (HRq5.out X').1 4
 have q5_5 : ∀ X' : WIn Inv, X'.world.cell? ⟨u5.heap.size, 5, none⟩ = some (.int .i64 A3.cr) := fun X' => cCc (HRq5.out X').1 5
 have q5_6 : ∀ X' : WIn Inv, X'.world.cell? ⟨u5.heap.size, 6, none⟩ = some (.int .i64 A3.cc) := fun X' => cCc (HRq5.out X').1 6
 have q5_7 : ∀ X' : WIn Inv, X'.world.cell? ⟨u5.heap.size, 7, none⟩ = some (.slice p5.ca p5.cl p5.cc) := fun X' => cCc (HRq5.out X').1 7
 have q5_8 : ∀ X' : WIn Inv, X'.world.cell? ⟨u5.heap.size, 8, none⟩ = some (.int .i64 A3.gf) := fun X' => cCc (HRq5.out X').1 8
 have q5_9 : ∀ X' : WIn Inv, X'.world.cell? ⟨u5.heap.size, 9, none⟩ = some (.slice p5.ga p5.gl p5.gc) := fun X' => cCc (HRq5.out X').1 9
 have HRq6 : Hid (∀ X' : WIn Inv, X'.world.heap[u6.heap.size]? = some (.cells #[.int .i64 A3.kind, .int .i64 A3.level, .slice p6.ea p6.el p6.ec, .int .i64 A3.hb, .string A3.hr, .int .i64 A3.cr, .int .i64 A3.cc, .slice p6.ca p6.cl p6.cc, .int .i64 A3.gf, .slice p6.ga p6.gl p6.gc] 33 (0, 0)) ∧ p6.At X'.world.heap.size X'.world A3) := fun X' => HR6.out X'.world (HZ6.out.trans (X'.ok.mono HZ6.out.size))
 have q6_0 : ∀ X' : WIn Inv, X'.world.cell? ⟨u6.heap.size, 0, none⟩ = some (.int .i64 A3.kind) := fun X' => cCc (HRq6.out X').1 0
 have q6_1 : ∀ X' : WIn Inv, X'.world.cell? ⟨u6.heap.size, 1, none⟩ = some (.int .i64 A3.level) := fun X' => cCc (HRq6.out X').1 1
 have q6_2 : ∀ X' : WIn Inv, X'.world.cell? ⟨u6.heap.size, 2, none⟩ = some (.slice p6.ea p6.el p6.ec) := fun X' => cCc (HRq6.out X').1 2
 have q6_3 : ∀ X' : WIn Inv, X'.world.cell? ⟨u6.heap.size, 3, none⟩ = some (.int .i64 A3.hb) := fun X' => cCc (HRq6.out X').1 3
 have q6_4 : ∀ X' : WIn Inv, X'.world.cell? ⟨u6.heap.size, 4, none⟩ = some (.string A3.hr) := fun X' => cCc (HRq6.out X').1 4
 have q6_5 : ∀ X' : WIn Inv, X'.world.cell? ⟨u6.heap.size, 5, none⟩ = some (.int .i64 A3.cr) := fun X' => cCc (HRq6.out X').1 5
 have q6_6 : ∀ X' : WIn Inv, X'.world.cell? ⟨u6.heap.size, 6, none⟩ = some (.int .i64 A3.cc) := fun X' => cCc (HRq6.out X').1 6
 have q6_7 : ∀ X' : WIn Inv, X'.world.cell? ⟨u6.heap.size, 7, none⟩ = some (.slice p6.ca p6.cl p6.cc) := fun X' => cCc (HRq6.out X').1 7
 have q6_8 : ∀ X' : WIn Inv, X'.world.cell? ⟨u6.heap.size, 8, none⟩ = some (.int .i64 A3.gf) := fun X' => cCc (HRq6.out X').1 8
 have q6_9 : ∀ X' : WIn Inv, X'.world.cell? ⟨u6.heap.size, 9, none⟩ = some (.slice p6.ga p6.gl p6.gc) := fun X' => cCc (HRq6.out X').1 9
 have qx_0 : ∀ X' : WIn Inv, X'.world.cell? ⟨w.heap.size, 0, none⟩ = some (.int .i64 X.kind) := fun X' => cCc (HXq.out X').1 0
 have qx_1 : ∀ X' : WIn Inv, X'.world.cell? ⟨w.heap.size, 1, none⟩ = some (.int .i64 X.level) := fun X' => cCc (HXq.out X').1 1
 have qx_2 : ∀ X' : WIn Inv, X'.world.cell? ⟨w.heap.size, 2, none⟩ = some (.slice S.ea S.el S.ec) := fun X' => cCc (HXq.out X').1 2
 have qx_3 : ∀ X' : WIn Inv, X'.world.cell? ⟨w.heap.size, 3, none⟩ = some (.int .i64 X.hb) := fun X' => cCc (HXq.out X').1 3
 have qx_4 : ∀ X' : WIn Inv, X'.world.cell? ⟨w.heap.size, 4, none⟩ = some (.string X.hr) := fun X' => cCc (HXq.out X').1 4
 have qx_5 : ∀ X' : WIn Inv, X'.world.cell? ⟨w.heap.size, 5, none⟩ = some (.int .i64 X.cr) := fun X' => cCc (HXq.out X').1 5
 have qx_6 : ∀ X' : WIn Inv, X'.world.cell? ⟨w.heap.size, 6, none⟩ = some (.int .i64 X.cc) := fun X' => cCc (HXq.out X').1 6
 have qx_7 : ∀ X' : WIn Inv, X'.world.cell? ⟨w.heap.size, 7, none⟩ = some (.slice S.ca S.cl S.cc) := fun X' => cCc (HXq.out X').1 7
 have qx_8 : ∀ X' : WIn Inv, X'.world.cell? ⟨w.heap.size, 8, none⟩ = some (.int .i64 X.gf) := fun X' => cCc (HXq.out X').1 8
 have qx_9 : ∀ X' : WIn Inv, X'.world.cell? ⟨w.heap.size, 9, none⟩ = some (.slice S.ga S.gl S.gc) := fun X' => cCc (HXq.out X').1 9
 have qy_0 : ∀ X' : WIn Inv, X'.world.cell? ⟨w.heap.size + 1, 0, none⟩ = some (.int .i64 Y.kind) := fun X' => cCc (HXq.out X').2.1 0
 have qy_1 : ∀ X' : WIn Inv, X'.world.cell? ⟨w.heap.size + 1, 1, none⟩ = some (.int .i64 Y.level) := fun X' => cCc (HXq.out X').2.1 1
 have qy_2 : ∀ X' : WIn Inv, X'.world.cell? ⟨w.heap.size + 1, 2, none⟩ = some (.slice T.ea T.el T.ec) := fun X' => cCc (HXq.out X').2.1 2
 have qy_3 : ∀ X' : WIn Inv, X'.world.cell? ⟨w.heap.size + 1, 3, none⟩ = some (.int .i64 Y.hb) := fun X' => cCc (HXq.out X').2.1 3
 have qy_4 : ∀ X' : WIn Inv, X'.world.cell? ⟨w.heap.size + 1, 4, none⟩ = some (.string Y.hr) := fun X' => cCc (HXq.out X').2.1 4
 have qy_5 : ∀ X' : WIn Inv, X'.world.cell? ⟨w.heap.size + 1, 5, none⟩ = some (.int .i64 Y.cr) := fun X' => cCc (HXq.out X').2.1 5
 have qy_6 : ∀ X' : WIn Inv, X'.world.cell? ⟨w.heap.size + 1, 6, none⟩ = some (.int .i64 Y.cc) := fun X' => cCc (HXq.out X').2.1 6
 have qy_7 : ∀ X' : WIn Inv, X'.world.cell? ⟨w.heap.size + 1, 7, none⟩ = some (.slice T.ca T.cl T.cc) := fun X' => cCc (HXq.out X').2.1 7
 have qy_8 : ∀ X' : WIn Inv, X'.world.cell? ⟨w.heap.size + 1, 8, none⟩ = some (.int .i64 Y.gf) := fun X' => cCc (HXq.out X').2.1 8
 have qy_9 : ∀ X' : WIn Inv, X'.world.cell? ⟨w.heap.size + 1, 9, none⟩ = some (.slice T.ga T.gl T.gc) := fun X' => cCc (HXq.out X').2.1 9
 have K1 : Hid (∀ X' : WIn Inv, Calls Tryz.prog 13 #[.agg #[.int .i64 A1.kind, .int .i64 A1.level, .slice p1.ea p1.el p1.ec, .int .i64 A1.hb, .string A1.hr, .int .i64 A1.cr, .int .i64 A1.cc, .slice p1.ca p1.cl p1.cc, .int .i64 A1.gf, .slice p1.ga p1.gl p1.gc], .agg #[.int .i64 A1.kind, .int .i64 A1.level, .slice p2.ea p2.el p2.ec, .int .i64 A1.hb, .string A1.hr, .int .i64 A1.cr, .int .i64 A1.cc, .slice p2.ca p2.cl p2.cc, .int .i64 A1.gf, .slice p2.ga p2.gl p2.gc]] X'.world fun e w' => e = .returned (.bool true) ∧ ∃ Z : WIn Inv, w' = Z.world) := fun X' => calls_class_below hgo (by have h9 := ref10_Same_any A1 A1 p1 p2 X'.world (HRq1.out X').2 (HRq2.out X').2; rw [sk_same] at h9; exact h9)
 have K2 : Hid (∀ X' : WIn Inv, Calls Tryz.prog 13 #[.agg #[.int .i64 A2.kind, .int .i64 A2.level, .slice p3.ea p3.el p3.ec, .int .i64 A2.hb, .string A2.hr, .int .i64 A2.cr, .int .i64 A2.cc, .slice p3.ca p3.cl p3.cc, .int .i64 A2.gf, .slice p3.ga p3.gl p3.gc], .agg #[.int .i64 A2.kind, .int .i64 A2.level, .slice p4.ea p4.el p4.ec, .int .i64 A2.hb, .string A2.hr, .int .i64 A2.cr, .int .i64 A2.cc, .slice p4.ca p4.cl p4.cc, .int .i64 A2.gf, .slice p4.ga p4.gl p4.gc]] X'.world fun e w' => e = .returned (.bool true) ∧ ∃ Z : WIn Inv, w' = Z.world) := fun X' => calls_class_below hgo (by have h9 := ref10_Same_any A2 A2 p3 p4 X'.world (HRq3.out X').2 (HRq4.out X').2; rw [sk_same] at h9; exact h9)
 have K3 : Hid (∀ X' : WIn Inv, Calls Tryz.prog 13 #[.agg #[.int .i64 A3.kind, .int .i64 A3.level, .slice p5.ea p5.el p5.ec, .int .i64 A3.hb, .string A3.hr, .int .i64 A3.cr, .int .i64 A3.cc, .slice p5.ca p5.cl p5.cc, .int .i64 A3.gf, .slice p5.ga p5.gl p5.gc], .agg #[.int .i64 A3.kind, .int .i64 A3.level, .slice p6.ea p6.el p6.ec, .int .i64 A3.hb, .string A3.hr, .int .i64 A3.cr, .int .i64 A3.cc, .slice p6.ca p6.cl p6.cc, .int .i64 A3.gf, .slice p6.ga p6.gl p6.gc]] X'.world fun e w' => e = .returned (.bool true) ∧ ∃ Z : WIn Inv, w' = Z.world) := fun X' => calls_class_below hgo (by have h9 := ref10_Same_any A3 A3 p5 p6 X'.world (HRq5.out X').2 (HRq6.out X').2; rw [sk_same] at h9; exact h9)
 obtain ⟨bs, hbs⟩ : ∃ b, skSame X Y = b := ⟨_, rfl⟩
 have hBB : ∀ z : Bool, (z == z) = true := fun z => beq_self_eq_true z
 have K4 : Hid (∀ X' : WIn Inv, Calls Tryz.prog 13 #[.agg #[.int .i64 X.kind, .int .i64 X.level, .slice S.ea S.el S.ec, .int .i64 X.hb, .string X.hr, .int .i64 X.cr, .int .i64 X.cc, .slice S.ca S.cl S.cc, .int .i64 X.gf, .slice S.ga S.gl S.gc], .agg #[.int .i64 Y.kind, .int .i64 Y.level, .slice T.ea T.el T.ec, .int .i64 Y.hb, .string Y.hr, .int .i64 Y.cr, .int .i64 Y.cc, .slice T.ca T.cl T.cc, .int .i64 Y.gf, .slice T.ga T.gl T.gc]] X'.world fun e w' => e = .returned (.bool bs) ∧ ∃ Z : WIn Inv, w' = Z.world) := fun X' => calls_class_below hgo (by have h9 := ref10_Same_any X Y S T X'.world (HXq.out X').2.2.1 (HXq.out X').2.2.2; rw [hbs] at h9; exact h9)
 have K5 : Hid (∀ X' : WIn Inv, Calls Tryz.prog 14 #[.agg #[.int .i64 X.kind, .int .i64 X.level, .slice S.ea S.el S.ec, .int .i64 X.hb, .string X.hr, .int .i64 X.cr, .int .i64 X.cc, .slice S.ca S.cl S.cc, .int .i64 X.gf, .slice S.ga S.gl S.gc], .agg #[.int .i64 Y.kind, .int .i64 Y.level, .slice T.ea T.el T.ec, .int .i64 Y.hb, .string Y.hr, .int .i64 Y.cr, .int .i64 Y.cc, .slice T.ca T.cl T.cc, .int .i64 Y.gf, .slice T.ga T.gl T.gc]] X'.world fun e w' => e = .returned (.bool bs) ∧ ∃ Z : WIn Inv, w' = Z.world) := fun X' => calls_class_below hgo (by have h9 := ladder_Same_any X Y S T X'.world (HXq.out X').2.2.1 (HXq.out X').2.2.2; rw [hbs] at h9; exact h9)
 have K6 : Hid (∀ X' : WIn Inv, Calls Tryz.prog 14 #[.agg #[.int .i64 X.kind, .int .i64 X.level, .slice S.ea S.el S.ec, .int .i64 X.hb, .string X.hr, .int .i64 X.cr, .int .i64 X.cc, .slice S.ca S.cl S.cc, .int .i64 X.gf, .slice S.ga S.gl S.gc], .agg #[.int .i64 X.kind, .int .i64 X.level, .slice S.ea S.el S.ec, .int .i64 X.hb, .string X.hr, .int .i64 X.cr, .int .i64 X.cc, .slice S.ca S.cl S.cc, .int .i64 X.gf, .slice S.ga S.gl S.gc]] X'.world fun e w' => e = .returned (.bool true) ∧ ∃ Z : WIn Inv, w' = Z.world) := fun X' => calls_class_below hgo (by have h9 := ladder_Same_any X X S S X'.world (HXq.out X').2.2.1 (HXq.out X').2.2.1; rw [sk_same] at h9; exact h9)
 have HQ : Hid (∀ X' : WIn Inv, Below W6.heap.size W6 X'.world) := fun X' => X'.ok
 have hI0 : Hid (Inv (World.drew W6)) := (Below.refl _ _).drew
 have hne : Nonempty (WIn Inv) := ⟨⟨_, hI0.out⟩⟩
 clear hgo hbs m6_0 n6_0 m6_1 n6_1 m6_2 n6_2 m6_3 n6_3 m6_4 n6_4 m6_5 n6_5 m6_6 n6_6 m6_7 n6_7 m6_8 n6_8 m6_9 n6_9 e6_1 e6_2 e6_3 e6_4 e6_5 e6_6 e6_7 e6_8 e6_9 z6_0 z6_1 z6_2 z6_3 z6_4 z6_5 z6_6 z6_7 z6_8 z6_9
 clear_value Inv
 refine wp_region_class Inv (by kernel_rfl) (by kernel_rfl) hI0.out ?_
 repeat (first
  | go_big_quiet_step (first | (go_at_call 13; with_reducible first | exact K1.out _ | exact K2.out _ | exact K3.out _ | exact K4.out _) | (go_at_call 14; with_reducible first | exact K5.out _ | exact K6.out _))
  | quiet_step (first | (go_at_call 13; with_reducible first | exact K1.out _ | exact K2.out _ | exact K3.out _ | exact K4.out _) | (go_at_call 14; with_reducible first | exact K5.out _ | exact K6.out _)))
 refine wpQuiet_nil ?_
 rintro _ ⟨X', rfl⟩
 have HBX := HQ.out X'
 go_wp2_with fail
 go_ret
 exact ⟨rfl, HBW.out.trans (HBX.mono HBW.out.size)⟩
end Go.Proofs.YtcbbenncdainfaaGreatDoor
