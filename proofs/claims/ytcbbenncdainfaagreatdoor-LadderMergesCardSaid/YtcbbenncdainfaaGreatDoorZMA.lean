/- Package ladder: sketches that are wrong: Lower, To, Add, Merge, Ask. Printed by gen_lw.py. Package exact: Merge. Printed by gen_ma.py. -/
import Derived.Test.YtcbbenncdainfaaGreatDoorZLQ
namespace Go.Proofs.YtcbbenncdainfaaGreatDoor
open Go Go.RowKit Go.Shelf
theorem open_no (x : Sk) (s : SS) (w : World) (hx : s.At w.heap.size w x) (hs : s.Short) (hf : x.fit) (h : skOk x = false) :
  Calls Tryz.prog 31 #[.agg #[.int .i64 x.kind, .int .i64 x.level, .slice s.ea s.el s.ec, .int .i64 x.hb, .string x.hr, .int .i64 x.cr, .int .i64 x.cc, .slice s.ca s.cl s.cc, .int .i64 x.gf, .slice s.ga s.gl s.gc]] w fun e w' => ∃ f, e = .returned (.tuple #[.agg #[.nilIface, .int .i64 0, .int .i64 0], .iface 97 (.pointer (some ⟨f, 0, none⟩))]) ∧ w'.heap[f]? = some (.cells #[.int .i64 100] 99 (0, 0)) ∧ Below w.heap.size w w' := by
 have h0 := open_any x s w hx hs hf
 rw [h] at h0
 refine h0.mono ?_
 rintro e w' ⟨h1, hb⟩
 simp only [Bool.false_eq_true, if_false] at h1
 obtain ⟨b, rfl, hc, -⟩ := h1
 exact ⟨b, rfl, hc, hb⟩
set_option maxRecDepth 100000 in
set_option maxHeartbeats 2000000 in
theorem told_faultW (x0 x1 x2 : Value) (f : Value) (no : Int) (w : World) (hf : FaultAt w f no) (hg : GT w) :
  Calls Tryz.prog 32 #[.agg #[x0, x1, x2], f] w fun e w' => e = .returned (.tuple #[.agg #[.int .i64 0, .int .i64 0, .slice none 0 0, .int .i64 0, .string ⟨#[]⟩, .int .i64 0, .int .i64 0, .slice none 0 0, .int .i64 0, .slice none 0 0], .int .i64 no]) ∧ Below w.heap.size w w' := by
 obtain ⟨W0, hW0, hXp, hXr, hB0, hs0⟩ := boxes2 w #[x0, x1, x2] 60 #[.int .i64 0, .int .i64 0, .slice none 0 0, .int .i64 0, .string ⟨#[]⟩, .int .i64 0, .int .i64 0, .slice none 0 0, .int .i64 0, .slice none 0 0] 33
 have hf0 : FaultAt W0 f no := by
  obtain ⟨b, e, h⟩ := hf
  exact ⟨b, e, known hB0 (Nat.le_refl _) h⟩
 have HE := Lib.hid (errno_fault f no W0 (hg.go hB0) hf0)
 obtain ⟨b, rfl, -⟩ := hf
 have HXR := Lib.hid hXr
 have HB0 := Lib.hid hB0
 clear hXp hXr hB0 hf0 hg
 go_enter Tryz.func32, Tryz.ntmps32
 go_wp2_with fail
 refine HE.out.mono ?_
 rintro e w1 ⟨rfl, hb1⟩
 have hR1 := known hb1 (Nat.le_refl _) HXR.out
 have r10 : w1.cell? ⟨w.heap.size + 1, 0, none⟩ = some (.int .i64 0) := cCc hR1 0
 have r11 : w1.cell? ⟨w.heap.size + 1, 1, none⟩ = some (.int .i64 0) := cCc hR1 1
 have r12 : w1.cell? ⟨w.heap.size + 1, 2, none⟩ = some (.slice none 0 0) := cCc hR1 2
 have r13 : w1.cell? ⟨w.heap.size + 1, 3, none⟩ = some (.int .i64 0) := cCc hR1 3
 have r14 : w1.cell? ⟨w.heap.size + 1, 4, none⟩ = some (.string ⟨#[]⟩) := cCc hR1 4
 have r15 : w1.cell? ⟨w.heap.size + 1, 5, none⟩ = some (.int .i64 0) := cCc hR1 5
 have r16 : w1.cell? ⟨w.heap.size + 1, 6, none⟩ = some (.int .i64 0) := cCc hR1 6
 have r17 : w1.cell? ⟨w.heap.size + 1, 7, none⟩ = some (.slice none 0 0) := cCc hR1 7
 have r18 : w1.cell? ⟨w.heap.size + 1, 8, none⟩ = some (.int .i64 0) := cCc hR1 8
 have r19 : w1.cell? ⟨w.heap.size + 1, 9, none⟩ = some (.slice none 0 0) := cCc hR1 9
 have f10 : w1.frozen? ⟨w.heap.size + 1, 0, none⟩ = false := cFz hR1 0
 have f11 : w1.frozen? ⟨w.heap.size + 1, 1, none⟩ = false := cFz hR1 1
 have f12 : w1.frozen? ⟨w.heap.size + 1, 2, none⟩ = false := cFz hR1 2
 have f13 : w1.frozen? ⟨w.heap.size + 1, 3, none⟩ = false := cFz hR1 3
 have f14 : w1.frozen? ⟨w.heap.size + 1, 4, none⟩ = false := cFz hR1 4
 have f15 : w1.frozen? ⟨w.heap.size + 1, 5, none⟩ = false := cFz hR1 5
 have f16 : w1.frozen? ⟨w.heap.size + 1, 6, none⟩ = false := cFz hR1 6
 have f17 : w1.frozen? ⟨w.heap.size + 1, 7, none⟩ = false := cFz hR1 7
 have f18 : w1.frozen? ⟨w.heap.size + 1, 8, none⟩ = false := cFz hR1 8
 have f19 : w1.frozen? ⟨w.heap.size + 1, 9, none⟩ = false := cFz hR1 9
 have e0 : w1.setCell ⟨w.heap.size + 1, 0, none⟩ (.int .i64 0) = w1 := set_same hR1 rfl
 have e1 : w1.setCell ⟨w.heap.size + 1, 1, none⟩ (.int .i64 0) = w1 := set_same hR1 rfl
 have e2 : w1.setCell ⟨w.heap.size + 1, 2, none⟩ (.slice none 0 0) = w1 := set_same hR1 rfl
 have e3 : w1.setCell ⟨w.heap.size + 1, 3, none⟩ (.int .i64 0) = w1 := set_same hR1 rfl
 have e4 : w1.setCell ⟨w.heap.size + 1, 4, none⟩ (.string ⟨#[]⟩) = w1 := set_same hR1 rfl
 have e5 : w1.setCell ⟨w.heap.size + 1, 5, none⟩ (.int .i64 0) = w1 := set_same hR1 rfl
 have e6 : w1.setCell ⟨w.heap.size + 1, 6, none⟩ (.int .i64 0) = w1 := set_same hR1 rfl
 have e7 : w1.setCell ⟨w.heap.size + 1, 7, none⟩ (.slice none 0 0) = w1 := set_same hR1 rfl
 have e8 : w1.setCell ⟨w.heap.size + 1, 8, none⟩ (.int .i64 0) = w1 := set_same hR1 rfl
 have e9 : w1.setCell ⟨w.heap.size + 1, 9, none⟩ (.slice none 0 0) = w1 := set_same hR1 rfl
 have HBW : Hid (Below w.heap.size w w1) := HB0.out.trans (hb1.mono HB0.out.size)
 clear hR1 hb1
 go_wp2_with fail
 exact bodyPost_ret (v := .tuple #[.agg #[.int .i64 0, .int .i64 0, .slice none 0 0, .int .i64 0, .string ⟨#[]⟩, .int .i64 0, .int .i64 0, .slice none 0 0, .int .i64 0, .slice none 0 0], .int .i64 no]) (by simp [results, Tryz.f32, go_sem, r10, r11, r12, r13, r14, r15, r16, r17, r18, r19]) rfl ⟨rfl, HBW.out⟩
set_option maxRecDepth 100000 in
set_option maxHeartbeats 2000000 in
theorem Lower_no (x : Sk) (s : SS) (w : World) (hx : s.At w.heap.size w x) (hs : s.Short) (hf : x.fit) (h : skOk x = false) (hg : GT w) :
  Calls Tryz.prog 9 #[.agg #[.int .i64 x.kind, .int .i64 x.level, .slice s.ea s.el s.ec, .int .i64 x.hb, .string x.hr, .int .i64 x.cr, .int .i64 x.cc, .slice s.ca s.cl s.cc, .int .i64 x.gf, .slice s.ga s.gl s.gc]] w fun e w' => e = .returned (.tuple #[.agg #[.int .i64 0, .int .i64 0, .slice none 0 0, .int .i64 0, .string ⟨#[]⟩, .int .i64 0, .int .i64 0, .slice none 0 0, .int .i64 0, .slice none 0 0], .int .i64 100]) ∧ Below w.heap.size w w' := by
 obtain ⟨W0, hW0, hXp, hXr, hB0, hs0⟩ := boxes2 w #[.int .i64 x.kind, .int .i64 x.level, .slice s.ea s.el s.ec, .int .i64 x.hb, .string x.hr, .int .i64 x.cr, .int .i64 x.cc, .slice s.ca s.cl s.cc, .int .i64 x.gf, .slice s.ga s.gl s.gc] 33 #[.int .i64 0, .int .i64 0, .slice none 0 0, .int .i64 0, .string ⟨#[]⟩, .int .i64 0, .int .i64 0, .slice none 0 0, .int .i64 0, .slice none 0 0] 33
 have HO := Lib.hid (open_no x s W0 (hx.go hB0) hs hf h)
 obtain ⟨c0, c1, c2, c3, c4, c5, c6, c7, c8, c9⟩ := cl10 hXp
 have HGT := Lib.hid (hg.go hB0)
 have HXR := Lib.hid hXr
 have HB0 := Lib.hid hB0
 clear hXp hXr hB0 hx hs hf h hg
 go_enter Tryz.func9, Tryz.ntmps9
 go_wp2_with fail
 refine HO.out.mono ?_
 rintro e w1 ⟨fb, rfl, hf1, hb1⟩
 obtain ⟨W2, hW2, hX2, hB2, hs2⟩ := boxes1 w1 #[.nilIface, .int .i64 0, .int .i64 0] 60
 obtain ⟨d0, d1, d2⟩ := cl3 hX2
 have z20 : W2.frozen? ⟨w1.heap.size, 0, none⟩ = false := cFz hX2 0
 have z21 : W2.frozen? ⟨w1.heap.size, 1, none⟩ = false := cFz hX2 1
 have z22 : W2.frozen? ⟨w1.heap.size, 2, none⟩ = false := cFz hX2 2
 have zs0 : W2.setCell ⟨w1.heap.size, 0, none⟩ .nilIface = W2 := set_same hX2 rfl
 have zs1 : W2.setCell ⟨w1.heap.size, 1, none⟩ (.int .i64 0) = W2 := set_same hX2 rfl
 have zs2 : W2.setCell ⟨w1.heap.size, 2, none⟩ (.int .i64 0) = W2 := set_same hX2 rfl
 have hb02 := hb1.trans (hB2.mono hb1.size)
 have HN := Lib.hid (told_faultW .nilIface (.int .i64 0) (.int .i64 0) _ 100 W2 ⟨fb, rfl, (hB2.block _ (Array.getElem?_eq_some_iff.1 hf1).1).trans hf1⟩ (HGT.out.go hb02))
 have HR2 : Hid (W2.heap[w.heap.size + 1]? = some (.cells #[.int .i64 0, .int .i64 0, .slice none 0 0, .int .i64 0, .string ⟨#[]⟩, .int .i64 0, .int .i64 0, .slice none 0 0, .int .i64 0, .slice none 0 0] 33 (0, 0))) := known hb02 (Nat.le_refl _) HXR.out
 have HB02 : Hid (Below w.heap.size w W2) := HB0.out.trans (hb02.mono HB0.out.size)
 clear hf1 hb1 hX2 hB2 hb02
 go_wp2_with fail
 refine HN.out.mono ?_
 rintro e w3 ⟨rfl, hb3⟩
 have hR3 := known hb3 (Nat.le_refl _) HR2.out
 have r30 : w3.cell? ⟨w.heap.size + 1, 0, none⟩ = some (.int .i64 0) := cCc hR3 0
 have r31 : w3.cell? ⟨w.heap.size + 1, 1, none⟩ = some (.int .i64 0) := cCc hR3 1
 have r32 : w3.cell? ⟨w.heap.size + 1, 2, none⟩ = some (.slice none 0 0) := cCc hR3 2
 have r33 : w3.cell? ⟨w.heap.size + 1, 3, none⟩ = some (.int .i64 0) := cCc hR3 3
 have r34 : w3.cell? ⟨w.heap.size + 1, 4, none⟩ = some (.string ⟨#[]⟩) := cCc hR3 4
 have r35 : w3.cell? ⟨w.heap.size + 1, 5, none⟩ = some (.int .i64 0) := cCc hR3 5
 have r36 : w3.cell? ⟨w.heap.size + 1, 6, none⟩ = some (.int .i64 0) := cCc hR3 6
 have r37 : w3.cell? ⟨w.heap.size + 1, 7, none⟩ = some (.slice none 0 0) := cCc hR3 7
 have r38 : w3.cell? ⟨w.heap.size + 1, 8, none⟩ = some (.int .i64 0) := cCc hR3 8
 have r39 : w3.cell? ⟨w.heap.size + 1, 9, none⟩ = some (.slice none 0 0) := cCc hR3 9
 have f30 : w3.frozen? ⟨w.heap.size + 1, 0, none⟩ = false := cFz hR3 0
 have f31 : w3.frozen? ⟨w.heap.size + 1, 1, none⟩ = false := cFz hR3 1
 have f32 : w3.frozen? ⟨w.heap.size + 1, 2, none⟩ = false := cFz hR3 2
 have f33 : w3.frozen? ⟨w.heap.size + 1, 3, none⟩ = false := cFz hR3 3
 have f34 : w3.frozen? ⟨w.heap.size + 1, 4, none⟩ = false := cFz hR3 4
 have f35 : w3.frozen? ⟨w.heap.size + 1, 5, none⟩ = false := cFz hR3 5
 have f36 : w3.frozen? ⟨w.heap.size + 1, 6, none⟩ = false := cFz hR3 6
 have f37 : w3.frozen? ⟨w.heap.size + 1, 7, none⟩ = false := cFz hR3 7
 have f38 : w3.frozen? ⟨w.heap.size + 1, 8, none⟩ = false := cFz hR3 8
 have f39 : w3.frozen? ⟨w.heap.size + 1, 9, none⟩ = false := cFz hR3 9
 have e0 : w3.setCell ⟨w.heap.size + 1, 0, none⟩ (.int .i64 0) = w3 := set_same hR3 rfl
 have e1 : w3.setCell ⟨w.heap.size + 1, 1, none⟩ (.int .i64 0) = w3 := set_same hR3 rfl
 have e2 : w3.setCell ⟨w.heap.size + 1, 2, none⟩ (.slice none 0 0) = w3 := set_same hR3 rfl
 have e3 : w3.setCell ⟨w.heap.size + 1, 3, none⟩ (.int .i64 0) = w3 := set_same hR3 rfl
 have e4 : w3.setCell ⟨w.heap.size + 1, 4, none⟩ (.string ⟨#[]⟩) = w3 := set_same hR3 rfl
 have e5 : w3.setCell ⟨w.heap.size + 1, 5, none⟩ (.int .i64 0) = w3 := set_same hR3 rfl
 have e6 : w3.setCell ⟨w.heap.size + 1, 6, none⟩ (.int .i64 0) = w3 := set_same hR3 rfl
 have e7 : w3.setCell ⟨w.heap.size + 1, 7, none⟩ (.slice none 0 0) = w3 := set_same hR3 rfl
 have e8 : w3.setCell ⟨w.heap.size + 1, 8, none⟩ (.int .i64 0) = w3 := set_same hR3 rfl
 have e9 : w3.setCell ⟨w.heap.size + 1, 9, none⟩ (.slice none 0 0) = w3 := set_same hR3 rfl
 have HBU : Hid (Below w.heap.size w w3) := HB02.out.trans (hb3.mono HB02.out.size)
 clear hR3 hb3
 go_wp2_with fail
 exact bodyPost_ret (v := .tuple #[.agg #[.int .i64 0, .int .i64 0, .slice none 0 0, .int .i64 0, .string ⟨#[]⟩, .int .i64 0, .int .i64 0, .slice none 0 0, .int .i64 0, .slice none 0 0], .int .i64 100]) (by simp [results, Tryz.f9, go_sem, r30, r31, r32, r33, r34, r35, r36, r37, r38, r39]) rfl ⟨rfl, HBU.out⟩
set_option maxRecDepth 100000 in
set_option maxHeartbeats 2000000 in
theorem To_no (x : Sk) (s : SS) (t : Int) (w : World) (hx : s.At w.heap.size w x) (hs : s.Short) (hf : x.fit) (h : skOk x = false) (hg : GT w) :
  Calls Tryz.prog 11 #[.agg #[.int .i64 x.kind, .int .i64 x.level, .slice s.ea s.el s.ec, .int .i64 x.hb, .string x.hr, .int .i64 x.cr, .int .i64 x.cc, .slice s.ca s.cl s.cc, .int .i64 x.gf, .slice s.ga s.gl s.gc], .int .i64 t] w fun e w' => e = .returned (.tuple #[.agg #[.int .i64 0, .int .i64 0, .slice none 0 0, .int .i64 0, .string ⟨#[]⟩, .int .i64 0, .int .i64 0, .slice none 0 0, .int .i64 0, .slice none 0 0], .int .i64 100]) ∧ Below w.heap.size w w' := by
 obtain ⟨W0, hW0, hXp, hXr, hB0, hs0⟩ := boxes2 w #[.int .i64 x.kind, .int .i64 x.level, .slice s.ea s.el s.ec, .int .i64 x.hb, .string x.hr, .int .i64 x.cr, .int .i64 x.cc, .slice s.ca s.cl s.cc, .int .i64 x.gf, .slice s.ga s.gl s.gc] 33 #[.int .i64 0, .int .i64 0, .slice none 0 0, .int .i64 0, .string ⟨#[]⟩, .int .i64 0, .int .i64 0, .slice none 0 0, .int .i64 0, .slice none 0 0] 33
 have HO := Lib.hid (open_no x s W0 (hx.go hB0) hs hf h)
 obtain ⟨c0, c1, c2, c3, c4, c5, c6, c7, c8, c9⟩ := cl10 hXp
 have HGT := Lib.hid (hg.go hB0)
 have HXR := Lib.hid hXr
 have HB0 := Lib.hid hB0
 clear hXp hXr hB0 hx hs hf h hg
 go_enter Tryz.func11, Tryz.ntmps11
 go_wp2_with fail
 refine HO.out.mono ?_
 rintro e w1 ⟨fb, rfl, hf1, hb1⟩
 obtain ⟨W2, hW2, hX2, hB2, hs2⟩ := boxes1 w1 #[.nilIface, .int .i64 0, .int .i64 0] 60
 obtain ⟨d0, d1, d2⟩ := cl3 hX2
 have z20 : W2.frozen? ⟨w1.heap.size, 0, none⟩ = false := cFz hX2 0
 have z21 : W2.frozen? ⟨w1.heap.size, 1, none⟩ = false := cFz hX2 1
 have z22 : W2.frozen? ⟨w1.heap.size, 2, none⟩ = false := cFz hX2 2
 have zs0 : W2.setCell ⟨w1.heap.size, 0, none⟩ .nilIface = W2 := set_same hX2 rfl
 have zs1 : W2.setCell ⟨w1.heap.size, 1, none⟩ (.int .i64 0) = W2 := set_same hX2 rfl
 have zs2 : W2.setCell ⟨w1.heap.size, 2, none⟩ (.int .i64 0) = W2 := set_same hX2 rfl
 have hb02 := hb1.trans (hB2.mono hb1.size)
 have HN := Lib.hid (told_faultW .nilIface (.int .i64 0) (.int .i64 0) _ 100 W2 ⟨fb, rfl, (hB2.block _ (Array.getElem?_eq_some_iff.1 hf1).1).trans hf1⟩ (HGT.out.go hb02))
 have HR2 : Hid (W2.heap[w.heap.size + 1]? = some (.cells #[.int .i64 0, .int .i64 0, .slice none 0 0, .int .i64 0, .string ⟨#[]⟩, .int .i64 0, .int .i64 0, .slice none 0 0, .int .i64 0, .slice none 0 0] 33 (0, 0))) := known hb02 (Nat.le_refl _) HXR.out
 have HB02 : Hid (Below w.heap.size w W2) := HB0.out.trans (hb02.mono HB0.out.size)
 clear hf1 hb1 hX2 hB2 hb02
 go_wp2_with fail
 refine HN.out.mono ?_
 rintro e w3 ⟨rfl, hb3⟩
 have hR3 := known hb3 (Nat.le_refl _) HR2.out
 have r30 : w3.cell? ⟨w.heap.size + 1, 0, none⟩ = some (.int .i64 0) := cCc hR3 0
 have r31 : w3.cell? ⟨w.heap.size + 1, 1, none⟩ = some (.int .i64 0) := cCc hR3 1
 have r32 : w3.cell? ⟨w.heap.size + 1, 2, none⟩ = some (.slice none 0 0) := cCc hR3 2
 have r33 : w3.cell? ⟨w.heap.size + 1, 3, none⟩ = some (.int .i64 0) := cCc hR3 3
 have r34 : w3.cell? ⟨w.heap.size + 1, 4, none⟩ = some (.string ⟨#[]⟩) := cCc hR3 4
 have r35 : w3.cell? ⟨w.heap.size + 1, 5, none⟩ = some (.int .i64 0) := cCc hR3 5
 have r36 : w3.cell? ⟨w.heap.size + 1, 6, none⟩ = some (.int .i64 0) := cCc hR3 6
 have r37 : w3.cell? ⟨w.heap.size + 1, 7, none⟩ = some (.slice none 0 0) := cCc hR3 7
 have r38 : w3.cell? ⟨w.heap.size + 1, 8, none⟩ = some (.int .i64 0) := cCc hR3 8
 have r39 : w3.cell? ⟨w.heap.size + 1, 9, none⟩ = some (.slice none 0 0) := cCc hR3 9
 have f30 : w3.frozen? ⟨w.heap.size + 1, 0, none⟩ = false := cFz hR3 0
 have f31 : w3.frozen? ⟨w.heap.size + 1, 1, none⟩ = false := cFz hR3 1
 have f32 : w3.frozen? ⟨w.heap.size + 1, 2, none⟩ = false := cFz hR3 2
 have f33 : w3.frozen? ⟨w.heap.size + 1, 3, none⟩ = false := cFz hR3 3
 have f34 : w3.frozen? ⟨w.heap.size + 1, 4, none⟩ = false := cFz hR3 4
 have f35 : w3.frozen? ⟨w.heap.size + 1, 5, none⟩ = false := cFz hR3 5
 have f36 : w3.frozen? ⟨w.heap.size + 1, 6, none⟩ = false := cFz hR3 6
 have f37 : w3.frozen? ⟨w.heap.size + 1, 7, none⟩ = false := cFz hR3 7
 have f38 : w3.frozen? ⟨w.heap.size + 1, 8, none⟩ = false := cFz hR3 8
 have f39 : w3.frozen? ⟨w.heap.size + 1, 9, none⟩ = false := cFz hR3 9
 have e0 : w3.setCell ⟨w.heap.size + 1, 0, none⟩ (.int .i64 0) = w3 := set_same hR3 rfl
 have e1 : w3.setCell ⟨w.heap.size + 1, 1, none⟩ (.int .i64 0) = w3 := set_same hR3 rfl
 have e2 : w3.setCell ⟨w.heap.size + 1, 2, none⟩ (.slice none 0 0) = w3 := set_same hR3 rfl
 have e3 : w3.setCell ⟨w.heap.size + 1, 3, none⟩ (.int .i64 0) = w3 := set_same hR3 rfl
 have e4 : w3.setCell ⟨w.heap.size + 1, 4, none⟩ (.string ⟨#[]⟩) = w3 := set_same hR3 rfl
 have e5 : w3.setCell ⟨w.heap.size + 1, 5, none⟩ (.int .i64 0) = w3 := set_same hR3 rfl
 have e6 : w3.setCell ⟨w.heap.size + 1, 6, none⟩ (.int .i64 0) = w3 := set_same hR3 rfl
 have e7 : w3.setCell ⟨w.heap.size + 1, 7, none⟩ (.slice none 0 0) = w3 := set_same hR3 rfl
 have e8 : w3.setCell ⟨w.heap.size + 1, 8, none⟩ (.int .i64 0) = w3 := set_same hR3 rfl
 have e9 : w3.setCell ⟨w.heap.size + 1, 9, none⟩ (.slice none 0 0) = w3 := set_same hR3 rfl
 have HBU : Hid (Below w.heap.size w w3) := HB02.out.trans (hb3.mono HB02.out.size)
 clear hR3 hb3
 go_wp2_with fail
 exact bodyPost_ret (v := .tuple #[.agg #[.int .i64 0, .int .i64 0, .slice none 0 0, .int .i64 0, .string ⟨#[]⟩, .int .i64 0, .int .i64 0, .slice none 0 0, .int .i64 0, .slice none 0 0], .int .i64 100]) (by simp [results, Tryz.f11, go_sem, r30, r31, r32, r33, r34, r35, r36, r37, r38, r39]) rfl ⟨rfl, HBU.out⟩
set_option maxRecDepth 100000 in
set_option maxHeartbeats 2000000 in
theorem Merge_no1 (x : Sk) (s : SS) (y : Sk) (p : SS) (w : World) (hx : s.At w.heap.size w x) (hs : s.Short) (hf : x.fit) (h : skOk x = false) (hg : GT w) :
  Calls Tryz.prog 7 #[.agg #[.int .i64 x.kind, .int .i64 x.level, .slice s.ea s.el s.ec, .int .i64 x.hb, .string x.hr, .int .i64 x.cr, .int .i64 x.cc, .slice s.ca s.cl s.cc, .int .i64 x.gf, .slice s.ga s.gl s.gc], .agg #[.int .i64 y.kind, .int .i64 y.level, .slice p.ea p.el p.ec, .int .i64 y.hb, .string y.hr, .int .i64 y.cr, .int .i64 y.cc, .slice p.ca p.cl p.cc, .int .i64 y.gf, .slice p.ga p.gl p.gc]] w fun e w' => e = .returned (.tuple #[.agg #[.int .i64 0, .int .i64 0, .slice none 0 0, .int .i64 0, .string ⟨#[]⟩, .int .i64 0, .int .i64 0, .slice none 0 0, .int .i64 0, .slice none 0 0], .int .i64 100]) ∧ Below w.heap.size w w' := by
 obtain ⟨W0, hW0, hXp, hXi0, hXr, hB0, hs0⟩ := boxes3 w #[.int .i64 x.kind, .int .i64 x.level, .slice s.ea s.el s.ec, .int .i64 x.hb, .string x.hr, .int .i64 x.cr, .int .i64 x.cc, .slice s.ca s.cl s.cc, .int .i64 x.gf, .slice s.ga s.gl s.gc] 33 #[.int .i64 y.kind, .int .i64 y.level, .slice p.ea p.el p.ec, .int .i64 y.hb, .string y.hr, .int .i64 y.cr, .int .i64 y.cc, .slice p.ca p.cl p.cc, .int .i64 y.gf, .slice p.ga p.gl p.gc] 33 #[.int .i64 0, .int .i64 0, .slice none 0 0, .int .i64 0, .string ⟨#[]⟩, .int .i64 0, .int .i64 0, .slice none 0 0, .int .i64 0, .slice none 0 0] 33
 have HO := Lib.hid (open_no x s W0 (hx.go hB0) hs hf h)
 obtain ⟨c0, c1, c2, c3, c4, c5, c6, c7, c8, c9⟩ := cl10 hXp
 have HGT := Lib.hid (hg.go hB0)
 have HXR := Lib.hid hXr
 have HB0 := Lib.hid hB0
 clear hXp hXi0 hXr hB0 hx hs hf h hg
 go_enter Tryz.func7, Tryz.ntmps7
 go_wp2_with fail
 refine HO.out.mono ?_
 rintro e w1 ⟨fb, rfl, hf1, hb1⟩
 obtain ⟨W2, hW2, hX2, hB2, hs2⟩ := boxes1 w1 #[.nilIface, .int .i64 0, .int .i64 0] 60
 obtain ⟨d0, d1, d2⟩ := cl3 hX2
 have z20 : W2.frozen? ⟨w1.heap.size, 0, none⟩ = false := cFz hX2 0
 have z21 : W2.frozen? ⟨w1.heap.size, 1, none⟩ = false := cFz hX2 1
 have z22 : W2.frozen? ⟨w1.heap.size, 2, none⟩ = false := cFz hX2 2
 have zs0 : W2.setCell ⟨w1.heap.size, 0, none⟩ .nilIface = W2 := set_same hX2 rfl
 have zs1 : W2.setCell ⟨w1.heap.size, 1, none⟩ (.int .i64 0) = W2 := set_same hX2 rfl
 have zs2 : W2.setCell ⟨w1.heap.size, 2, none⟩ (.int .i64 0) = W2 := set_same hX2 rfl
 have hb02 := hb1.trans (hB2.mono hb1.size)
 have HN := Lib.hid (told_faultW .nilIface (.int .i64 0) (.int .i64 0) _ 100 W2 ⟨fb, rfl, (hB2.block _ (Array.getElem?_eq_some_iff.1 hf1).1).trans hf1⟩ (HGT.out.go hb02))
 have HR2 : Hid (W2.heap[w.heap.size + 2]? = some (.cells #[.int .i64 0, .int .i64 0, .slice none 0 0, .int .i64 0, .string ⟨#[]⟩, .int .i64 0, .int .i64 0, .slice none 0 0, .int .i64 0, .slice none 0 0] 33 (0, 0))) := known hb02 (Nat.le_refl _) HXR.out
 have HB02 : Hid (Below w.heap.size w W2) := HB0.out.trans (hb02.mono HB0.out.size)
 clear hf1 hb1 hX2 hB2 hb02
 go_wp2_with fail
 refine HN.out.mono ?_
 rintro e w3 ⟨rfl, hb3⟩
 have hR3 := known hb3 (Nat.le_refl _) HR2.out
 have r30 : w3.cell? ⟨w.heap.size + 2, 0, none⟩ = some (.int .i64 0) := cCc hR3 0
 have r31 : w3.cell? ⟨w.heap.size + 2, 1, none⟩ = some (.int .i64 0) := cCc hR3 1
 have r32 : w3.cell? ⟨w.heap.size + 2, 2, none⟩ = some (.slice none 0 0) := cCc hR3 2
 have r33 : w3.cell? ⟨w.heap.size + 2, 3, none⟩ = some (.int .i64 0) := cCc hR3 3
 have r34 : w3.cell? ⟨w.heap.size + 2, 4, none⟩ = some (.string ⟨#[]⟩) := cCc hR3 4
 have r35 : w3.cell? ⟨w.heap.size + 2, 5, none⟩ = some (.int .i64 0) := cCc hR3 5
 have r36 : w3.cell? ⟨w.heap.size + 2, 6, none⟩ = some (.int .i64 0) := cCc hR3 6
 have r37 : w3.cell? ⟨w.heap.size + 2, 7, none⟩ = some (.slice none 0 0) := cCc hR3 7
 have r38 : w3.cell? ⟨w.heap.size + 2, 8, none⟩ = some (.int .i64 0) := cCc hR3 8
 have r39 : w3.cell? ⟨w.heap.size + 2, 9, none⟩ = some (.slice none 0 0) := cCc hR3 9
 have f30 : w3.frozen? ⟨w.heap.size + 2, 0, none⟩ = false := cFz hR3 0
 have f31 : w3.frozen? ⟨w.heap.size + 2, 1, none⟩ = false := cFz hR3 1
 have f32 : w3.frozen? ⟨w.heap.size + 2, 2, none⟩ = false := cFz hR3 2
 have f33 : w3.frozen? ⟨w.heap.size + 2, 3, none⟩ = false := cFz hR3 3
 have f34 : w3.frozen? ⟨w.heap.size + 2, 4, none⟩ = false := cFz hR3 4
 have f35 : w3.frozen? ⟨w.heap.size + 2, 5, none⟩ = false := cFz hR3 5
 have f36 : w3.frozen? ⟨w.heap.size + 2, 6, none⟩ = false := cFz hR3 6
 have f37 : w3.frozen? ⟨w.heap.size + 2, 7, none⟩ = false := cFz hR3 7
 have f38 : w3.frozen? ⟨w.heap.size + 2, 8, none⟩ = false := cFz hR3 8
 have f39 : w3.frozen? ⟨w.heap.size + 2, 9, none⟩ = false := cFz hR3 9
 have e0 : w3.setCell ⟨w.heap.size + 2, 0, none⟩ (.int .i64 0) = w3 := set_same hR3 rfl
 have e1 : w3.setCell ⟨w.heap.size + 2, 1, none⟩ (.int .i64 0) = w3 := set_same hR3 rfl
 have e2 : w3.setCell ⟨w.heap.size + 2, 2, none⟩ (.slice none 0 0) = w3 := set_same hR3 rfl
 have e3 : w3.setCell ⟨w.heap.size + 2, 3, none⟩ (.int .i64 0) = w3 := set_same hR3 rfl
 have e4 : w3.setCell ⟨w.heap.size + 2, 4, none⟩ (.string ⟨#[]⟩) = w3 := set_same hR3 rfl
 have e5 : w3.setCell ⟨w.heap.size + 2, 5, none⟩ (.int .i64 0) = w3 := set_same hR3 rfl
 have e6 : w3.setCell ⟨w.heap.size + 2, 6, none⟩ (.int .i64 0) = w3 := set_same hR3 rfl
 have e7 : w3.setCell ⟨w.heap.size + 2, 7, none⟩ (.slice none 0 0) = w3 := set_same hR3 rfl
 have e8 : w3.setCell ⟨w.heap.size + 2, 8, none⟩ (.int .i64 0) = w3 := set_same hR3 rfl
 have e9 : w3.setCell ⟨w.heap.size + 2, 9, none⟩ (.slice none 0 0) = w3 := set_same hR3 rfl
 have HBU : Hid (Below w.heap.size w w3) := HB02.out.trans (hb3.mono HB02.out.size)
 clear hR3 hb3
 go_wp2_with fail
 exact bodyPost_ret (v := .tuple #[.agg #[.int .i64 0, .int .i64 0, .slice none 0 0, .int .i64 0, .string ⟨#[]⟩, .int .i64 0, .int .i64 0, .slice none 0 0, .int .i64 0, .slice none 0 0], .int .i64 100]) (by simp [results, Tryz.f7, go_sem, r30, r31, r32, r33, r34, r35, r36, r37, r38, r39]) rfl ⟨rfl, HBU.out⟩
set_option maxRecDepth 100000 in
set_option maxHeartbeats 4000000 in
theorem Merge_no2 {k L1 : Nat} {B1 : Bd} {v1 : Value} (y : Sk) (p : SS) (w : World) (hok1 : B1.Ok k L1) (hv1 : SkB w v1 k L1 B1) (hy : p.At w.heap.size w y) (hs : p.Short) (hf : y.fit) (h : skOk y = false) (hg : GT w) :
  Calls Tryz.prog 7 #[v1, .agg #[.int .i64 y.kind, .int .i64 y.level, .slice p.ea p.el p.ec, .int .i64 y.hb, .string y.hr, .int .i64 y.cr, .int .i64 y.cc, .slice p.ca p.cl p.cc, .int .i64 y.gf, .slice p.ga p.gl p.gc]] w fun e w' => e = .returned (.tuple #[.agg #[.int .i64 0, .int .i64 0, .slice none 0 0, .int .i64 0, .string ⟨#[]⟩, .int .i64 0, .int .i64 0, .slice none 0 0, .int .i64 0, .slice none 0 0], .int .i64 100]) ∧ Below w.heap.size w w' := by
 obtain ⟨y1, s1, hy1, rfl, hA1⟩ := hv1
 obtain ⟨W0, hW0, hXa, hXb, hXr, hB0, hs0⟩ := boxes3 w #[.int .i64 y1.kind, .int .i64 y1.level, .slice s1.ea s1.el s1.ec, .int .i64 y1.hb, .string y1.hr, .int .i64 y1.cr, .int .i64 y1.cc, .slice s1.ca s1.cl s1.cc, .int .i64 y1.gf, .slice s1.ga s1.gl s1.gc] 33 #[.int .i64 y.kind, .int .i64 y.level, .slice p.ea p.el p.ec, .int .i64 y.hb, .string y.hr, .int .i64 y.cr, .int .i64 y.cc, .slice p.ca p.cl p.cc, .int .i64 y.gf, .slice p.ga p.gl p.gc] 33 #[.int .i64 0, .int .i64 0, .slice none 0 0, .int .i64 0, .string ⟨#[]⟩, .int .i64 0, .int .i64 0, .slice none 0 0, .int .i64 0, .slice none 0 0] 33
 have HO1 := Lib.hid (open_sk_any (w := W0) hok1 ⟨y1, s1, hy1, rfl, hA1.go hB0⟩)
 have HO2 := Lib.hid (fun W (hB : Below W0.heap.size W0 W) => open_no y p W ((hy.go hB0).go hB) hs hf h)
 obtain ⟨c0, c1, c2, c3, c4, c5, c6, c7, c8, c9⟩ := cl10 hXa
 have HGT := Lib.hid (hg.go hB0)
 have HXB := Lib.hid hXb
 have HXR := Lib.hid hXr
 have HB0 := Lib.hid hB0
 clear hXa hXb hXr hB0 hA1 hy1 hok1 hg hy hs hf h
 go_enter Tryz.func7, Tryz.ntmps7
 go_wp2_with fail
 refine HO1.out.mono ?_
 rintro e w1 ⟨b1, rfl, hb1, hB1⟩
 obtain ⟨T1, rv1, rfl⟩ := bd_iface hb1
 obtain ⟨W2, hW2, hX2, hB2, hs2⟩ := boxes1 w1 #[.iface T1 rv1, .int .i64 k, .int .i64 L1] 60
 have hb02 := hB1.trans (hB2.mono hB1.size)
 have HO2 := Lib.hid (HO2.out W2 hb02)
 have hY2 := known hb02 (Nat.le_refl _) HXB.out
 have HX2 := Lib.hid hX2
 have HB02 := Lib.hid hb02
 have hsz1 := hB1.size
 obtain ⟨d0, d1, d2, d3, d4, d5, d6, d7, d8, d9⟩ := cl10 hY2
 clear hb1 hB1 hX2 hB2 hb02 hY2
 go_wp2_with fail
 refine HO2.out.mono ?_
 rintro e w3 ⟨fb, rfl, hf3, hb23⟩
 obtain ⟨W4, hW4, hX4, hB4, hs4⟩ := boxes1 w3 #[.nilIface, .int .i64 0, .int .i64 0] 60
 have hb24 := hb23.trans (hB4.mono hb23.size)
 have hA4 := known hb24 (Nat.le_refl _) HX2.out
 have hb04 : Below W0.heap.size W0 W4 := HB02.out.trans (hb24.mono HB02.out.size)
 obtain ⟨q0, q1, q2⟩ := cl3 hA4
 obtain ⟨x0, x1, x2⟩ := cl3 hX4
 have z40 : W4.frozen? ⟨w3.heap.size, 0, none⟩ = false := cFz hX4 0
 have z41 : W4.frozen? ⟨w3.heap.size, 1, none⟩ = false := cFz hX4 1
 have z42 : W4.frozen? ⟨w3.heap.size, 2, none⟩ = false := cFz hX4 2
 have zs0 : W4.setCell ⟨w3.heap.size, 0, none⟩ .nilIface = W4 := set_same hX4 rfl
 have zs1 : W4.setCell ⟨w3.heap.size, 1, none⟩ (.int .i64 0) = W4 := set_same hX4 rfl
 have zs2 : W4.setCell ⟨w3.heap.size, 2, none⟩ (.int .i64 0) = W4 := set_same hX4 rfl
 have HN := Lib.hid (told_faultW (.iface T1 rv1) (.int .i64 k) (.int .i64 L1) _ 100 W4 ⟨fb, rfl, (hB4.block _ (Array.getElem?_eq_some_iff.1 hf3).1).trans hf3⟩ (HGT.out.go hb04))
 have HR4 : Hid (W4.heap[w.heap.size + 2]? = some (.cells #[.int .i64 0, .int .i64 0, .slice none 0 0, .int .i64 0, .string ⟨#[]⟩, .int .i64 0, .int .i64 0, .slice none 0 0, .int .i64 0, .slice none 0 0] 33 (0, 0))) := known hb04 (Nat.le_refl _) HXR.out
 have HB04 : Hid (Below w.heap.size w W4) := HB0.out.trans (hb04.mono HB0.out.size)
 clear hf3 hb23 hX4 hB4 hb24 hA4 hb04
 go_wp2_with fail
 refine HN.out.mono ?_
 rintro e w5 ⟨rfl, hb5⟩
 have hR5 := known hb5 (Nat.le_refl _) HR4.out
 have r50 : w5.cell? ⟨w.heap.size + 2, 0, none⟩ = some (.int .i64 0) := cCc hR5 0
 have r51 : w5.cell? ⟨w.heap.size + 2, 1, none⟩ = some (.int .i64 0) := cCc hR5 1
 have r52 : w5.cell? ⟨w.heap.size + 2, 2, none⟩ = some (.slice none 0 0) := cCc hR5 2
 have r53 : w5.cell? ⟨w.heap.size + 2, 3, none⟩ = some (.int .i64 0) := cCc hR5 3
 have r54 : w5.cell? ⟨w.heap.size + 2, 4, none⟩ = some (.string ⟨#[]⟩) := cCc hR5 4
 have r55 : w5.cell? ⟨w.heap.size + 2, 5, none⟩ = some (.int .i64 0) := cCc hR5 5
 have r56 : w5.cell? ⟨w.heap.size + 2, 6, none⟩ = some (.int .i64 0) := cCc hR5 6
 have r57 : w5.cell? ⟨w.heap.size + 2, 7, none⟩ = some (.slice none 0 0) := cCc hR5 7
 have r58 : w5.cell? ⟨w.heap.size + 2, 8, none⟩ = some (.int .i64 0) := cCc hR5 8
 have r59 : w5.cell? ⟨w.heap.size + 2, 9, none⟩ = some (.slice none 0 0) := cCc hR5 9
 have f50 : w5.frozen? ⟨w.heap.size + 2, 0, none⟩ = false := cFz hR5 0
 have f51 : w5.frozen? ⟨w.heap.size + 2, 1, none⟩ = false := cFz hR5 1
 have f52 : w5.frozen? ⟨w.heap.size + 2, 2, none⟩ = false := cFz hR5 2
 have f53 : w5.frozen? ⟨w.heap.size + 2, 3, none⟩ = false := cFz hR5 3
 have f54 : w5.frozen? ⟨w.heap.size + 2, 4, none⟩ = false := cFz hR5 4
 have f55 : w5.frozen? ⟨w.heap.size + 2, 5, none⟩ = false := cFz hR5 5
 have f56 : w5.frozen? ⟨w.heap.size + 2, 6, none⟩ = false := cFz hR5 6
 have f57 : w5.frozen? ⟨w.heap.size + 2, 7, none⟩ = false := cFz hR5 7
 have f58 : w5.frozen? ⟨w.heap.size + 2, 8, none⟩ = false := cFz hR5 8
 have f59 : w5.frozen? ⟨w.heap.size + 2, 9, none⟩ = false := cFz hR5 9
 have e0 : w5.setCell ⟨w.heap.size + 2, 0, none⟩ (.int .i64 0) = w5 := set_same hR5 rfl
 have e1 : w5.setCell ⟨w.heap.size + 2, 1, none⟩ (.int .i64 0) = w5 := set_same hR5 rfl
 have e2 : w5.setCell ⟨w.heap.size + 2, 2, none⟩ (.slice none 0 0) = w5 := set_same hR5 rfl
 have e3 : w5.setCell ⟨w.heap.size + 2, 3, none⟩ (.int .i64 0) = w5 := set_same hR5 rfl
 have e4 : w5.setCell ⟨w.heap.size + 2, 4, none⟩ (.string ⟨#[]⟩) = w5 := set_same hR5 rfl
 have e5 : w5.setCell ⟨w.heap.size + 2, 5, none⟩ (.int .i64 0) = w5 := set_same hR5 rfl
 have e6 : w5.setCell ⟨w.heap.size + 2, 6, none⟩ (.int .i64 0) = w5 := set_same hR5 rfl
 have e7 : w5.setCell ⟨w.heap.size + 2, 7, none⟩ (.slice none 0 0) = w5 := set_same hR5 rfl
 have e8 : w5.setCell ⟨w.heap.size + 2, 8, none⟩ (.int .i64 0) = w5 := set_same hR5 rfl
 have e9 : w5.setCell ⟨w.heap.size + 2, 9, none⟩ (.slice none 0 0) = w5 := set_same hR5 rfl
 have HBU : Hid (Below w.heap.size w w5) := HB04.out.trans (hb5.mono HB04.out.size)
 clear hR5 hb5
 go_wp2_with fail
 exact bodyPost_ret (v := .tuple #[.agg #[.int .i64 0, .int .i64 0, .slice none 0 0, .int .i64 0, .string ⟨#[]⟩, .int .i64 0, .int .i64 0, .slice none 0 0, .int .i64 0, .slice none 0 0], .int .i64 100]) (by simp [results, Tryz.f7, go_sem, r50, r51, r52, r53, r54, r55, r56, r57, r58, r59]) rfl ⟨rfl, HBU.out⟩
set_option maxRecDepth 100000 in
set_option maxHeartbeats 2000000 in
theorem to_above (v : Value) (B : Bd) (kind level : Nat) (t : Int) (w : World) (hb : BdAt w v B) (hok : B.Ok kind level) (ht : (botN kind : Int) < t) :
  Calls Tryz.prog 40 #[.agg #[v, .int .i64 kind, .int .i64 level], .int .i64 t] w fun e w' => ∃ f, e = .returned (.tuple #[.agg #[.nilIface, .int .i64 0, .int .i64 0], f]) ∧ FaultAt w' f 102 ∧ Below w.heap.size w w' := by
 obtain ⟨T, rv, rfl⟩ := bd_iface hb
 obtain ⟨W0, hW0, hXp, hXl, hXr, hB0, hs0⟩ := boxes3 w #[.iface T rv, .int .i64 kind, .int .i64 level] 60 #[.int .i64 t] 3 #[.nilIface, .int .i64 0, .int .i64 0] 60
 have HBT : Hid (∀ w, Calls Tryz.prog 21 #[.int .i64 kind] w fun e w' => e = .returned (.int .i64 (botN kind : Nat)) ∧ w' = w) := fun w => (Bottom_any kind w).mono fun e w' ⟨h1, h2⟩ => ⟨by rw [h1, (bot_eq hok).1], h2.symm⟩
 obtain ⟨c0, c1, c2⟩ := cl3 hXp
 have d0 : W0.cell? ⟨w.heap.size + 1, 0, none⟩ = some (.int .i64 t) := cCc hXl 0
 have HXR := Lib.hid hXr
 have HB0 := Lib.hid hB0
 clear hXp hXl hXr hB0 hb hok
 refine calls_marks Tryz.func40 rfl ?_
 simp only [Tryz.ntmps40, List.size_toArray, List.length_cons, List.length_nil, Nat.reduceAdd, Nat.reduceSub, Array.replicate_succ, Array.replicate_zero, List.push_toArray, List.append_toArray, List.nil_append, List.cons_append]
 go_wp2_with fail
 go_step3
 go_wp2_with fail
 go_quiet ((go_at_call 21; exact Calls.quiet_of_same (HBT.out _)))
 obtain ⟨W1, hW1, hX1, hB1, hs1⟩ := boxes1 (W0.drewN nq) #[.int .i64 102] 99
 have hb01 : Below W0.heap.size W0 W1 := (drewN_below nq).trans hB1
 have hR1 := known hb01 (Nat.le_refl _) HXR.out
 have e0 : W1.setCell ⟨w.heap.size + 1 + 1, 0, none⟩ .nilIface = W1 := set_same hR1 rfl
 have e1 : W1.setCell ⟨w.heap.size + 1 + 1, 1, none⟩ (.int .i64 0) = W1 := set_same hR1 rfl
 have e2 : W1.setCell ⟨w.heap.size + 1 + 1, 2, none⟩ (.int .i64 0) = W1 := set_same hR1 rfl
 obtain ⟨r0, r1, r2⟩ := cl3 hR1
 obtain ⟨g0, g1, g2⟩ := cz3 hR1
 have hz : (W0.drewN nq).heap.size = w.heap.size + 3 := hs0
 have HE : Hid (FaultAt W1 (.iface 97 (.pointer (some ⟨w.heap.size + 3, 0, none⟩))) 102 ∧ Below w.heap.size w W1) := ⟨⟨w.heap.size + 3, rfl, by rw [hz] at hX1; exact hX1⟩, HB0.out.trans (hb01.mono HB0.out.size)⟩
 clear hX1 hB1 hs1 hb01 hR1
 go_wp2_with fail
 exact marks_ret0 (v := .tuple #[.agg #[.nilIface, .int .i64 0, .int .i64 0], .iface 97 (.pointer (some ⟨w.heap.size + 3, 0, none⟩))]) (by simp [results, Tryz.f40, go_sem, r0, r1, r2]) rfl ⟨_, rfl, HE.out.1, HE.out.2⟩
set_option maxRecDepth 100000 in
set_option maxHeartbeats 2000000 in
theorem To_above {k L : Nat} (t : Int) {B : Bd} {v : Value} {w : World} (hok : B.Ok k L) (ht : (botN k : Int) < t) (hg : GT w) (hv : SkB w v k L B) :
  Calls Tryz.prog 11 #[v, .int .i64 t] w fun e w' => e = .returned (.tuple #[.agg #[.int .i64 0, .int .i64 0, .slice none 0 0, .int .i64 0, .string ⟨#[]⟩, .int .i64 0, .int .i64 0, .slice none 0 0, .int .i64 0, .slice none 0 0], .int .i64 102]) ∧ Below w.heap.size w w' := by
 obtain ⟨y, s, hy, rfl, hA⟩ := hv
 obtain ⟨W0, hW0, hXp, hXr, hB0, hs0⟩ := boxes2 w #[.int .i64 y.kind, .int .i64 y.level, .slice s.ea s.el s.ec, .int .i64 y.hb, .string y.hr, .int .i64 y.cr, .int .i64 y.cc, .slice s.ca s.cl s.cc, .int .i64 y.gf, .slice s.ga s.gl s.gc] 33 #[.int .i64 0, .int .i64 0, .slice none 0 0, .int .i64 0, .string ⟨#[]⟩, .int .i64 0, .int .i64 0, .slice none 0 0, .int .i64 0, .slice none 0 0] 33
 have HO := Lib.hid (open_sk_any (w := W0) hok ⟨y, s, hy, rfl, hA.go hB0⟩)
 have HT : Hid (∀ b W, BdAt W b B → Calls Tryz.prog 40 #[.agg #[b, .int .i64 k, .int .i64 L], .int .i64 t] W fun e w' => ∃ f, e = .returned (.tuple #[.agg #[.nilIface, .int .i64 0, .int .i64 0], f]) ∧ FaultAt w' f 102 ∧ Below W.heap.size W w') := fun b W h => to_above b B k L t W h hok ht
 obtain ⟨c0, c1, c2, c3, c4, c5, c6, c7, c8, c9⟩ := cl10 hXp
 have HGT := Lib.hid (hg.go hB0)
 have HXR := Lib.hid hXr
 have HB0 := Lib.hid hB0
 clear hXp hXr hB0 hA hy hok ht hg
 go_enter Tryz.func11, Tryz.ntmps11
 go_wp2_with fail
 refine HO.out.mono ?_
 rintro e w1 ⟨b, rfl, hb, hb1⟩
 obtain ⟨T, rv, rfl⟩ := bd_iface hb
 obtain ⟨W2, hW2, hX2, hB2, hs2⟩ := boxes1 w1 #[.iface T rv, .int .i64 k, .int .i64 L] 60
 obtain ⟨d0, d1, d2⟩ := cl3 hX2
 have HT2 := Lib.hid (HT.out _ W2 (hb.go hB2))
 have HX2 := Lib.hid hX2
 have hsz := hb1.size
 have HB02 := Lib.hid (hb1.trans (hB2.mono hb1.size))
 clear hX2 hB2 hb1 hb
 go_wp2_with fail
 refine HT2.out.mono ?_
 rintro e w3 ⟨f, rfl, hf3, hb3⟩
 have hX3 := known hb3 (Nat.le_refl _) HX2.out
 obtain ⟨p0, p1, p2⟩ := cl3 hX3
 obtain ⟨g0, g1, g2⟩ := cz3 hX3
 obtain ⟨V, hV, hVX, hVO, hVB⟩ := store3 .nilIface (.int .i64 0) (.int .i64 0) hX3
 have hb03 := HB02.out.trans (hb3.mono HB02.out.size)
 have HB3 : Hid (Below w.heap.size w V) := hVB _ _ (HB0.out.trans (hb03.mono HB0.out.size)) (by omega)
 have hGV : GT V := HGT.out.go (hVB _ _ hb03 (by omega))
 have HN2 := Lib.hid (told_fault f 102 V (fault_apart hf3 hX3 hVO) hGV)
 have HR3 : Hid (V.heap[w.heap.size + 1]? = some (.cells #[.int .i64 0, .int .i64 0, .slice none 0 0, .int .i64 0, .string ⟨#[]⟩, .int .i64 0, .int .i64 0, .slice none 0 0, .int .i64 0, .slice none 0 0] 33 (0, 0))) := (hVO.2 _ (by omega)).trans (known hb03 (Nat.le_refl _) HXR.out)
 obtain ⟨q0, q1, q2⟩ := cl3 hVX
 clear hX3 hVX hVO hVB hf3 hb3 hb03 hGV
 go_wp2_with fail
 refine HN2.out.mono ?_
 rintro e w6 ⟨rfl, hb6⟩
 have hR6 := known hb6 (Nat.le_refl _) HR3.out
 have r60 : w6.cell? ⟨w.heap.size + 1, 0, none⟩ = some (.int .i64 0) := cCc hR6 0
 have r61 : w6.cell? ⟨w.heap.size + 1, 1, none⟩ = some (.int .i64 0) := cCc hR6 1
 have r62 : w6.cell? ⟨w.heap.size + 1, 2, none⟩ = some (.slice none 0 0) := cCc hR6 2
 have r63 : w6.cell? ⟨w.heap.size + 1, 3, none⟩ = some (.int .i64 0) := cCc hR6 3
 have r64 : w6.cell? ⟨w.heap.size + 1, 4, none⟩ = some (.string ⟨#[]⟩) := cCc hR6 4
 have r65 : w6.cell? ⟨w.heap.size + 1, 5, none⟩ = some (.int .i64 0) := cCc hR6 5
 have r66 : w6.cell? ⟨w.heap.size + 1, 6, none⟩ = some (.int .i64 0) := cCc hR6 6
 have r67 : w6.cell? ⟨w.heap.size + 1, 7, none⟩ = some (.slice none 0 0) := cCc hR6 7
 have r68 : w6.cell? ⟨w.heap.size + 1, 8, none⟩ = some (.int .i64 0) := cCc hR6 8
 have r69 : w6.cell? ⟨w.heap.size + 1, 9, none⟩ = some (.slice none 0 0) := cCc hR6 9
 have f60 : w6.frozen? ⟨w.heap.size + 1, 0, none⟩ = false := cFz hR6 0
 have f61 : w6.frozen? ⟨w.heap.size + 1, 1, none⟩ = false := cFz hR6 1
 have f62 : w6.frozen? ⟨w.heap.size + 1, 2, none⟩ = false := cFz hR6 2
 have f63 : w6.frozen? ⟨w.heap.size + 1, 3, none⟩ = false := cFz hR6 3
 have f64 : w6.frozen? ⟨w.heap.size + 1, 4, none⟩ = false := cFz hR6 4
 have f65 : w6.frozen? ⟨w.heap.size + 1, 5, none⟩ = false := cFz hR6 5
 have f66 : w6.frozen? ⟨w.heap.size + 1, 6, none⟩ = false := cFz hR6 6
 have f67 : w6.frozen? ⟨w.heap.size + 1, 7, none⟩ = false := cFz hR6 7
 have f68 : w6.frozen? ⟨w.heap.size + 1, 8, none⟩ = false := cFz hR6 8
 have f69 : w6.frozen? ⟨w.heap.size + 1, 9, none⟩ = false := cFz hR6 9
 have e0 : w6.setCell ⟨w.heap.size + 1, 0, none⟩ (.int .i64 0) = w6 := set_same hR6 rfl
 have e1 : w6.setCell ⟨w.heap.size + 1, 1, none⟩ (.int .i64 0) = w6 := set_same hR6 rfl
 have e2 : w6.setCell ⟨w.heap.size + 1, 2, none⟩ (.slice none 0 0) = w6 := set_same hR6 rfl
 have e3 : w6.setCell ⟨w.heap.size + 1, 3, none⟩ (.int .i64 0) = w6 := set_same hR6 rfl
 have e4 : w6.setCell ⟨w.heap.size + 1, 4, none⟩ (.string ⟨#[]⟩) = w6 := set_same hR6 rfl
 have e5 : w6.setCell ⟨w.heap.size + 1, 5, none⟩ (.int .i64 0) = w6 := set_same hR6 rfl
 have e6 : w6.setCell ⟨w.heap.size + 1, 6, none⟩ (.int .i64 0) = w6 := set_same hR6 rfl
 have e7 : w6.setCell ⟨w.heap.size + 1, 7, none⟩ (.slice none 0 0) = w6 := set_same hR6 rfl
 have e8 : w6.setCell ⟨w.heap.size + 1, 8, none⟩ (.int .i64 0) = w6 := set_same hR6 rfl
 have e9 : w6.setCell ⟨w.heap.size + 1, 9, none⟩ (.slice none 0 0) = w6 := set_same hR6 rfl
 have HBU : Hid (Below w.heap.size w w6) := HB3.out.trans (hb6.mono HB3.out.size)
 clear hR6 hb6
 go_wp2_with fail
 exact bodyPost_ret (v := .tuple #[.agg #[.int .i64 0, .int .i64 0, .slice none 0 0, .int .i64 0, .string ⟨#[]⟩, .int .i64 0, .int .i64 0, .slice none 0 0, .int .i64 0, .slice none 0 0], .int .i64 102]) (by simp [results, Tryz.f11, go_sem, r60, r61, r62, r63, r64, r65, r66, r67, r68, r69]) rfl ⟨rfl, HBU.out⟩
end Go.Proofs.YtcbbenncdainfaaGreatDoor
namespace Go.Proofs.YtcbbenncdainfaaGreatDoor
open Go Go.RowKit Go.Shelf
set_option maxRecDepth 100000 in
set_option maxHeartbeats 1000000 in
theorem exMerge_any (l m : List Int) (a : Option Addr) (len cap : Nat) (a2 : Option Addr) (len2 cap2 : Nat) (w : World) (hL : SlE encU 1 w.heap.size w a len l) (hn : a = none → len = 0) (hM : SlE encU 1 w.heap.size w a2 len2 m) (hr : exRight l = true) (hr2 : exRight m = true) :
  Calls Tryz.prog 139 #[.agg #[.slice a len cap], .agg #[.slice a2 len2 cap2]] w (ExPost (exGather l m) w) := by
 obtain ⟨W0, hW0, hXx, hXy, hXr, hB0, hs0⟩ := boxes3 w #[.slice a len cap] 24 #[.slice a2 len2 cap2] 24 #[.slice none 0 0] 24
 have hL0 : SlE encU 1 W0.heap.size W0 a len l := (hL.below hB0).mono hB0.size
 have hM0 : SlE encU 1 W0.heap.size W0 a2 len2 m := (hM.below hB0).mono hB0.size
 have hu := exRight_up l hr
 have hu2 := exRight_up m hr2
 have HR1 := Lib.hid (exact_Right_any l a len cap W0 hL0)
 rw [hr] at HR1
 have HR2 : Hid (∀ w1, Below W0.heap.size W0 w1 → Calls Tryz.prog 95 #[.agg #[.slice a2 len2 cap2]] w1 fun e w' => e = .returned (.bool true) ∧ Below w1.heap.size w1 w') := fun w1 hb => by
  have h := exact_Right_any m a2 len2 cap2 w1 (hM0.go hb)
  rw [hr2] at h
  exact h
 have HG : Hid (∀ w1, Below W0.heap.size W0 w1 → Calls Tryz.prog 140 #[.slice a len cap, .slice a2 len2 cap2] w1 (GatherPost l m w1)) := fun w1 hb =>
  gather_any l m a len cap a2 len2 cap2 w1 (hL0.go hb) (hM0.go hb) hu.1 (by have := hL.1; have := hu.2; omega) (by have := hM.1; have := hu2.2; omega) hn
 have c0 : W0.cell? ⟨w.heap.size, 0, none⟩ = some (.slice a len cap) := cCc hXx 0
 have HXx := Lib.hid hXx
 have HXy := Lib.hid hXy
 have HXr : Hid (Boxed W0 (w.heap.size + 2) 24 (.slice none 0 0)) := hXr
 have HB0 := Lib.hid hB0
 clear hL hM hL0 hM0 hu hu2 hr hr2 hXx hXy hXr hB0 hn
 go_enter Tryz.func139, Tryz.ntmps139
 go_wp2_with fail
 refine HR1.out.mono ?_
 rintro e w1 ⟨rfl, hb1⟩
 have hY1 := known hb1 (Nat.le_refl _) HXy.out
 have d0 : w1.cell? ⟨w.heap.size + 1, 0, none⟩ = some (.slice a2 len2 cap2) := cCc hY1 0
 have HR2 := Lib.hid (HR2.out w1 hb1)
 go_wp2_with fail
 refine HR2.out.mono ?_
 rintro e w2 ⟨rfl, hb2⟩
 have hb02 : Below W0.heap.size W0 w2 := hb1.trans (hb2.mono hb1.size)
 have HG := Lib.hid (HG.out w2 hb02)
 have hX2 := known hb02 (Nat.le_refl _) HXx.out
 have hY2 := known hb02 (Nat.le_refl _) HXy.out
 have p0 : w2.cell? ⟨w.heap.size, 0, none⟩ = some (.slice a len cap) := cCc hX2 0
 have q0 : w2.cell? ⟨w.heap.size + 1, 0, none⟩ = some (.slice a2 len2 cap2) := cCc hY2 0
 have HB02 := Lib.hid hb02
 clear hb1 hb2 hb02 hY1 hX2 hY2
 go_wp2_with fail
 refine HG.out.mono ?_
 rintro e w3 ⟨hb3, hp⟩
 have hy3 : Boxed w3 (w.heap.size + 2) 24 (.slice none 0 0) := known (HB02.out.trans (hb3.mono HB02.out.size)) (Nat.le_refl _) HXr.out
 have hb03 : Below w.heap.size w w3 := HB0.out.trans ((HB02.out.trans (hb3.mono HB02.out.size)).mono HB0.out.size)
 have hz2 : w.heap.size + 2 < w2.heap.size := by have := HB02.out.size; omega
 have c4 := hy3.cell
 have f4 := hy3.frozen
 cases hg : exGather l m with
 | none =>
  rw [hg] at hp
  dsimp only at hp
  subst hp
  go_wp2_with fail
  have hy4 : Boxed (w3.alloc (.cells #[.slice none 0 0] 24)).drew w3.heap.size 24 (.slice none 0 0) := Boxed.new w3 24 (.slice none 0 0)
  have e4 := hy4.cell
  have hr4 : Boxed (w3.alloc (.cells #[.slice none 0 0] 24)).drew (w.heap.size + 2) 24 (.slice none 0 0) := hy3.alloc _
  have hz4 : w.heap.size + 2 < w3.heap.size := hy3.lt
  have hb4 : Below w.heap.size w (w3.alloc (.cells #[.slice none 0 0] 24)).drew := (hb03.alloc (by omega) _).drew
  have HY4 := Lib.hid hy4
  have HR4 := Lib.hid hr4
  refine wp_region_any (by kernel_rfl) ?_
  change wpAny _ _ _ _ _ _ _ (World.drew _)
  refine tk 1 (v := ?_) rfl ?_ ?_
  rotate_left
  ·intro w; go_simp; with_reducible rfl
  refine wpAny_ready (rs := [0, 2]) (by kernel_rfl) (by simp) ?_
  refine AllReady.cons rfl (fun K hK => ?_) ?_
  ·go_simp
   refine hK _ _ ?_
   clear hK K
   refine wpAny_ready (rs := [2]) (by kernel_rfl) (by simp) ?_
   refine AllReady.cons rfl (fun K hK => ?_) ?_
   ·go_simp
    refine (exErrno_fault _).mono ?_
    rintro e w5 ⟨rfl, hb5⟩
    have hy5 := (hb5.block _ HY4.out.lt).trans HY4.out
    have hr5 := (hb5.block _ HR4.out.lt).trans HR4.out
    have g1 := Boxed.cell hy5
    have g2 := Boxed.cell hr5
    have g3 := Boxed.frozen hr5
    refine hK _ _ ?_
    clear hK K
    refine wpAny_ready (rs := [3]) (by kernel_rfl) (by simp) ?_
    refine AllReady.cons rfl (fun K hK => ?_) ?_
    ·go_simp
     refine hK _ _ ?_
     clear hK K
     refine tk 4 (v := ?_) rfl ?_ ?_
     rotate_left
     ·intro w; go_simp; with_reducible rfl
     refine wpAny_done (by kernel_rfl) ?_ _
     go_wp2_with fail
     have g4 := (Boxed.set (.slice none 0 0) hr5).cell
     refine bodyPost_ret (v := .tuple #[.agg #[.slice none 0 0], .int .i64 60]) ?_ rfl ?_
     ·simp [results, Tryz.f139, go_sem, g4]
     ·refine ⟨(hb4.trans (hb5.mono hb4.size)).setCell (p := ⟨w.heap.size + 2, 0, none⟩) (by show _ ≤ _ + 2; omega) _, ?_⟩
      rw [hg]
    exact AllReady.nil
   exact AllReady.nil
  refine AllReady.cons rfl (fun K hK => ?_) ?_
  ·go_simp
   refine (exErrno_fault _).mono ?_
   rintro e w5 ⟨rfl, hb5⟩
   have hy5 := (hb5.block _ HY4.out.lt).trans HY4.out
   have hr5 := (hb5.block _ HR4.out.lt).trans HR4.out
   have g1 := Boxed.cell hy5
   have g2 := Boxed.cell hr5
   have g3 := Boxed.frozen hr5
   refine hK _ _ ?_
   clear hK K
   refine wpAny_ready (rs := [0]) (by kernel_rfl) (by simp) ?_
   refine AllReady.cons rfl (fun K hK => ?_) ?_
   ·go_simp
    refine hK _ _ ?_
    clear hK K
    refine wpAny_ready (rs := [3]) (by kernel_rfl) (by simp) ?_
    refine AllReady.cons rfl (fun K hK => ?_) ?_
    ·go_simp
     refine hK _ _ ?_
     clear hK K
     refine tk 4 (v := ?_) rfl ?_ ?_
     rotate_left
     ·intro w; go_simp; with_reducible rfl
     refine wpAny_done (by kernel_rfl) ?_ _
     go_wp2_with fail
     have g4 := (Boxed.set (.slice none 0 0) hr5).cell
     refine bodyPost_ret (v := .tuple #[.agg #[.slice none 0 0], .int .i64 60]) ?_ rfl ?_
     ·simp [results, Tryz.f139, go_sem, g4]
     ·refine ⟨(hb4.trans (hb5.mono hb4.size)).setCell (p := ⟨w.heap.size + 2, 0, none⟩) (by show _ ≤ _ + 2; omega) _, ?_⟩
      rw [hg]
    exact AllReady.nil
   exact AllReady.nil
  exact AllReady.nil
 | some z =>
  rw [hg] at hp
  obtain ⟨a3, cap3, rfl, hS3, hfar3⟩ := hp
  go_wp2_with fail
  have hy4 : Boxed (w3.alloc (.cells #[.slice a3 z.length cap3] 24)).drew w3.heap.size 24 (.slice a3 z.length cap3) := Boxed.new w3 24 (.slice a3 z.length cap3)
  have e4 := hy4.cell
  have hr4 : Boxed (w3.alloc (.cells #[.slice a3 z.length cap3] 24)).drew (w.heap.size + 2) 24 (.slice none 0 0) := hy3.alloc _
  have hz4 : w.heap.size + 2 < w3.heap.size := hy3.lt
  have hb4 : Below w.heap.size w (w3.alloc (.cells #[.slice a3 z.length cap3] 24)).drew := (hb03.alloc (by omega) _).drew
  have HY4 := Lib.hid hy4
  have HR4 := Lib.hid hr4
  refine wp_region_any (by kernel_rfl) ?_
  change wpAny _ _ _ _ _ _ _ (World.drew _)
  refine tk 1 (v := ?_) rfl ?_ ?_
  rotate_left
  ·intro w; go_simp; with_reducible rfl
  refine wpAny_ready (rs := [0, 2]) (by kernel_rfl) (by simp) ?_
  refine AllReady.cons rfl (fun K hK => ?_) ?_
  ·go_simp
   refine hK _ _ ?_
   clear hK K
   refine wpAny_ready (rs := [2]) (by kernel_rfl) (by simp) ?_
   refine AllReady.cons rfl (fun K hK => ?_) ?_
   ·go_simp
    refine (exErrno_nil _).mono ?_
    rintro e w5 ⟨rfl, hb5⟩
    have hy5 := (hb5.block _ HY4.out.lt).trans HY4.out
    have hr5 := (hb5.block _ HR4.out.lt).trans HR4.out
    have g1 := Boxed.cell hy5
    have g2 := Boxed.cell hr5
    have g3 := Boxed.frozen hr5
    refine hK _ _ ?_
    clear hK K
    refine wpAny_ready (rs := [3]) (by kernel_rfl) (by simp) ?_
    refine AllReady.cons rfl (fun K hK => ?_) ?_
    ·go_simp
     refine hK _ _ ?_
     clear hK K
     refine tk 4 (v := ?_) rfl ?_ ?_
     rotate_left
     ·intro w; go_simp; with_reducible rfl
     refine wpAny_done (by kernel_rfl) ?_ _
     go_wp2_with fail
     have g4 := (Boxed.set (.slice a3 z.length cap3) hr5).cell
     refine bodyPost_ret (v := .tuple #[.agg #[.slice a3 z.length cap3], .int .i64 0]) ?_ rfl ?_
     ·simp [results, Tryz.f139, go_sem, g4]
     ·refine ⟨(hb4.trans (hb5.mono hb4.size)).setCell (p := ⟨w.heap.size + 2, 0, none⟩) (by show _ ≤ _ + 2; omega) _, ?_⟩
      rw [hg]
      refine ⟨a3, cap3, rfl, ?_, fun x hx => ?_⟩
      ·rw [size_set]; exact (((hS3.go ((Below.refl _ _).alloc (Nat.le_refl _) _)).go (Below.refl _ _).drew).go hb5).set_far (fun y hy => by have h7 := hfar3 y hy; show w.heap.size + 2 ≠ _; omega) _
      ·have := hfar3 x hx; have := HB02.out.size; have := HB0.out.size; omega
    exact AllReady.nil
   exact AllReady.nil
  refine AllReady.cons rfl (fun K hK => ?_) ?_
  ·go_simp
   refine (exErrno_nil _).mono ?_
   rintro e w5 ⟨rfl, hb5⟩
   have hy5 := (hb5.block _ HY4.out.lt).trans HY4.out
   have hr5 := (hb5.block _ HR4.out.lt).trans HR4.out
   have g1 := Boxed.cell hy5
   have g2 := Boxed.cell hr5
   have g3 := Boxed.frozen hr5
   refine hK _ _ ?_
   clear hK K
   refine wpAny_ready (rs := [0]) (by kernel_rfl) (by simp) ?_
   refine AllReady.cons rfl (fun K hK => ?_) ?_
   ·go_simp
    refine hK _ _ ?_
    clear hK K
    refine wpAny_ready (rs := [3]) (by kernel_rfl) (by simp) ?_
    refine AllReady.cons rfl (fun K hK => ?_) ?_
    ·go_simp
     refine hK _ _ ?_
     clear hK K
     refine tk 4 (v := ?_) rfl ?_ ?_
     rotate_left
     ·intro w; go_simp; with_reducible rfl
     refine wpAny_done (by kernel_rfl) ?_ _
     go_wp2_with fail
     have g4 := (Boxed.set (.slice a3 z.length cap3) hr5).cell
     refine bodyPost_ret (v := .tuple #[.agg #[.slice a3 z.length cap3], .int .i64 0]) ?_ rfl ?_
     ·simp [results, Tryz.f139, go_sem, g4]
     ·refine ⟨(hb4.trans (hb5.mono hb4.size)).setCell (p := ⟨w.heap.size + 2, 0, none⟩) (by show _ ≤ _ + 2; omega) _, ?_⟩
      rw [hg]
      refine ⟨a3, cap3, rfl, ?_, fun x hx => ?_⟩
      ·rw [size_set]; exact (((hS3.go ((Below.refl _ _).alloc (Nat.le_refl _) _)).go (Below.refl _ _).drew).go hb5).set_far (fun y hy => by have h7 := hfar3 y hy; show w.heap.size + 2 ≠ _; omega) _
      ·have := hfar3 x hx; have := HB02.out.size; have := HB0.out.size; omega
    exact AllReady.nil
   exact AllReady.nil
  exact AllReady.nil
end Go.Proofs.YtcbbenncdainfaaGreatDoor
