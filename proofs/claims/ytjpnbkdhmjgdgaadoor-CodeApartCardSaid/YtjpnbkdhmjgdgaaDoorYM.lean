/- aviarylaw11.CodeApart answers true: printed by wip/tools/gen_law11.py. -/
import Derived.Test.YtjpnbkdhmjgdgaaDoorYL
namespace Go.Proofs.YtjpnbkdhmjgdgaaDoor
open Go Go.RowKit Go.Shelf

/-- Two sketches in variables of the frame. -/
structure In2 (w : World) (x : Sk) (s : SS) (y : Sk) (t : SS) (W : World) : Prop where
  b0 : W.heap[w.heap.size]? = some (.cells #[.int .i64 x.kind, .int .i64 x.level, .slice s.ea s.el s.ec, .int .i64 x.hb, .string x.hr, .int .i64 x.cr, .int .i64 x.cc, .slice s.ca s.cl s.cc, .int .i64 x.gf, .slice s.ga s.gl s.gc] 33 (0, 0))
  b1 : W.heap[w.heap.size + 1]? = some (.cells #[.int .i64 y.kind, .int .i64 y.level, .slice t.ea t.el t.ec, .int .i64 y.hb, .string y.hr, .int .i64 y.cr, .int .i64 y.cc, .slice t.ca t.cl t.cc, .int .i64 y.gf, .slice t.ga t.gl t.gc] 33 (0, 0))
  a0 : s.At W.heap.size W x
  a1 : t.At W.heap.size W y
  below : Below w.heap.size w W
theorem In2.go {w W W' : World} {x y : Sk} {s t : SS} (h : In2 w x s y t W) (hb : Below W.heap.size W W') : In2 w x s y t W' :=
  ⟨known hb (Nat.le_refl _) h.b0, known hb (Nat.le_refl _) h.b1, h.a0.go hb, h.a1.go hb, h.below.trans (hb.mono h.below.size)⟩
theorem In2.store0 {w W : World} {x y z : Sk} {s t u : SS} (h : In2 w x s y t W) (hz : u.At W.heap.size W z) : In2 w z u y t (store10 W w.heap.size z u) := by
  obtain ⟨h1, h2, h3, h4⟩ := stored h.b0 hz h.below (Nat.le_refl _)
  exact ⟨h1, (store10_oth _ _ _ (by omega)).trans h.b1, h2, at_store h.a1 h.b0 (no_u64 x s) (store10_oth _ _) (Nat.le_of_eq h4.symm), h3⟩
theorem In2.store1 {w W : World} {x y z : Sk} {s t u : SS} (h : In2 w x s y t W) (hz : u.At W.heap.size W z) : In2 w x s z u (store10 W (w.heap.size + 1) z u) := by
  obtain ⟨h1, h2, h3, h4⟩ := stored h.b1 hz h.below (Nat.le_succ _)
  exact ⟨(store10_oth _ _ _ (by omega)).trans h.b0, h1, at_store h.a0 h.b1 (no_u64 y t) (store10_oth _ _) (Nat.le_of_eq h4.symm), h2, h3⟩
theorem bytes_eq {a b : ByteArray} : (a.toList == b.toList) = true ↔ a.data.toList = b.data.toList := by
  rw [beq_iff_eq, Lib.toList_data, Lib.toList_data]
/-- What CodeApart says of two sketches' bytes. -/
theorem apart_law (x y : Sk) (hx : skOk x = true) (hy : skOk y = true) (fx : Fine x) (fy : Fine y) :
    (skSame x y = true → encS x = encS y) ∧ (skSame x y = false → (encS x).size ≤ (encS y).size → (((encS y).extract 0 (encS x).size).toList == (encS x).toList) = false) := by
  constructor
  · intro h
    rw [skSame_eq h]
  · intro h _
    rw [Bool.eq_false_iff]
    intro he
    have h1 := bytes_eq.1 he
    have ex : (encS x).data.toList = encBytes x := by rw [encS, if_pos hx]
    have ey : (encS y).data.toList = encBytes y := by rw [encS, if_pos hy]
    rw [extract_take, ey, ex] at h1
    have h2 : encBytes y = encBytes x ++ (encBytes y).drop (encS x).size := by
      have h3 := List.take_append_drop (encS x).size (encBytes y)
      rw [show (encBytes y).take (encS x).size = encBytes x from h1] at h3
      exact h3.symm
    have h4 := enc_apart x y hx hy fx.num fy.num fx.few.g fy.few.g _ h2
    subst h4
    have h5 : skSame x x = true := by simp [skSame]
    rw [h5] at h
    cases h
set_option maxRecDepth 100000 in
set_option maxHeartbeats 4000000 in
theorem apart_any (x : Sk) (s : SS) (y : Sk) (t : SS) (fm ff cm cc : Addr) (w : World) (hx : s.At w.heap.size w x) (hax : x.arg) (hy : t.At w.heap.size w y) (hay : y.arg) (hE : GE fm ff cm cc w) :
    Calls Tryd.prog 4 #[.agg #[.int .i64 x.kind, .int .i64 x.level, .slice s.ea s.el s.ec, .int .i64 x.hb, .string x.hr, .int .i64 x.cr, .int .i64 x.cc, .slice s.ca s.cl s.cc, .int .i64 x.gf, .slice s.ga s.gl s.gc], .agg #[.int .i64 y.kind, .int .i64 y.level, .slice t.ea t.el t.ec, .int .i64 y.hb, .string y.hr, .int .i64 y.cr, .int .i64 y.cc, .slice t.ca t.cl t.cc, .int .i64 y.gf, .slice t.ga t.gl t.gc]] w fun e w' => e = .returned (.bool true) ∧ Below w.heap.size w w' := by
  obtain ⟨W0, hW0, hX0, hY0, hB0, hs0⟩ := boxes2 w #[.int .i64 x.kind, .int .i64 x.level, .slice s.ea s.el s.ec, .int .i64 x.hb, .string x.hr, .int .i64 x.cr, .int .i64 x.cc, .slice s.ca s.cl s.cc, .int .i64 x.gf, .slice s.ga s.gl s.gc] 33 #[.int .i64 y.kind, .int .i64 y.level, .slice t.ea t.el t.ec, .int .i64 y.hb, .string y.hr, .int .i64 y.cr, .int .i64 y.cc, .slice t.ca t.cl t.cc, .int .i64 y.gf, .slice t.ga t.gl t.gc] 33
  have HS := Lib.hid (shown11_any fm ff cm cc W0 (hE.below hB0))
  have HI0 : Hid (In2 w x s y t W0) := ⟨hX0, hY0, hx.go hB0, hy.go hB0, hB0⟩
  have HF0 : Hid (∀ (z : Sk) (u : SS) W, In2 w x s z u W → Calls Tryd.prog 7 #[.agg #[.int .i64 x.kind, .int .i64 x.level, .slice s.ea s.el s.ec, .int .i64 x.hb, .string x.hr, .int .i64 x.cr, .int .i64 x.cc, .slice s.ca s.cl s.cc, .int .i64 x.gf, .slice s.ga s.gl s.gc]] W fun e w' => ∃ v, e = .returned v ∧ v = skVal x.cut s.cut ∧ Below W.heap.size W w') := fun z u W h => (few10_any x s W h.a0).mono fun e w' h => ⟨_, h.1, rfl, h.2⟩
  have HF1 : Hid (∀ (z : Sk) (u : SS) W, In2 w z u y t W → Calls Tryd.prog 7 #[.agg #[.int .i64 y.kind, .int .i64 y.level, .slice t.ea t.el t.ec, .int .i64 y.hb, .string y.hr, .int .i64 y.cr, .int .i64 y.cc, .slice t.ca t.cl t.cc, .int .i64 y.gf, .slice t.ga t.gl t.gc]] W fun e w' => ∃ v, e = .returned v ∧ v = skVal y.cut t.cut ∧ Below W.heap.size W w') := fun z u W h => (few10_any y t W h.a1).mono fun e w' h => ⟨_, h.1, rfl, h.2⟩
  have HC0 : Hid (∀ (z : Sk) (u : SS) W, In2 w x s z u W → s.cut.At W.heap.size W x.cut) := fun z u W h => h.a0.cut
  have HC1 : Hid (∀ (z : Sk) (u : SS) W, In2 w z u y t W → t.cut.At W.heap.size W y.cut) := fun z u W h => h.a1.cut
  have hfx := hax.cut
  have hfy := hay.cut
  generalize x.cut = x2 at hfx HF0 HC0
  generalize s.cut = s2 at HF0 HC0
  generalize y.cut = y2 at hfy HF1 HC1
  generalize t.cut = t2 at HF1 HC1
  have HL := fun (h1 : skOk x2 = true) (h2 : skOk y2 = true) => apart_law x2 y2 h1 h2 hfx hfy
  have HE0 : Hid (∀ W, In2 w x2 s2 y2 t2 W → Calls Tryd.prog 8 #[.agg #[.int .i64 x2.kind, .int .i64 x2.level, .slice s2.ea s2.el s2.ec, .int .i64 x2.hb, .string x2.hr, .int .i64 x2.cr, .int .i64 x2.cc, .slice s2.ca s2.cl s2.cc, .int .i64 x2.gf, .slice s2.ga s2.gl s2.gc]] W fun e w' => e = .returned (.tuple #[.string (encS x2), .int .i64 (encE x2)]) ∧ Below W.heap.size W w') := fun W h => Encode_any x2 s2 W h.a0 (hfx.short h.a0) hfx.fit hfx.num hfx.few
  have HE1 : Hid (∀ W, In2 w x2 s2 y2 t2 W → Calls Tryd.prog 8 #[.agg #[.int .i64 y2.kind, .int .i64 y2.level, .slice t2.ea t2.el t2.ec, .int .i64 y2.hb, .string y2.hr, .int .i64 y2.cr, .int .i64 y2.cc, .slice t2.ca t2.cl t2.cc, .int .i64 y2.gf, .slice t2.ga t2.gl t2.gc]] W fun e w' => e = .returned (.tuple #[.string (encS y2), .int .i64 (encE y2)]) ∧ Below W.heap.size W w') := fun W h => Encode_any y2 t2 W h.a1 (hfy.short h.a1) hfy.fit hfy.num hfy.few
  have HSm : Hid (∀ W, In2 w x2 s2 y2 t2 W → Calls Tryd.prog 11 #[.agg #[.int .i64 x2.kind, .int .i64 x2.level, .slice s2.ea s2.el s2.ec, .int .i64 x2.hb, .string x2.hr, .int .i64 x2.cr, .int .i64 x2.cc, .slice s2.ca s2.cl s2.cc, .int .i64 x2.gf, .slice s2.ga s2.gl s2.gc], .agg #[.int .i64 y2.kind, .int .i64 y2.level, .slice t2.ea t2.el t2.ec, .int .i64 y2.hb, .string y2.hr, .int .i64 y2.cr, .int .i64 y2.cc, .slice t2.ca t2.cl t2.cc, .int .i64 y2.gf, .slice t2.ga t2.gl t2.gc]] W fun e w' => e = .returned (.bool (skSame x2 y2)) ∧ Below W.heap.size W w') := fun W h => ladder_Same_any x2 y2 s2 t2 W h.a0 h.a1
  have HSz : Hid (∀ W, In2 w x2 s2 y2 t2 W → Calls Tryd.prog 13 #[.agg #[.int .i64 x2.kind, .int .i64 x2.level, .slice s2.ea s2.el s2.ec, .int .i64 x2.hb, .string x2.hr, .int .i64 x2.cr, .int .i64 x2.cc, .slice s2.ca s2.cl s2.cc, .int .i64 x2.gf, .slice s2.ga s2.gl s2.gc]] W fun e w' => e = .returned (.int .i64 (encS x2).size) ∧ Below W.heap.size W w') := fun W h => Size_any x2 s2 W h.a0 (hfx.short h.a0) hfx.fit hfx.num hfx.few
  clear hx hy hax hay hE hX0 hY0 hB0 hs0 hfx hfy
  cases hox : skOk x2 with
  | false =>
    have he : encE x2 = 100 := by rw [encE, hox]; rfl
    rw [he] at HE0
    generalize encS x2 = a at HE0 HSz
    generalize encS y2 = b at HE1
    generalize encE y2 = eb at HE1
    clear HL hox he
    go_enter Tryd.func4, Tryd.ntmps4
    go_wp2_with fail
    refine HS.out.mono ?_
    rintro e w1 ⟨rfl, hb1⟩
    have HI1 := Lib.hid (HI0.out.go hb1)
    have c0 : w1.cell? ⟨w.heap.size, 0, none⟩ = some (.int .i64 x.kind) := cell_of_cells HI1.out.b0 0
    have c1 : w1.cell? ⟨w.heap.size, 1, none⟩ = some (.int .i64 x.level) := cell_of_cells HI1.out.b0 1
    have c2 : w1.cell? ⟨w.heap.size, 2, none⟩ = some (.slice s.ea s.el s.ec) := cell_of_cells HI1.out.b0 2
    have c3 : w1.cell? ⟨w.heap.size, 3, none⟩ = some (.int .i64 x.hb) := cell_of_cells HI1.out.b0 3
    have c4 : w1.cell? ⟨w.heap.size, 4, none⟩ = some (.string x.hr) := cell_of_cells HI1.out.b0 4
    have c5 : w1.cell? ⟨w.heap.size, 5, none⟩ = some (.int .i64 x.cr) := cell_of_cells HI1.out.b0 5
    have c6 : w1.cell? ⟨w.heap.size, 6, none⟩ = some (.int .i64 x.cc) := cell_of_cells HI1.out.b0 6
    have c7 : w1.cell? ⟨w.heap.size, 7, none⟩ = some (.slice s.ca s.cl s.cc) := cell_of_cells HI1.out.b0 7
    have c8 : w1.cell? ⟨w.heap.size, 8, none⟩ = some (.int .i64 x.gf) := cell_of_cells HI1.out.b0 8
    have c9 : w1.cell? ⟨w.heap.size, 9, none⟩ = some (.slice s.ga s.gl s.gc) := cell_of_cells HI1.out.b0 9
    go_wp2_with fail
    refine (HF0.out _ _ w1 HI1.out).mono ?_
    rintro e w2 ⟨v, rfl, rfl, hb2⟩
    have HI2 := Lib.hid (HI1.out.go hb2)
    unfold skVal
    clear c0 c1 c2 c3 c4 c5 c6 c7 c8 c9
    have d0 : w2.cell? ⟨w.heap.size, 0, none⟩ = some (.int .i64 x.kind) := cell_of_cells HI2.out.b0 0
    have d1 : w2.cell? ⟨w.heap.size, 1, none⟩ = some (.int .i64 x.level) := cell_of_cells HI2.out.b0 1
    have d2 : w2.cell? ⟨w.heap.size, 2, none⟩ = some (.slice s.ea s.el s.ec) := cell_of_cells HI2.out.b0 2
    have d3 : w2.cell? ⟨w.heap.size, 3, none⟩ = some (.int .i64 x.hb) := cell_of_cells HI2.out.b0 3
    have d4 : w2.cell? ⟨w.heap.size, 4, none⟩ = some (.string x.hr) := cell_of_cells HI2.out.b0 4
    have d5 : w2.cell? ⟨w.heap.size, 5, none⟩ = some (.int .i64 x.cr) := cell_of_cells HI2.out.b0 5
    have d6 : w2.cell? ⟨w.heap.size, 6, none⟩ = some (.int .i64 x.cc) := cell_of_cells HI2.out.b0 6
    have d7 : w2.cell? ⟨w.heap.size, 7, none⟩ = some (.slice s.ca s.cl s.cc) := cell_of_cells HI2.out.b0 7
    have d8 : w2.cell? ⟨w.heap.size, 8, none⟩ = some (.int .i64 x.gf) := cell_of_cells HI2.out.b0 8
    have d9 : w2.cell? ⟨w.heap.size, 9, none⟩ = some (.slice s.ga s.gl s.gc) := cell_of_cells HI2.out.b0 9
    have f0 : w2.frozen? ⟨w.heap.size, 0, none⟩ = false := frozen_of_cells HI2.out.b0 0
    have f1 : w2.frozen? ⟨w.heap.size, 1, none⟩ = false := frozen_of_cells HI2.out.b0 1
    have f2 : w2.frozen? ⟨w.heap.size, 2, none⟩ = false := frozen_of_cells HI2.out.b0 2
    have f3 : w2.frozen? ⟨w.heap.size, 3, none⟩ = false := frozen_of_cells HI2.out.b0 3
    have f4 : w2.frozen? ⟨w.heap.size, 4, none⟩ = false := frozen_of_cells HI2.out.b0 4
    have f5 : w2.frozen? ⟨w.heap.size, 5, none⟩ = false := frozen_of_cells HI2.out.b0 5
    have f6 : w2.frozen? ⟨w.heap.size, 6, none⟩ = false := frozen_of_cells HI2.out.b0 6
    have f7 : w2.frozen? ⟨w.heap.size, 7, none⟩ = false := frozen_of_cells HI2.out.b0 7
    have f8 : w2.frozen? ⟨w.heap.size, 8, none⟩ = false := frozen_of_cells HI2.out.b0 8
    have f9 : w2.frozen? ⟨w.heap.size, 9, none⟩ = false := frozen_of_cells HI2.out.b0 9
    obtain ⟨V, hV⟩ : ∃ V, store10 w2 (w.heap.size) x2 s2 = V := ⟨_, rfl⟩
    have HI3 : Hid (In2 w x2 s2 y t V) := by rw [← hV]; exact HI2.out.store0 (HC0.out _ _ w2 HI2.out)
    unfold store10 at hV
    have g0 : V.cell? ⟨w.heap.size + 1, 0, none⟩ = some (.int .i64 y.kind) := cell_of_cells HI3.out.b1 0
    have g1 : V.cell? ⟨w.heap.size + 1, 1, none⟩ = some (.int .i64 y.level) := cell_of_cells HI3.out.b1 1
    have g2 : V.cell? ⟨w.heap.size + 1, 2, none⟩ = some (.slice t.ea t.el t.ec) := cell_of_cells HI3.out.b1 2
    have g3 : V.cell? ⟨w.heap.size + 1, 3, none⟩ = some (.int .i64 y.hb) := cell_of_cells HI3.out.b1 3
    have g4 : V.cell? ⟨w.heap.size + 1, 4, none⟩ = some (.string y.hr) := cell_of_cells HI3.out.b1 4
    have g5 : V.cell? ⟨w.heap.size + 1, 5, none⟩ = some (.int .i64 y.cr) := cell_of_cells HI3.out.b1 5
    have g6 : V.cell? ⟨w.heap.size + 1, 6, none⟩ = some (.int .i64 y.cc) := cell_of_cells HI3.out.b1 6
    have g7 : V.cell? ⟨w.heap.size + 1, 7, none⟩ = some (.slice t.ca t.cl t.cc) := cell_of_cells HI3.out.b1 7
    have g8 : V.cell? ⟨w.heap.size + 1, 8, none⟩ = some (.int .i64 y.gf) := cell_of_cells HI3.out.b1 8
    have g9 : V.cell? ⟨w.heap.size + 1, 9, none⟩ = some (.slice t.ga t.gl t.gc) := cell_of_cells HI3.out.b1 9
    go_wp2_with fail
    refine (HF1.out _ _ V HI3.out).mono ?_
    rintro e w3 ⟨v, rfl, rfl, hb3⟩
    have HI4 := Lib.hid (HI3.out.go hb3)
    unfold skVal
    clear hV d0 d1 d2 d3 d4 d5 d6 d7 d8 d9 f0 f1 f2 f3 f4 f5 f6 f7 f8 f9 g0 g1 g2 g3 g4 g5 g6 g7 g8 g9
    have d0 : w3.cell? ⟨w.heap.size + 1, 0, none⟩ = some (.int .i64 y.kind) := cell_of_cells HI4.out.b1 0
    have d1 : w3.cell? ⟨w.heap.size + 1, 1, none⟩ = some (.int .i64 y.level) := cell_of_cells HI4.out.b1 1
    have d2 : w3.cell? ⟨w.heap.size + 1, 2, none⟩ = some (.slice t.ea t.el t.ec) := cell_of_cells HI4.out.b1 2
    have d3 : w3.cell? ⟨w.heap.size + 1, 3, none⟩ = some (.int .i64 y.hb) := cell_of_cells HI4.out.b1 3
    have d4 : w3.cell? ⟨w.heap.size + 1, 4, none⟩ = some (.string y.hr) := cell_of_cells HI4.out.b1 4
    have d5 : w3.cell? ⟨w.heap.size + 1, 5, none⟩ = some (.int .i64 y.cr) := cell_of_cells HI4.out.b1 5
    have d6 : w3.cell? ⟨w.heap.size + 1, 6, none⟩ = some (.int .i64 y.cc) := cell_of_cells HI4.out.b1 6
    have d7 : w3.cell? ⟨w.heap.size + 1, 7, none⟩ = some (.slice t.ca t.cl t.cc) := cell_of_cells HI4.out.b1 7
    have d8 : w3.cell? ⟨w.heap.size + 1, 8, none⟩ = some (.int .i64 y.gf) := cell_of_cells HI4.out.b1 8
    have d9 : w3.cell? ⟨w.heap.size + 1, 9, none⟩ = some (.slice t.ga t.gl t.gc) := cell_of_cells HI4.out.b1 9
    have f0 : w3.frozen? ⟨w.heap.size + 1, 0, none⟩ = false := frozen_of_cells HI4.out.b1 0
    have f1 : w3.frozen? ⟨w.heap.size + 1, 1, none⟩ = false := frozen_of_cells HI4.out.b1 1
    have f2 : w3.frozen? ⟨w.heap.size + 1, 2, none⟩ = false := frozen_of_cells HI4.out.b1 2
    have f3 : w3.frozen? ⟨w.heap.size + 1, 3, none⟩ = false := frozen_of_cells HI4.out.b1 3
    have f4 : w3.frozen? ⟨w.heap.size + 1, 4, none⟩ = false := frozen_of_cells HI4.out.b1 4
    have f5 : w3.frozen? ⟨w.heap.size + 1, 5, none⟩ = false := frozen_of_cells HI4.out.b1 5
    have f6 : w3.frozen? ⟨w.heap.size + 1, 6, none⟩ = false := frozen_of_cells HI4.out.b1 6
    have f7 : w3.frozen? ⟨w.heap.size + 1, 7, none⟩ = false := frozen_of_cells HI4.out.b1 7
    have f8 : w3.frozen? ⟨w.heap.size + 1, 8, none⟩ = false := frozen_of_cells HI4.out.b1 8
    have f9 : w3.frozen? ⟨w.heap.size + 1, 9, none⟩ = false := frozen_of_cells HI4.out.b1 9
    obtain ⟨U, hU⟩ : ∃ U, store10 w3 (w.heap.size + 1) y2 t2 = U := ⟨_, rfl⟩
    have HI5 : Hid (In2 w x2 s2 y2 t2 U) := by rw [← hU]; exact HI4.out.store1 (HC1.out _ _ w3 HI4.out)
    unfold store10 at hU
    have g0 : U.cell? ⟨w.heap.size, 0, none⟩ = some (.int .i64 x2.kind) := cell_of_cells HI5.out.b0 0
    have g1 : U.cell? ⟨w.heap.size, 1, none⟩ = some (.int .i64 x2.level) := cell_of_cells HI5.out.b0 1
    have g2 : U.cell? ⟨w.heap.size, 2, none⟩ = some (.slice s2.ea s2.el s2.ec) := cell_of_cells HI5.out.b0 2
    have g3 : U.cell? ⟨w.heap.size, 3, none⟩ = some (.int .i64 x2.hb) := cell_of_cells HI5.out.b0 3
    have g4 : U.cell? ⟨w.heap.size, 4, none⟩ = some (.string x2.hr) := cell_of_cells HI5.out.b0 4
    have g5 : U.cell? ⟨w.heap.size, 5, none⟩ = some (.int .i64 x2.cr) := cell_of_cells HI5.out.b0 5
    have g6 : U.cell? ⟨w.heap.size, 6, none⟩ = some (.int .i64 x2.cc) := cell_of_cells HI5.out.b0 6
    have g7 : U.cell? ⟨w.heap.size, 7, none⟩ = some (.slice s2.ca s2.cl s2.cc) := cell_of_cells HI5.out.b0 7
    have g8 : U.cell? ⟨w.heap.size, 8, none⟩ = some (.int .i64 x2.gf) := cell_of_cells HI5.out.b0 8
    have g9 : U.cell? ⟨w.heap.size, 9, none⟩ = some (.slice s2.ga s2.gl s2.gc) := cell_of_cells HI5.out.b0 9
    go_wp2_with fail
    refine (HE0.out U HI5.out).mono ?_
    rintro e w4 ⟨rfl, hb4⟩
    have HI6 := Lib.hid (HI5.out.go hb4)
    clear hU d0 d1 d2 d3 d4 d5 d6 d7 d8 d9 f0 f1 f2 f3 f4 f5 f6 f7 f8 f9 g0 g1 g2 g3 g4 g5 g6 g7 g8 g9
    have c0 : w4.cell? ⟨w.heap.size + 1, 0, none⟩ = some (.int .i64 y2.kind) := cell_of_cells HI6.out.b1 0
    have c1 : w4.cell? ⟨w.heap.size + 1, 1, none⟩ = some (.int .i64 y2.level) := cell_of_cells HI6.out.b1 1
    have c2 : w4.cell? ⟨w.heap.size + 1, 2, none⟩ = some (.slice t2.ea t2.el t2.ec) := cell_of_cells HI6.out.b1 2
    have c3 : w4.cell? ⟨w.heap.size + 1, 3, none⟩ = some (.int .i64 y2.hb) := cell_of_cells HI6.out.b1 3
    have c4 : w4.cell? ⟨w.heap.size + 1, 4, none⟩ = some (.string y2.hr) := cell_of_cells HI6.out.b1 4
    have c5 : w4.cell? ⟨w.heap.size + 1, 5, none⟩ = some (.int .i64 y2.cr) := cell_of_cells HI6.out.b1 5
    have c6 : w4.cell? ⟨w.heap.size + 1, 6, none⟩ = some (.int .i64 y2.cc) := cell_of_cells HI6.out.b1 6
    have c7 : w4.cell? ⟨w.heap.size + 1, 7, none⟩ = some (.slice t2.ca t2.cl t2.cc) := cell_of_cells HI6.out.b1 7
    have c8 : w4.cell? ⟨w.heap.size + 1, 8, none⟩ = some (.int .i64 y2.gf) := cell_of_cells HI6.out.b1 8
    have c9 : w4.cell? ⟨w.heap.size + 1, 9, none⟩ = some (.slice t2.ga t2.gl t2.gc) := cell_of_cells HI6.out.b1 9
    go_wp2_with fail
    refine (HE1.out w4 HI6.out).mono ?_
    rintro e w5 ⟨rfl, hb5⟩
    have HI7 := Lib.hid (HI6.out.go hb5)
    clear c0 c1 c2 c3 c4 c5 c6 c7 c8 c9
    have c0 : w5.cell? ⟨w.heap.size, 0, none⟩ = some (.int .i64 x2.kind) := cell_of_cells HI7.out.b0 0
    have c1 : w5.cell? ⟨w.heap.size, 1, none⟩ = some (.int .i64 x2.level) := cell_of_cells HI7.out.b0 1
    have c2 : w5.cell? ⟨w.heap.size, 2, none⟩ = some (.slice s2.ea s2.el s2.ec) := cell_of_cells HI7.out.b0 2
    have c3 : w5.cell? ⟨w.heap.size, 3, none⟩ = some (.int .i64 x2.hb) := cell_of_cells HI7.out.b0 3
    have c4 : w5.cell? ⟨w.heap.size, 4, none⟩ = some (.string x2.hr) := cell_of_cells HI7.out.b0 4
    have c5 : w5.cell? ⟨w.heap.size, 5, none⟩ = some (.int .i64 x2.cr) := cell_of_cells HI7.out.b0 5
    have c6 : w5.cell? ⟨w.heap.size, 6, none⟩ = some (.int .i64 x2.cc) := cell_of_cells HI7.out.b0 6
    have c7 : w5.cell? ⟨w.heap.size, 7, none⟩ = some (.slice s2.ca s2.cl s2.cc) := cell_of_cells HI7.out.b0 7
    have c8 : w5.cell? ⟨w.heap.size, 8, none⟩ = some (.int .i64 x2.gf) := cell_of_cells HI7.out.b0 8
    have c9 : w5.cell? ⟨w.heap.size, 9, none⟩ = some (.slice s2.ga s2.gl s2.gc) := cell_of_cells HI7.out.b0 9
    have d0 : w5.cell? ⟨w.heap.size + 1, 0, none⟩ = some (.int .i64 y2.kind) := cell_of_cells HI7.out.b1 0
    have d1 : w5.cell? ⟨w.heap.size + 1, 1, none⟩ = some (.int .i64 y2.level) := cell_of_cells HI7.out.b1 1
    have d2 : w5.cell? ⟨w.heap.size + 1, 2, none⟩ = some (.slice t2.ea t2.el t2.ec) := cell_of_cells HI7.out.b1 2
    have d3 : w5.cell? ⟨w.heap.size + 1, 3, none⟩ = some (.int .i64 y2.hb) := cell_of_cells HI7.out.b1 3
    have d4 : w5.cell? ⟨w.heap.size + 1, 4, none⟩ = some (.string y2.hr) := cell_of_cells HI7.out.b1 4
    have d5 : w5.cell? ⟨w.heap.size + 1, 5, none⟩ = some (.int .i64 y2.cr) := cell_of_cells HI7.out.b1 5
    have d6 : w5.cell? ⟨w.heap.size + 1, 6, none⟩ = some (.int .i64 y2.cc) := cell_of_cells HI7.out.b1 6
    have d7 : w5.cell? ⟨w.heap.size + 1, 7, none⟩ = some (.slice t2.ca t2.cl t2.cc) := cell_of_cells HI7.out.b1 7
    have d8 : w5.cell? ⟨w.heap.size + 1, 8, none⟩ = some (.int .i64 y2.gf) := cell_of_cells HI7.out.b1 8
    have d9 : w5.cell? ⟨w.heap.size + 1, 9, none⟩ = some (.slice t2.ga t2.gl t2.gc) := cell_of_cells HI7.out.b1 9
    go_wp2_with fail
    go_ret
    exact ⟨rfl, HI7.out.below⟩
  | true =>
    have he : encE x2 = 0 := by rw [encE, hox]; rfl
    rw [he] at HE0
    cases hoy : skOk y2 with
    | false =>
      have he2 : encE y2 = 100 := by rw [encE, hoy]; rfl
      rw [he2] at HE1
      generalize encS x2 = a at HE0 HSz
      generalize encS y2 = b at HE1
      clear HL hox hoy he he2
      go_enter Tryd.func4, Tryd.ntmps4
      go_wp2_with fail
      refine HS.out.mono ?_
      rintro e w1 ⟨rfl, hb1⟩
      have HI1 := Lib.hid (HI0.out.go hb1)
      have c0 : w1.cell? ⟨w.heap.size, 0, none⟩ = some (.int .i64 x.kind) := cell_of_cells HI1.out.b0 0
      have c1 : w1.cell? ⟨w.heap.size, 1, none⟩ = some (.int .i64 x.level) := cell_of_cells HI1.out.b0 1
      have c2 : w1.cell? ⟨w.heap.size, 2, none⟩ = some (.slice s.ea s.el s.ec) := cell_of_cells HI1.out.b0 2
      have c3 : w1.cell? ⟨w.heap.size, 3, none⟩ = some (.int .i64 x.hb) := cell_of_cells HI1.out.b0 3
      have c4 : w1.cell? ⟨w.heap.size, 4, none⟩ = some (.string x.hr) := cell_of_cells HI1.out.b0 4
      have c5 : w1.cell? ⟨w.heap.size, 5, none⟩ = some (.int .i64 x.cr) := cell_of_cells HI1.out.b0 5
      have c6 : w1.cell? ⟨w.heap.size, 6, none⟩ = some (.int .i64 x.cc) := cell_of_cells HI1.out.b0 6
      have c7 : w1.cell? ⟨w.heap.size, 7, none⟩ = some (.slice s.ca s.cl s.cc) := cell_of_cells HI1.out.b0 7
      have c8 : w1.cell? ⟨w.heap.size, 8, none⟩ = some (.int .i64 x.gf) := cell_of_cells HI1.out.b0 8
      have c9 : w1.cell? ⟨w.heap.size, 9, none⟩ = some (.slice s.ga s.gl s.gc) := cell_of_cells HI1.out.b0 9
      go_wp2_with fail
      refine (HF0.out _ _ w1 HI1.out).mono ?_
      rintro e w2 ⟨v, rfl, rfl, hb2⟩
      have HI2 := Lib.hid (HI1.out.go hb2)
      unfold skVal
      clear c0 c1 c2 c3 c4 c5 c6 c7 c8 c9
      have d0 : w2.cell? ⟨w.heap.size, 0, none⟩ = some (.int .i64 x.kind) := cell_of_cells HI2.out.b0 0
      have d1 : w2.cell? ⟨w.heap.size, 1, none⟩ = some (.int .i64 x.level) := cell_of_cells HI2.out.b0 1
      have d2 : w2.cell? ⟨w.heap.size, 2, none⟩ = some (.slice s.ea s.el s.ec) := cell_of_cells HI2.out.b0 2
      have d3 : w2.cell? ⟨w.heap.size, 3, none⟩ = some (.int .i64 x.hb) := cell_of_cells HI2.out.b0 3
      have d4 : w2.cell? ⟨w.heap.size, 4, none⟩ = some (.string x.hr) := cell_of_cells HI2.out.b0 4
      have d5 : w2.cell? ⟨w.heap.size, 5, none⟩ = some (.int .i64 x.cr) := cell_of_cells HI2.out.b0 5
      have d6 : w2.cell? ⟨w.heap.size, 6, none⟩ = some (.int .i64 x.cc) := cell_of_cells HI2.out.b0 6
      have d7 : w2.cell? ⟨w.heap.size, 7, none⟩ = some (.slice s.ca s.cl s.cc) := cell_of_cells HI2.out.b0 7
      have d8 : w2.cell? ⟨w.heap.size, 8, none⟩ = some (.int .i64 x.gf) := cell_of_cells HI2.out.b0 8
      have d9 : w2.cell? ⟨w.heap.size, 9, none⟩ = some (.slice s.ga s.gl s.gc) := cell_of_cells HI2.out.b0 9
      have f0 : w2.frozen? ⟨w.heap.size, 0, none⟩ = false := frozen_of_cells HI2.out.b0 0
      have f1 : w2.frozen? ⟨w.heap.size, 1, none⟩ = false := frozen_of_cells HI2.out.b0 1
      have f2 : w2.frozen? ⟨w.heap.size, 2, none⟩ = false := frozen_of_cells HI2.out.b0 2
      have f3 : w2.frozen? ⟨w.heap.size, 3, none⟩ = false := frozen_of_cells HI2.out.b0 3
      have f4 : w2.frozen? ⟨w.heap.size, 4, none⟩ = false := frozen_of_cells HI2.out.b0 4
      have f5 : w2.frozen? ⟨w.heap.size, 5, none⟩ = false := frozen_of_cells HI2.out.b0 5
      have f6 : w2.frozen? ⟨w.heap.size, 6, none⟩ = false := frozen_of_cells HI2.out.b0 6
      have f7 : w2.frozen? ⟨w.heap.size, 7, none⟩ = false := frozen_of_cells HI2.out.b0 7
      have f8 : w2.frozen? ⟨w.heap.size, 8, none⟩ = false := frozen_of_cells HI2.out.b0 8
      have f9 : w2.frozen? ⟨w.heap.size, 9, none⟩ = false := frozen_of_cells HI2.out.b0 9
      obtain ⟨V, hV⟩ : ∃ V, store10 w2 (w.heap.size) x2 s2 = V := ⟨_, rfl⟩
      have HI3 : Hid (In2 w x2 s2 y t V) := by rw [← hV]; exact HI2.out.store0 (HC0.out _ _ w2 HI2.out)
      unfold store10 at hV
      have g0 : V.cell? ⟨w.heap.size + 1, 0, none⟩ = some (.int .i64 y.kind) := cell_of_cells HI3.out.b1 0
      have g1 : V.cell? ⟨w.heap.size + 1, 1, none⟩ = some (.int .i64 y.level) := cell_of_cells HI3.out.b1 1
      have g2 : V.cell? ⟨w.heap.size + 1, 2, none⟩ = some (.slice t.ea t.el t.ec) := cell_of_cells HI3.out.b1 2
      have g3 : V.cell? ⟨w.heap.size + 1, 3, none⟩ = some (.int .i64 y.hb) := cell_of_cells HI3.out.b1 3
      have g4 : V.cell? ⟨w.heap.size + 1, 4, none⟩ = some (.string y.hr) := cell_of_cells HI3.out.b1 4
      have g5 : V.cell? ⟨w.heap.size + 1, 5, none⟩ = some (.int .i64 y.cr) := cell_of_cells HI3.out.b1 5
      have g6 : V.cell? ⟨w.heap.size + 1, 6, none⟩ = some (.int .i64 y.cc) := cell_of_cells HI3.out.b1 6
      have g7 : V.cell? ⟨w.heap.size + 1, 7, none⟩ = some (.slice t.ca t.cl t.cc) := cell_of_cells HI3.out.b1 7
      have g8 : V.cell? ⟨w.heap.size + 1, 8, none⟩ = some (.int .i64 y.gf) := cell_of_cells HI3.out.b1 8
      have g9 : V.cell? ⟨w.heap.size + 1, 9, none⟩ = some (.slice t.ga t.gl t.gc) := cell_of_cells HI3.out.b1 9
      go_wp2_with fail
      refine (HF1.out _ _ V HI3.out).mono ?_
      rintro e w3 ⟨v, rfl, rfl, hb3⟩
      have HI4 := Lib.hid (HI3.out.go hb3)
      unfold skVal
      clear hV d0 d1 d2 d3 d4 d5 d6 d7 d8 d9 f0 f1 f2 f3 f4 f5 f6 f7 f8 f9 g0 g1 g2 g3 g4 g5 g6 g7 g8 g9
      have d0 : w3.cell? ⟨w.heap.size + 1, 0, none⟩ = some (.int .i64 y.kind) := cell_of_cells HI4.out.b1 0
      have d1 : w3.cell? ⟨w.heap.size + 1, 1, none⟩ = some (.int .i64 y.level) := cell_of_cells HI4.out.b1 1
      have d2 : w3.cell? ⟨w.heap.size + 1, 2, none⟩ = some (.slice t.ea t.el t.ec) := cell_of_cells HI4.out.b1 2
      have d3 : w3.cell? ⟨w.heap.size + 1, 3, none⟩ = some (.int .i64 y.hb) := cell_of_cells HI4.out.b1 3
      have d4 : w3.cell? ⟨w.heap.size + 1, 4, none⟩ = some (.string y.hr) := cell_of_cells HI4.out.b1 4
      have d5 : w3.cell? ⟨w.heap.size + 1, 5, none⟩ = some (.int .i64 y.cr) := cell_of_cells HI4.out.b1 5
      have d6 : w3.cell? ⟨w.heap.size + 1, 6, none⟩ = some (.int .i64 y.cc) := cell_of_cells HI4.out.b1 6
      have d7 : w3.cell? ⟨w.heap.size + 1, 7, none⟩ = some (.slice t.ca t.cl t.cc) := cell_of_cells HI4.out.b1 7
      have d8 : w3.cell? ⟨w.heap.size + 1, 8, none⟩ = some (.int .i64 y.gf) := cell_of_cells HI4.out.b1 8
      have d9 : w3.cell? ⟨w.heap.size + 1, 9, none⟩ = some (.slice t.ga t.gl t.gc) := cell_of_cells HI4.out.b1 9
      have f0 : w3.frozen? ⟨w.heap.size + 1, 0, none⟩ = false := frozen_of_cells HI4.out.b1 0
      have f1 : w3.frozen? ⟨w.heap.size + 1, 1, none⟩ = false := frozen_of_cells HI4.out.b1 1
      have f2 : w3.frozen? ⟨w.heap.size + 1, 2, none⟩ = false := frozen_of_cells HI4.out.b1 2
      have f3 : w3.frozen? ⟨w.heap.size + 1, 3, none⟩ = false := frozen_of_cells HI4.out.b1 3
      have f4 : w3.frozen? ⟨w.heap.size + 1, 4, none⟩ = false := frozen_of_cells HI4.out.b1 4
      have f5 : w3.frozen? ⟨w.heap.size + 1, 5, none⟩ = false := frozen_of_cells HI4.out.b1 5
      have f6 : w3.frozen? ⟨w.heap.size + 1, 6, none⟩ = false := frozen_of_cells HI4.out.b1 6
      have f7 : w3.frozen? ⟨w.heap.size + 1, 7, none⟩ = false := frozen_of_cells HI4.out.b1 7
      have f8 : w3.frozen? ⟨w.heap.size + 1, 8, none⟩ = false := frozen_of_cells HI4.out.b1 8
      have f9 : w3.frozen? ⟨w.heap.size + 1, 9, none⟩ = false := frozen_of_cells HI4.out.b1 9
      obtain ⟨U, hU⟩ : ∃ U, store10 w3 (w.heap.size + 1) y2 t2 = U := ⟨_, rfl⟩
      have HI5 : Hid (In2 w x2 s2 y2 t2 U) := by rw [← hU]; exact HI4.out.store1 (HC1.out _ _ w3 HI4.out)
      unfold store10 at hU
      have g0 : U.cell? ⟨w.heap.size, 0, none⟩ = some (.int .i64 x2.kind) := cell_of_cells HI5.out.b0 0
      have g1 : U.cell? ⟨w.heap.size, 1, none⟩ = some (.int .i64 x2.level) := cell_of_cells HI5.out.b0 1
      have g2 : U.cell? ⟨w.heap.size, 2, none⟩ = some (.slice s2.ea s2.el s2.ec) := cell_of_cells HI5.out.b0 2
      have g3 : U.cell? ⟨w.heap.size, 3, none⟩ = some (.int .i64 x2.hb) := cell_of_cells HI5.out.b0 3
      have g4 : U.cell? ⟨w.heap.size, 4, none⟩ = some (.string x2.hr) := cell_of_cells HI5.out.b0 4
      have g5 : U.cell? ⟨w.heap.size, 5, none⟩ = some (.int .i64 x2.cr) := cell_of_cells HI5.out.b0 5
      have g6 : U.cell? ⟨w.heap.size, 6, none⟩ = some (.int .i64 x2.cc) := cell_of_cells HI5.out.b0 6
      have g7 : U.cell? ⟨w.heap.size, 7, none⟩ = some (.slice s2.ca s2.cl s2.cc) := cell_of_cells HI5.out.b0 7
      have g8 : U.cell? ⟨w.heap.size, 8, none⟩ = some (.int .i64 x2.gf) := cell_of_cells HI5.out.b0 8
      have g9 : U.cell? ⟨w.heap.size, 9, none⟩ = some (.slice s2.ga s2.gl s2.gc) := cell_of_cells HI5.out.b0 9
      go_wp2_with fail
      refine (HE0.out U HI5.out).mono ?_
      rintro e w4 ⟨rfl, hb4⟩
      have HI6 := Lib.hid (HI5.out.go hb4)
      clear hU d0 d1 d2 d3 d4 d5 d6 d7 d8 d9 f0 f1 f2 f3 f4 f5 f6 f7 f8 f9 g0 g1 g2 g3 g4 g5 g6 g7 g8 g9
      have c0 : w4.cell? ⟨w.heap.size + 1, 0, none⟩ = some (.int .i64 y2.kind) := cell_of_cells HI6.out.b1 0
      have c1 : w4.cell? ⟨w.heap.size + 1, 1, none⟩ = some (.int .i64 y2.level) := cell_of_cells HI6.out.b1 1
      have c2 : w4.cell? ⟨w.heap.size + 1, 2, none⟩ = some (.slice t2.ea t2.el t2.ec) := cell_of_cells HI6.out.b1 2
      have c3 : w4.cell? ⟨w.heap.size + 1, 3, none⟩ = some (.int .i64 y2.hb) := cell_of_cells HI6.out.b1 3
      have c4 : w4.cell? ⟨w.heap.size + 1, 4, none⟩ = some (.string y2.hr) := cell_of_cells HI6.out.b1 4
      have c5 : w4.cell? ⟨w.heap.size + 1, 5, none⟩ = some (.int .i64 y2.cr) := cell_of_cells HI6.out.b1 5
      have c6 : w4.cell? ⟨w.heap.size + 1, 6, none⟩ = some (.int .i64 y2.cc) := cell_of_cells HI6.out.b1 6
      have c7 : w4.cell? ⟨w.heap.size + 1, 7, none⟩ = some (.slice t2.ca t2.cl t2.cc) := cell_of_cells HI6.out.b1 7
      have c8 : w4.cell? ⟨w.heap.size + 1, 8, none⟩ = some (.int .i64 y2.gf) := cell_of_cells HI6.out.b1 8
      have c9 : w4.cell? ⟨w.heap.size + 1, 9, none⟩ = some (.slice t2.ga t2.gl t2.gc) := cell_of_cells HI6.out.b1 9
      go_wp2_with fail
      refine (HE1.out w4 HI6.out).mono ?_
      rintro e w5 ⟨rfl, hb5⟩
      have HI7 := Lib.hid (HI6.out.go hb5)
      clear c0 c1 c2 c3 c4 c5 c6 c7 c8 c9
      have c0 : w5.cell? ⟨w.heap.size, 0, none⟩ = some (.int .i64 x2.kind) := cell_of_cells HI7.out.b0 0
      have c1 : w5.cell? ⟨w.heap.size, 1, none⟩ = some (.int .i64 x2.level) := cell_of_cells HI7.out.b0 1
      have c2 : w5.cell? ⟨w.heap.size, 2, none⟩ = some (.slice s2.ea s2.el s2.ec) := cell_of_cells HI7.out.b0 2
      have c3 : w5.cell? ⟨w.heap.size, 3, none⟩ = some (.int .i64 x2.hb) := cell_of_cells HI7.out.b0 3
      have c4 : w5.cell? ⟨w.heap.size, 4, none⟩ = some (.string x2.hr) := cell_of_cells HI7.out.b0 4
      have c5 : w5.cell? ⟨w.heap.size, 5, none⟩ = some (.int .i64 x2.cr) := cell_of_cells HI7.out.b0 5
      have c6 : w5.cell? ⟨w.heap.size, 6, none⟩ = some (.int .i64 x2.cc) := cell_of_cells HI7.out.b0 6
      have c7 : w5.cell? ⟨w.heap.size, 7, none⟩ = some (.slice s2.ca s2.cl s2.cc) := cell_of_cells HI7.out.b0 7
      have c8 : w5.cell? ⟨w.heap.size, 8, none⟩ = some (.int .i64 x2.gf) := cell_of_cells HI7.out.b0 8
      have c9 : w5.cell? ⟨w.heap.size, 9, none⟩ = some (.slice s2.ga s2.gl s2.gc) := cell_of_cells HI7.out.b0 9
      have d0 : w5.cell? ⟨w.heap.size + 1, 0, none⟩ = some (.int .i64 y2.kind) := cell_of_cells HI7.out.b1 0
      have d1 : w5.cell? ⟨w.heap.size + 1, 1, none⟩ = some (.int .i64 y2.level) := cell_of_cells HI7.out.b1 1
      have d2 : w5.cell? ⟨w.heap.size + 1, 2, none⟩ = some (.slice t2.ea t2.el t2.ec) := cell_of_cells HI7.out.b1 2
      have d3 : w5.cell? ⟨w.heap.size + 1, 3, none⟩ = some (.int .i64 y2.hb) := cell_of_cells HI7.out.b1 3
      have d4 : w5.cell? ⟨w.heap.size + 1, 4, none⟩ = some (.string y2.hr) := cell_of_cells HI7.out.b1 4
      have d5 : w5.cell? ⟨w.heap.size + 1, 5, none⟩ = some (.int .i64 y2.cr) := cell_of_cells HI7.out.b1 5
      have d6 : w5.cell? ⟨w.heap.size + 1, 6, none⟩ = some (.int .i64 y2.cc) := cell_of_cells HI7.out.b1 6
      have d7 : w5.cell? ⟨w.heap.size + 1, 7, none⟩ = some (.slice t2.ca t2.cl t2.cc) := cell_of_cells HI7.out.b1 7
      have d8 : w5.cell? ⟨w.heap.size + 1, 8, none⟩ = some (.int .i64 y2.gf) := cell_of_cells HI7.out.b1 8
      have d9 : w5.cell? ⟨w.heap.size + 1, 9, none⟩ = some (.slice t2.ga t2.gl t2.gc) := cell_of_cells HI7.out.b1 9
      go_wp2_with fail
      go_ret
      exact ⟨rfl, HI7.out.below⟩
    | true =>
      have he2 : encE y2 = 0 := by rw [encE, hoy]; rfl
      rw [he2] at HE1
      obtain ⟨L1, L2⟩ := HL hox hoy
      generalize encS x2 = a at HE0 HSz L1 L2
      generalize encS y2 = b at HE1 L1 L2
      clear hox hoy he he2
      cases hsm : skSame x2 y2 with
      | true =>
        have hab := L1 hsm
        subst hab
        rw [hsm] at HSm
        have hq : ((a.extract 0 a.size).toList == a.toList) = true := by rw [bytes_eq, extract_take, List.take_of_length_le (by rw [Array.length_toList]; exact Nat.le_refl _)]
        clear L1 L2 hsm
        go_enter Tryd.func4, Tryd.ntmps4
        go_wp2_with fail
        refine HS.out.mono ?_
        rintro e w1 ⟨rfl, hb1⟩
        have HI1 := Lib.hid (HI0.out.go hb1)
        have c0 : w1.cell? ⟨w.heap.size, 0, none⟩ = some (.int .i64 x.kind) := cell_of_cells HI1.out.b0 0
        have c1 : w1.cell? ⟨w.heap.size, 1, none⟩ = some (.int .i64 x.level) := cell_of_cells HI1.out.b0 1
        have c2 : w1.cell? ⟨w.heap.size, 2, none⟩ = some (.slice s.ea s.el s.ec) := cell_of_cells HI1.out.b0 2
        have c3 : w1.cell? ⟨w.heap.size, 3, none⟩ = some (.int .i64 x.hb) := cell_of_cells HI1.out.b0 3
        have c4 : w1.cell? ⟨w.heap.size, 4, none⟩ = some (.string x.hr) := cell_of_cells HI1.out.b0 4
        have c5 : w1.cell? ⟨w.heap.size, 5, none⟩ = some (.int .i64 x.cr) := cell_of_cells HI1.out.b0 5
        have c6 : w1.cell? ⟨w.heap.size, 6, none⟩ = some (.int .i64 x.cc) := cell_of_cells HI1.out.b0 6
        have c7 : w1.cell? ⟨w.heap.size, 7, none⟩ = some (.slice s.ca s.cl s.cc) := cell_of_cells HI1.out.b0 7
        have c8 : w1.cell? ⟨w.heap.size, 8, none⟩ = some (.int .i64 x.gf) := cell_of_cells HI1.out.b0 8
        have c9 : w1.cell? ⟨w.heap.size, 9, none⟩ = some (.slice s.ga s.gl s.gc) := cell_of_cells HI1.out.b0 9
        go_wp2_with fail
        refine (HF0.out _ _ w1 HI1.out).mono ?_
        rintro e w2 ⟨v, rfl, rfl, hb2⟩
        have HI2 := Lib.hid (HI1.out.go hb2)
        unfold skVal
        clear c0 c1 c2 c3 c4 c5 c6 c7 c8 c9
        have d0 : w2.cell? ⟨w.heap.size, 0, none⟩ = some (.int .i64 x.kind) := cell_of_cells HI2.out.b0 0
        have d1 : w2.cell? ⟨w.heap.size, 1, none⟩ = some (.int .i64 x.level) := cell_of_cells HI2.out.b0 1
        have d2 : w2.cell? ⟨w.heap.size, 2, none⟩ = some (.slice s.ea s.el s.ec) := cell_of_cells HI2.out.b0 2
        have d3 : w2.cell? ⟨w.heap.size, 3, none⟩ = some (.int .i64 x.hb) := cell_of_cells HI2.out.b0 3
        have d4 : w2.cell? ⟨w.heap.size, 4, none⟩ = some (.string x.hr) := cell_of_cells HI2.out.b0 4
        have d5 : w2.cell? ⟨w.heap.size, 5, none⟩ = some (.int .i64 x.cr) := cell_of_cells HI2.out.b0 5
        have d6 : w2.cell? ⟨w.heap.size, 6, none⟩ = some (.int .i64 x.cc) := cell_of_cells HI2.out.b0 6
        have d7 : w2.cell? ⟨w.heap.size, 7, none⟩ = some (.slice s.ca s.cl s.cc) := cell_of_cells HI2.out.b0 7
        have d8 : w2.cell? ⟨w.heap.size, 8, none⟩ = some (.int .i64 x.gf) := cell_of_cells HI2.out.b0 8
        have d9 : w2.cell? ⟨w.heap.size, 9, none⟩ = some (.slice s.ga s.gl s.gc) := cell_of_cells HI2.out.b0 9
        have f0 : w2.frozen? ⟨w.heap.size, 0, none⟩ = false := frozen_of_cells HI2.out.b0 0
        have f1 : w2.frozen? ⟨w.heap.size, 1, none⟩ = false := frozen_of_cells HI2.out.b0 1
        have f2 : w2.frozen? ⟨w.heap.size, 2, none⟩ = false := frozen_of_cells HI2.out.b0 2
        have f3 : w2.frozen? ⟨w.heap.size, 3, none⟩ = false := frozen_of_cells HI2.out.b0 3
        have f4 : w2.frozen? ⟨w.heap.size, 4, none⟩ = false := frozen_of_cells HI2.out.b0 4
        have f5 : w2.frozen? ⟨w.heap.size, 5, none⟩ = false := frozen_of_cells HI2.out.b0 5
        have f6 : w2.frozen? ⟨w.heap.size, 6, none⟩ = false := frozen_of_cells HI2.out.b0 6
        have f7 : w2.frozen? ⟨w.heap.size, 7, none⟩ = false := frozen_of_cells HI2.out.b0 7
        have f8 : w2.frozen? ⟨w.heap.size, 8, none⟩ = false := frozen_of_cells HI2.out.b0 8
        have f9 : w2.frozen? ⟨w.heap.size, 9, none⟩ = false := frozen_of_cells HI2.out.b0 9
        obtain ⟨V, hV⟩ : ∃ V, store10 w2 (w.heap.size) x2 s2 = V := ⟨_, rfl⟩
        have HI3 : Hid (In2 w x2 s2 y t V) := by rw [← hV]; exact HI2.out.store0 (HC0.out _ _ w2 HI2.out)
        unfold store10 at hV
        have g0 : V.cell? ⟨w.heap.size + 1, 0, none⟩ = some (.int .i64 y.kind) := cell_of_cells HI3.out.b1 0
        have g1 : V.cell? ⟨w.heap.size + 1, 1, none⟩ = some (.int .i64 y.level) := cell_of_cells HI3.out.b1 1
        have g2 : V.cell? ⟨w.heap.size + 1, 2, none⟩ = some (.slice t.ea t.el t.ec) := cell_of_cells HI3.out.b1 2
        have g3 : V.cell? ⟨w.heap.size + 1, 3, none⟩ = some (.int .i64 y.hb) := cell_of_cells HI3.out.b1 3
        have g4 : V.cell? ⟨w.heap.size + 1, 4, none⟩ = some (.string y.hr) := cell_of_cells HI3.out.b1 4
        have g5 : V.cell? ⟨w.heap.size + 1, 5, none⟩ = some (.int .i64 y.cr) := cell_of_cells HI3.out.b1 5
        have g6 : V.cell? ⟨w.heap.size + 1, 6, none⟩ = some (.int .i64 y.cc) := cell_of_cells HI3.out.b1 6
        have g7 : V.cell? ⟨w.heap.size + 1, 7, none⟩ = some (.slice t.ca t.cl t.cc) := cell_of_cells HI3.out.b1 7
        have g8 : V.cell? ⟨w.heap.size + 1, 8, none⟩ = some (.int .i64 y.gf) := cell_of_cells HI3.out.b1 8
        have g9 : V.cell? ⟨w.heap.size + 1, 9, none⟩ = some (.slice t.ga t.gl t.gc) := cell_of_cells HI3.out.b1 9
        go_wp2_with fail
        refine (HF1.out _ _ V HI3.out).mono ?_
        rintro e w3 ⟨v, rfl, rfl, hb3⟩
        have HI4 := Lib.hid (HI3.out.go hb3)
        unfold skVal
        clear hV d0 d1 d2 d3 d4 d5 d6 d7 d8 d9 f0 f1 f2 f3 f4 f5 f6 f7 f8 f9 g0 g1 g2 g3 g4 g5 g6 g7 g8 g9
        have d0 : w3.cell? ⟨w.heap.size + 1, 0, none⟩ = some (.int .i64 y.kind) := cell_of_cells HI4.out.b1 0
        have d1 : w3.cell? ⟨w.heap.size + 1, 1, none⟩ = some (.int .i64 y.level) := cell_of_cells HI4.out.b1 1
        have d2 : w3.cell? ⟨w.heap.size + 1, 2, none⟩ = some (.slice t.ea t.el t.ec) := cell_of_cells HI4.out.b1 2
        have d3 : w3.cell? ⟨w.heap.size + 1, 3, none⟩ = some (.int .i64 y.hb) := cell_of_cells HI4.out.b1 3
        have d4 : w3.cell? ⟨w.heap.size + 1, 4, none⟩ = some (.string y.hr) := cell_of_cells HI4.out.b1 4
        have d5 : w3.cell? ⟨w.heap.size + 1, 5, none⟩ = some (.int .i64 y.cr) := cell_of_cells HI4.out.b1 5
        have d6 : w3.cell? ⟨w.heap.size + 1, 6, none⟩ = some (.int .i64 y.cc) := cell_of_cells HI4.out.b1 6
        have d7 : w3.cell? ⟨w.heap.size + 1, 7, none⟩ = some (.slice t.ca t.cl t.cc) := cell_of_cells HI4.out.b1 7
        have d8 : w3.cell? ⟨w.heap.size + 1, 8, none⟩ = some (.int .i64 y.gf) := cell_of_cells HI4.out.b1 8
        have d9 : w3.cell? ⟨w.heap.size + 1, 9, none⟩ = some (.slice t.ga t.gl t.gc) := cell_of_cells HI4.out.b1 9
        have f0 : w3.frozen? ⟨w.heap.size + 1, 0, none⟩ = false := frozen_of_cells HI4.out.b1 0
        have f1 : w3.frozen? ⟨w.heap.size + 1, 1, none⟩ = false := frozen_of_cells HI4.out.b1 1
        have f2 : w3.frozen? ⟨w.heap.size + 1, 2, none⟩ = false := frozen_of_cells HI4.out.b1 2
        have f3 : w3.frozen? ⟨w.heap.size + 1, 3, none⟩ = false := frozen_of_cells HI4.out.b1 3
        have f4 : w3.frozen? ⟨w.heap.size + 1, 4, none⟩ = false := frozen_of_cells HI4.out.b1 4
        have f5 : w3.frozen? ⟨w.heap.size + 1, 5, none⟩ = false := frozen_of_cells HI4.out.b1 5
        have f6 : w3.frozen? ⟨w.heap.size + 1, 6, none⟩ = false := frozen_of_cells HI4.out.b1 6
        have f7 : w3.frozen? ⟨w.heap.size + 1, 7, none⟩ = false := frozen_of_cells HI4.out.b1 7
        have f8 : w3.frozen? ⟨w.heap.size + 1, 8, none⟩ = false := frozen_of_cells HI4.out.b1 8
        have f9 : w3.frozen? ⟨w.heap.size + 1, 9, none⟩ = false := frozen_of_cells HI4.out.b1 9
        obtain ⟨U, hU⟩ : ∃ U, store10 w3 (w.heap.size + 1) y2 t2 = U := ⟨_, rfl⟩
        have HI5 : Hid (In2 w x2 s2 y2 t2 U) := by rw [← hU]; exact HI4.out.store1 (HC1.out _ _ w3 HI4.out)
        unfold store10 at hU
        have g0 : U.cell? ⟨w.heap.size, 0, none⟩ = some (.int .i64 x2.kind) := cell_of_cells HI5.out.b0 0
        have g1 : U.cell? ⟨w.heap.size, 1, none⟩ = some (.int .i64 x2.level) := cell_of_cells HI5.out.b0 1
        have g2 : U.cell? ⟨w.heap.size, 2, none⟩ = some (.slice s2.ea s2.el s2.ec) := cell_of_cells HI5.out.b0 2
        have g3 : U.cell? ⟨w.heap.size, 3, none⟩ = some (.int .i64 x2.hb) := cell_of_cells HI5.out.b0 3
        have g4 : U.cell? ⟨w.heap.size, 4, none⟩ = some (.string x2.hr) := cell_of_cells HI5.out.b0 4
        have g5 : U.cell? ⟨w.heap.size, 5, none⟩ = some (.int .i64 x2.cr) := cell_of_cells HI5.out.b0 5
        have g6 : U.cell? ⟨w.heap.size, 6, none⟩ = some (.int .i64 x2.cc) := cell_of_cells HI5.out.b0 6
        have g7 : U.cell? ⟨w.heap.size, 7, none⟩ = some (.slice s2.ca s2.cl s2.cc) := cell_of_cells HI5.out.b0 7
        have g8 : U.cell? ⟨w.heap.size, 8, none⟩ = some (.int .i64 x2.gf) := cell_of_cells HI5.out.b0 8
        have g9 : U.cell? ⟨w.heap.size, 9, none⟩ = some (.slice s2.ga s2.gl s2.gc) := cell_of_cells HI5.out.b0 9
        go_wp2_with fail
        refine (HE0.out U HI5.out).mono ?_
        rintro e w4 ⟨rfl, hb4⟩
        have HI6 := Lib.hid (HI5.out.go hb4)
        clear hU d0 d1 d2 d3 d4 d5 d6 d7 d8 d9 f0 f1 f2 f3 f4 f5 f6 f7 f8 f9 g0 g1 g2 g3 g4 g5 g6 g7 g8 g9
        have c0 : w4.cell? ⟨w.heap.size + 1, 0, none⟩ = some (.int .i64 y2.kind) := cell_of_cells HI6.out.b1 0
        have c1 : w4.cell? ⟨w.heap.size + 1, 1, none⟩ = some (.int .i64 y2.level) := cell_of_cells HI6.out.b1 1
        have c2 : w4.cell? ⟨w.heap.size + 1, 2, none⟩ = some (.slice t2.ea t2.el t2.ec) := cell_of_cells HI6.out.b1 2
        have c3 : w4.cell? ⟨w.heap.size + 1, 3, none⟩ = some (.int .i64 y2.hb) := cell_of_cells HI6.out.b1 3
        have c4 : w4.cell? ⟨w.heap.size + 1, 4, none⟩ = some (.string y2.hr) := cell_of_cells HI6.out.b1 4
        have c5 : w4.cell? ⟨w.heap.size + 1, 5, none⟩ = some (.int .i64 y2.cr) := cell_of_cells HI6.out.b1 5
        have c6 : w4.cell? ⟨w.heap.size + 1, 6, none⟩ = some (.int .i64 y2.cc) := cell_of_cells HI6.out.b1 6
        have c7 : w4.cell? ⟨w.heap.size + 1, 7, none⟩ = some (.slice t2.ca t2.cl t2.cc) := cell_of_cells HI6.out.b1 7
        have c8 : w4.cell? ⟨w.heap.size + 1, 8, none⟩ = some (.int .i64 y2.gf) := cell_of_cells HI6.out.b1 8
        have c9 : w4.cell? ⟨w.heap.size + 1, 9, none⟩ = some (.slice t2.ga t2.gl t2.gc) := cell_of_cells HI6.out.b1 9
        go_wp2_with fail
        refine (HE1.out w4 HI6.out).mono ?_
        rintro e w5 ⟨rfl, hb5⟩
        have HI7 := Lib.hid (HI6.out.go hb5)
        clear c0 c1 c2 c3 c4 c5 c6 c7 c8 c9
        have c0 : w5.cell? ⟨w.heap.size, 0, none⟩ = some (.int .i64 x2.kind) := cell_of_cells HI7.out.b0 0
        have c1 : w5.cell? ⟨w.heap.size, 1, none⟩ = some (.int .i64 x2.level) := cell_of_cells HI7.out.b0 1
        have c2 : w5.cell? ⟨w.heap.size, 2, none⟩ = some (.slice s2.ea s2.el s2.ec) := cell_of_cells HI7.out.b0 2
        have c3 : w5.cell? ⟨w.heap.size, 3, none⟩ = some (.int .i64 x2.hb) := cell_of_cells HI7.out.b0 3
        have c4 : w5.cell? ⟨w.heap.size, 4, none⟩ = some (.string x2.hr) := cell_of_cells HI7.out.b0 4
        have c5 : w5.cell? ⟨w.heap.size, 5, none⟩ = some (.int .i64 x2.cr) := cell_of_cells HI7.out.b0 5
        have c6 : w5.cell? ⟨w.heap.size, 6, none⟩ = some (.int .i64 x2.cc) := cell_of_cells HI7.out.b0 6
        have c7 : w5.cell? ⟨w.heap.size, 7, none⟩ = some (.slice s2.ca s2.cl s2.cc) := cell_of_cells HI7.out.b0 7
        have c8 : w5.cell? ⟨w.heap.size, 8, none⟩ = some (.int .i64 x2.gf) := cell_of_cells HI7.out.b0 8
        have c9 : w5.cell? ⟨w.heap.size, 9, none⟩ = some (.slice s2.ga s2.gl s2.gc) := cell_of_cells HI7.out.b0 9
        have d0 : w5.cell? ⟨w.heap.size + 1, 0, none⟩ = some (.int .i64 y2.kind) := cell_of_cells HI7.out.b1 0
        have d1 : w5.cell? ⟨w.heap.size + 1, 1, none⟩ = some (.int .i64 y2.level) := cell_of_cells HI7.out.b1 1
        have d2 : w5.cell? ⟨w.heap.size + 1, 2, none⟩ = some (.slice t2.ea t2.el t2.ec) := cell_of_cells HI7.out.b1 2
        have d3 : w5.cell? ⟨w.heap.size + 1, 3, none⟩ = some (.int .i64 y2.hb) := cell_of_cells HI7.out.b1 3
        have d4 : w5.cell? ⟨w.heap.size + 1, 4, none⟩ = some (.string y2.hr) := cell_of_cells HI7.out.b1 4
        have d5 : w5.cell? ⟨w.heap.size + 1, 5, none⟩ = some (.int .i64 y2.cr) := cell_of_cells HI7.out.b1 5
        have d6 : w5.cell? ⟨w.heap.size + 1, 6, none⟩ = some (.int .i64 y2.cc) := cell_of_cells HI7.out.b1 6
        have d7 : w5.cell? ⟨w.heap.size + 1, 7, none⟩ = some (.slice t2.ca t2.cl t2.cc) := cell_of_cells HI7.out.b1 7
        have d8 : w5.cell? ⟨w.heap.size + 1, 8, none⟩ = some (.int .i64 y2.gf) := cell_of_cells HI7.out.b1 8
        have d9 : w5.cell? ⟨w.heap.size + 1, 9, none⟩ = some (.slice t2.ga t2.gl t2.gc) := cell_of_cells HI7.out.b1 9
        go_wp2_with fail
        refine (HSm.out w5 HI7.out).mono ?_
        rintro e w6 ⟨rfl, hb6⟩
        have HI8 := Lib.hid (HI7.out.go hb6)
        clear c0 c1 c2 c3 c4 c5 c6 c7 c8 c9 d0 d1 d2 d3 d4 d5 d6 d7 d8 d9
        have c0 : w6.cell? ⟨w.heap.size, 0, none⟩ = some (.int .i64 x2.kind) := cell_of_cells HI8.out.b0 0
        have c1 : w6.cell? ⟨w.heap.size, 1, none⟩ = some (.int .i64 x2.level) := cell_of_cells HI8.out.b0 1
        have c2 : w6.cell? ⟨w.heap.size, 2, none⟩ = some (.slice s2.ea s2.el s2.ec) := cell_of_cells HI8.out.b0 2
        have c3 : w6.cell? ⟨w.heap.size, 3, none⟩ = some (.int .i64 x2.hb) := cell_of_cells HI8.out.b0 3
        have c4 : w6.cell? ⟨w.heap.size, 4, none⟩ = some (.string x2.hr) := cell_of_cells HI8.out.b0 4
        have c5 : w6.cell? ⟨w.heap.size, 5, none⟩ = some (.int .i64 x2.cr) := cell_of_cells HI8.out.b0 5
        have c6 : w6.cell? ⟨w.heap.size, 6, none⟩ = some (.int .i64 x2.cc) := cell_of_cells HI8.out.b0 6
        have c7 : w6.cell? ⟨w.heap.size, 7, none⟩ = some (.slice s2.ca s2.cl s2.cc) := cell_of_cells HI8.out.b0 7
        have c8 : w6.cell? ⟨w.heap.size, 8, none⟩ = some (.int .i64 x2.gf) := cell_of_cells HI8.out.b0 8
        have c9 : w6.cell? ⟨w.heap.size, 9, none⟩ = some (.slice s2.ga s2.gl s2.gc) := cell_of_cells HI8.out.b0 9
        go_wp2_with fail
        refine (HSz.out w6 HI8.out).mono ?_
        rintro e w7 ⟨rfl, hb7⟩
        go_wp2_with fail
        go_ret
        exact ⟨rfl, (HI8.out.go hb7).below⟩
      | false =>
        rw [hsm] at HSm
        have hL2 := L2 hsm
        clear L1 L2 hsm
        by_cases hle : a.size ≤ b.size
        · have hq := hL2 hle
          have hle2 : (a.size : Int) ≤ b.size := by omega
          clear hL2
          go_enter Tryd.func4, Tryd.ntmps4
          go_wp2_with fail
          refine HS.out.mono ?_
          rintro e w1 ⟨rfl, hb1⟩
          have HI1 := Lib.hid (HI0.out.go hb1)
          have c0 : w1.cell? ⟨w.heap.size, 0, none⟩ = some (.int .i64 x.kind) := cell_of_cells HI1.out.b0 0
          have c1 : w1.cell? ⟨w.heap.size, 1, none⟩ = some (.int .i64 x.level) := cell_of_cells HI1.out.b0 1
          have c2 : w1.cell? ⟨w.heap.size, 2, none⟩ = some (.slice s.ea s.el s.ec) := cell_of_cells HI1.out.b0 2
          have c3 : w1.cell? ⟨w.heap.size, 3, none⟩ = some (.int .i64 x.hb) := cell_of_cells HI1.out.b0 3
          have c4 : w1.cell? ⟨w.heap.size, 4, none⟩ = some (.string x.hr) := cell_of_cells HI1.out.b0 4
          have c5 : w1.cell? ⟨w.heap.size, 5, none⟩ = some (.int .i64 x.cr) := cell_of_cells HI1.out.b0 5
          have c6 : w1.cell? ⟨w.heap.size, 6, none⟩ = some (.int .i64 x.cc) := cell_of_cells HI1.out.b0 6
          have c7 : w1.cell? ⟨w.heap.size, 7, none⟩ = some (.slice s.ca s.cl s.cc) := cell_of_cells HI1.out.b0 7
          have c8 : w1.cell? ⟨w.heap.size, 8, none⟩ = some (.int .i64 x.gf) := cell_of_cells HI1.out.b0 8
          have c9 : w1.cell? ⟨w.heap.size, 9, none⟩ = some (.slice s.ga s.gl s.gc) := cell_of_cells HI1.out.b0 9
          go_wp2_with fail
          refine (HF0.out _ _ w1 HI1.out).mono ?_
          rintro e w2 ⟨v, rfl, rfl, hb2⟩
          have HI2 := Lib.hid (HI1.out.go hb2)
          unfold skVal
          clear c0 c1 c2 c3 c4 c5 c6 c7 c8 c9
          have d0 : w2.cell? ⟨w.heap.size, 0, none⟩ = some (.int .i64 x.kind) := cell_of_cells HI2.out.b0 0
          have d1 : w2.cell? ⟨w.heap.size, 1, none⟩ = some (.int .i64 x.level) := cell_of_cells HI2.out.b0 1
          have d2 : w2.cell? ⟨w.heap.size, 2, none⟩ = some (.slice s.ea s.el s.ec) := cell_of_cells HI2.out.b0 2
          have d3 : w2.cell? ⟨w.heap.size, 3, none⟩ = some (.int .i64 x.hb) := cell_of_cells HI2.out.b0 3
          have d4 : w2.cell? ⟨w.heap.size, 4, none⟩ = some (.string x.hr) := cell_of_cells HI2.out.b0 4
          have d5 : w2.cell? ⟨w.heap.size, 5, none⟩ = some (.int .i64 x.cr) := cell_of_cells HI2.out.b0 5
          have d6 : w2.cell? ⟨w.heap.size, 6, none⟩ = some (.int .i64 x.cc) := cell_of_cells HI2.out.b0 6
          have d7 : w2.cell? ⟨w.heap.size, 7, none⟩ = some (.slice s.ca s.cl s.cc) := cell_of_cells HI2.out.b0 7
          have d8 : w2.cell? ⟨w.heap.size, 8, none⟩ = some (.int .i64 x.gf) := cell_of_cells HI2.out.b0 8
          have d9 : w2.cell? ⟨w.heap.size, 9, none⟩ = some (.slice s.ga s.gl s.gc) := cell_of_cells HI2.out.b0 9
          have f0 : w2.frozen? ⟨w.heap.size, 0, none⟩ = false := frozen_of_cells HI2.out.b0 0
          have f1 : w2.frozen? ⟨w.heap.size, 1, none⟩ = false := frozen_of_cells HI2.out.b0 1
          have f2 : w2.frozen? ⟨w.heap.size, 2, none⟩ = false := frozen_of_cells HI2.out.b0 2
          have f3 : w2.frozen? ⟨w.heap.size, 3, none⟩ = false := frozen_of_cells HI2.out.b0 3
          have f4 : w2.frozen? ⟨w.heap.size, 4, none⟩ = false := frozen_of_cells HI2.out.b0 4
          have f5 : w2.frozen? ⟨w.heap.size, 5, none⟩ = false := frozen_of_cells HI2.out.b0 5
          have f6 : w2.frozen? ⟨w.heap.size, 6, none⟩ = false := frozen_of_cells HI2.out.b0 6
          have f7 : w2.frozen? ⟨w.heap.size, 7, none⟩ = false := frozen_of_cells HI2.out.b0 7
          have f8 : w2.frozen? ⟨w.heap.size, 8, none⟩ = false := frozen_of_cells HI2.out.b0 8
          have f9 : w2.frozen? ⟨w.heap.size, 9, none⟩ = false := frozen_of_cells HI2.out.b0 9
          obtain ⟨V, hV⟩ : ∃ V, store10 w2 (w.heap.size) x2 s2 = V := ⟨_, rfl⟩
          have HI3 : Hid (In2 w x2 s2 y t V) := by rw [← hV]; exact HI2.out.store0 (HC0.out _ _ w2 HI2.out)
          unfold store10 at hV
          have g0 : V.cell? ⟨w.heap.size + 1, 0, none⟩ = some (.int .i64 y.kind) := cell_of_cells HI3.out.b1 0
          have g1 : V.cell? ⟨w.heap.size + 1, 1, none⟩ = some (.int .i64 y.level) := cell_of_cells HI3.out.b1 1
          have g2 : V.cell? ⟨w.heap.size + 1, 2, none⟩ = some (.slice t.ea t.el t.ec) := cell_of_cells HI3.out.b1 2
          have g3 : V.cell? ⟨w.heap.size + 1, 3, none⟩ = some (.int .i64 y.hb) := cell_of_cells HI3.out.b1 3
          have g4 : V.cell? ⟨w.heap.size + 1, 4, none⟩ = some (.string y.hr) := cell_of_cells HI3.out.b1 4
          have g5 : V.cell? ⟨w.heap.size + 1, 5, none⟩ = some (.int .i64 y.cr) := cell_of_cells HI3.out.b1 5
          have g6 : V.cell? ⟨w.heap.size + 1, 6, none⟩ = some (.int .i64 y.cc) := cell_of_cells HI3.out.b1 6
          have g7 : V.cell? ⟨w.heap.size + 1, 7, none⟩ = some (.slice t.ca t.cl t.cc) := cell_of_cells HI3.out.b1 7
          have g8 : V.cell? ⟨w.heap.size + 1, 8, none⟩ = some (.int .i64 y.gf) := cell_of_cells HI3.out.b1 8
          have g9 : V.cell? ⟨w.heap.size + 1, 9, none⟩ = some (.slice t.ga t.gl t.gc) := cell_of_cells HI3.out.b1 9
          go_wp2_with fail
          refine (HF1.out _ _ V HI3.out).mono ?_
          rintro e w3 ⟨v, rfl, rfl, hb3⟩
          have HI4 := Lib.hid (HI3.out.go hb3)
          unfold skVal
          clear hV d0 d1 d2 d3 d4 d5 d6 d7 d8 d9 f0 f1 f2 f3 f4 f5 f6 f7 f8 f9 g0 g1 g2 g3 g4 g5 g6 g7 g8 g9
          have d0 : w3.cell? ⟨w.heap.size + 1, 0, none⟩ = some (.int .i64 y.kind) := cell_of_cells HI4.out.b1 0
          have d1 : w3.cell? ⟨w.heap.size + 1, 1, none⟩ = some (.int .i64 y.level) := cell_of_cells HI4.out.b1 1
          have d2 : w3.cell? ⟨w.heap.size + 1, 2, none⟩ = some (.slice t.ea t.el t.ec) := cell_of_cells HI4.out.b1 2
          have d3 : w3.cell? ⟨w.heap.size + 1, 3, none⟩ = some (.int .i64 y.hb) := cell_of_cells HI4.out.b1 3
          have d4 : w3.cell? ⟨w.heap.size + 1, 4, none⟩ = some (.string y.hr) := cell_of_cells HI4.out.b1 4
          have d5 : w3.cell? ⟨w.heap.size + 1, 5, none⟩ = some (.int .i64 y.cr) := cell_of_cells HI4.out.b1 5
          have d6 : w3.cell? ⟨w.heap.size + 1, 6, none⟩ = some (.int .i64 y.cc) := cell_of_cells HI4.out.b1 6
          have d7 : w3.cell? ⟨w.heap.size + 1, 7, none⟩ = some (.slice t.ca t.cl t.cc) := cell_of_cells HI4.out.b1 7
          have d8 : w3.cell? ⟨w.heap.size + 1, 8, none⟩ = some (.int .i64 y.gf) := cell_of_cells HI4.out.b1 8
          have d9 : w3.cell? ⟨w.heap.size + 1, 9, none⟩ = some (.slice t.ga t.gl t.gc) := cell_of_cells HI4.out.b1 9
          have f0 : w3.frozen? ⟨w.heap.size + 1, 0, none⟩ = false := frozen_of_cells HI4.out.b1 0
          have f1 : w3.frozen? ⟨w.heap.size + 1, 1, none⟩ = false := frozen_of_cells HI4.out.b1 1
          have f2 : w3.frozen? ⟨w.heap.size + 1, 2, none⟩ = false := frozen_of_cells HI4.out.b1 2
          have f3 : w3.frozen? ⟨w.heap.size + 1, 3, none⟩ = false := frozen_of_cells HI4.out.b1 3
          have f4 : w3.frozen? ⟨w.heap.size + 1, 4, none⟩ = false := frozen_of_cells HI4.out.b1 4
          have f5 : w3.frozen? ⟨w.heap.size + 1, 5, none⟩ = false := frozen_of_cells HI4.out.b1 5
          have f6 : w3.frozen? ⟨w.heap.size + 1, 6, none⟩ = false := frozen_of_cells HI4.out.b1 6
          have f7 : w3.frozen? ⟨w.heap.size + 1, 7, none⟩ = false := frozen_of_cells HI4.out.b1 7
          have f8 : w3.frozen? ⟨w.heap.size + 1, 8, none⟩ = false := frozen_of_cells HI4.out.b1 8
          have f9 : w3.frozen? ⟨w.heap.size + 1, 9, none⟩ = false := frozen_of_cells HI4.out.b1 9
          obtain ⟨U, hU⟩ : ∃ U, store10 w3 (w.heap.size + 1) y2 t2 = U := ⟨_, rfl⟩
          have HI5 : Hid (In2 w x2 s2 y2 t2 U) := by rw [← hU]; exact HI4.out.store1 (HC1.out _ _ w3 HI4.out)
          unfold store10 at hU
          have g0 : U.cell? ⟨w.heap.size, 0, none⟩ = some (.int .i64 x2.kind) := cell_of_cells HI5.out.b0 0
          have g1 : U.cell? ⟨w.heap.size, 1, none⟩ = some (.int .i64 x2.level) := cell_of_cells HI5.out.b0 1
          have g2 : U.cell? ⟨w.heap.size, 2, none⟩ = some (.slice s2.ea s2.el s2.ec) := cell_of_cells HI5.out.b0 2
          have g3 : U.cell? ⟨w.heap.size, 3, none⟩ = some (.int .i64 x2.hb) := cell_of_cells HI5.out.b0 3
          have g4 : U.cell? ⟨w.heap.size, 4, none⟩ = some (.string x2.hr) := cell_of_cells HI5.out.b0 4
          have g5 : U.cell? ⟨w.heap.size, 5, none⟩ = some (.int .i64 x2.cr) := cell_of_cells HI5.out.b0 5
          have g6 : U.cell? ⟨w.heap.size, 6, none⟩ = some (.int .i64 x2.cc) := cell_of_cells HI5.out.b0 6
          have g7 : U.cell? ⟨w.heap.size, 7, none⟩ = some (.slice s2.ca s2.cl s2.cc) := cell_of_cells HI5.out.b0 7
          have g8 : U.cell? ⟨w.heap.size, 8, none⟩ = some (.int .i64 x2.gf) := cell_of_cells HI5.out.b0 8
          have g9 : U.cell? ⟨w.heap.size, 9, none⟩ = some (.slice s2.ga s2.gl s2.gc) := cell_of_cells HI5.out.b0 9
          go_wp2_with fail
          refine (HE0.out U HI5.out).mono ?_
          rintro e w4 ⟨rfl, hb4⟩
          have HI6 := Lib.hid (HI5.out.go hb4)
          clear hU d0 d1 d2 d3 d4 d5 d6 d7 d8 d9 f0 f1 f2 f3 f4 f5 f6 f7 f8 f9 g0 g1 g2 g3 g4 g5 g6 g7 g8 g9
          have c0 : w4.cell? ⟨w.heap.size + 1, 0, none⟩ = some (.int .i64 y2.kind) := cell_of_cells HI6.out.b1 0
          have c1 : w4.cell? ⟨w.heap.size + 1, 1, none⟩ = some (.int .i64 y2.level) := cell_of_cells HI6.out.b1 1
          have c2 : w4.cell? ⟨w.heap.size + 1, 2, none⟩ = some (.slice t2.ea t2.el t2.ec) := cell_of_cells HI6.out.b1 2
          have c3 : w4.cell? ⟨w.heap.size + 1, 3, none⟩ = some (.int .i64 y2.hb) := cell_of_cells HI6.out.b1 3
          have c4 : w4.cell? ⟨w.heap.size + 1, 4, none⟩ = some (.string y2.hr) := cell_of_cells HI6.out.b1 4
          have c5 : w4.cell? ⟨w.heap.size + 1, 5, none⟩ = some (.int .i64 y2.cr) := cell_of_cells HI6.out.b1 5
          have c6 : w4.cell? ⟨w.heap.size + 1, 6, none⟩ = some (.int .i64 y2.cc) := cell_of_cells HI6.out.b1 6
          have c7 : w4.cell? ⟨w.heap.size + 1, 7, none⟩ = some (.slice t2.ca t2.cl t2.cc) := cell_of_cells HI6.out.b1 7
          have c8 : w4.cell? ⟨w.heap.size + 1, 8, none⟩ = some (.int .i64 y2.gf) := cell_of_cells HI6.out.b1 8
          have c9 : w4.cell? ⟨w.heap.size + 1, 9, none⟩ = some (.slice t2.ga t2.gl t2.gc) := cell_of_cells HI6.out.b1 9
          go_wp2_with fail
          refine (HE1.out w4 HI6.out).mono ?_
          rintro e w5 ⟨rfl, hb5⟩
          have HI7 := Lib.hid (HI6.out.go hb5)
          clear c0 c1 c2 c3 c4 c5 c6 c7 c8 c9
          have c0 : w5.cell? ⟨w.heap.size, 0, none⟩ = some (.int .i64 x2.kind) := cell_of_cells HI7.out.b0 0
          have c1 : w5.cell? ⟨w.heap.size, 1, none⟩ = some (.int .i64 x2.level) := cell_of_cells HI7.out.b0 1
          have c2 : w5.cell? ⟨w.heap.size, 2, none⟩ = some (.slice s2.ea s2.el s2.ec) := cell_of_cells HI7.out.b0 2
          have c3 : w5.cell? ⟨w.heap.size, 3, none⟩ = some (.int .i64 x2.hb) := cell_of_cells HI7.out.b0 3
          have c4 : w5.cell? ⟨w.heap.size, 4, none⟩ = some (.string x2.hr) := cell_of_cells HI7.out.b0 4
          have c5 : w5.cell? ⟨w.heap.size, 5, none⟩ = some (.int .i64 x2.cr) := cell_of_cells HI7.out.b0 5
          have c6 : w5.cell? ⟨w.heap.size, 6, none⟩ = some (.int .i64 x2.cc) := cell_of_cells HI7.out.b0 6
          have c7 : w5.cell? ⟨w.heap.size, 7, none⟩ = some (.slice s2.ca s2.cl s2.cc) := cell_of_cells HI7.out.b0 7
          have c8 : w5.cell? ⟨w.heap.size, 8, none⟩ = some (.int .i64 x2.gf) := cell_of_cells HI7.out.b0 8
          have c9 : w5.cell? ⟨w.heap.size, 9, none⟩ = some (.slice s2.ga s2.gl s2.gc) := cell_of_cells HI7.out.b0 9
          have d0 : w5.cell? ⟨w.heap.size + 1, 0, none⟩ = some (.int .i64 y2.kind) := cell_of_cells HI7.out.b1 0
          have d1 : w5.cell? ⟨w.heap.size + 1, 1, none⟩ = some (.int .i64 y2.level) := cell_of_cells HI7.out.b1 1
          have d2 : w5.cell? ⟨w.heap.size + 1, 2, none⟩ = some (.slice t2.ea t2.el t2.ec) := cell_of_cells HI7.out.b1 2
          have d3 : w5.cell? ⟨w.heap.size + 1, 3, none⟩ = some (.int .i64 y2.hb) := cell_of_cells HI7.out.b1 3
          have d4 : w5.cell? ⟨w.heap.size + 1, 4, none⟩ = some (.string y2.hr) := cell_of_cells HI7.out.b1 4
          have d5 : w5.cell? ⟨w.heap.size + 1, 5, none⟩ = some (.int .i64 y2.cr) := cell_of_cells HI7.out.b1 5
          have d6 : w5.cell? ⟨w.heap.size + 1, 6, none⟩ = some (.int .i64 y2.cc) := cell_of_cells HI7.out.b1 6
          have d7 : w5.cell? ⟨w.heap.size + 1, 7, none⟩ = some (.slice t2.ca t2.cl t2.cc) := cell_of_cells HI7.out.b1 7
          have d8 : w5.cell? ⟨w.heap.size + 1, 8, none⟩ = some (.int .i64 y2.gf) := cell_of_cells HI7.out.b1 8
          have d9 : w5.cell? ⟨w.heap.size + 1, 9, none⟩ = some (.slice t2.ga t2.gl t2.gc) := cell_of_cells HI7.out.b1 9
          go_wp2_with fail
          refine (HSm.out w5 HI7.out).mono ?_
          rintro e w6 ⟨rfl, hb6⟩
          have HI8 := Lib.hid (HI7.out.go hb6)
          clear c0 c1 c2 c3 c4 c5 c6 c7 c8 c9 d0 d1 d2 d3 d4 d5 d6 d7 d8 d9
          have c0 : w6.cell? ⟨w.heap.size, 0, none⟩ = some (.int .i64 x2.kind) := cell_of_cells HI8.out.b0 0
          have c1 : w6.cell? ⟨w.heap.size, 1, none⟩ = some (.int .i64 x2.level) := cell_of_cells HI8.out.b0 1
          have c2 : w6.cell? ⟨w.heap.size, 2, none⟩ = some (.slice s2.ea s2.el s2.ec) := cell_of_cells HI8.out.b0 2
          have c3 : w6.cell? ⟨w.heap.size, 3, none⟩ = some (.int .i64 x2.hb) := cell_of_cells HI8.out.b0 3
          have c4 : w6.cell? ⟨w.heap.size, 4, none⟩ = some (.string x2.hr) := cell_of_cells HI8.out.b0 4
          have c5 : w6.cell? ⟨w.heap.size, 5, none⟩ = some (.int .i64 x2.cr) := cell_of_cells HI8.out.b0 5
          have c6 : w6.cell? ⟨w.heap.size, 6, none⟩ = some (.int .i64 x2.cc) := cell_of_cells HI8.out.b0 6
          have c7 : w6.cell? ⟨w.heap.size, 7, none⟩ = some (.slice s2.ca s2.cl s2.cc) := cell_of_cells HI8.out.b0 7
          have c8 : w6.cell? ⟨w.heap.size, 8, none⟩ = some (.int .i64 x2.gf) := cell_of_cells HI8.out.b0 8
          have c9 : w6.cell? ⟨w.heap.size, 9, none⟩ = some (.slice s2.ga s2.gl s2.gc) := cell_of_cells HI8.out.b0 9
          go_wp2_with fail
          refine (HSz.out w6 HI8.out).mono ?_
          rintro e w7 ⟨rfl, hb7⟩
          go_wp2_with fail
          go_ret
          exact ⟨rfl, (HI8.out.go hb7).below⟩
        · have hle2 : decide ((a.size : Int) ≤ b.size) = false := by simp; omega
          clear hL2
          go_enter Tryd.func4, Tryd.ntmps4
          go_wp2_with fail
          refine HS.out.mono ?_
          rintro e w1 ⟨rfl, hb1⟩
          have HI1 := Lib.hid (HI0.out.go hb1)
          have c0 : w1.cell? ⟨w.heap.size, 0, none⟩ = some (.int .i64 x.kind) := cell_of_cells HI1.out.b0 0
          have c1 : w1.cell? ⟨w.heap.size, 1, none⟩ = some (.int .i64 x.level) := cell_of_cells HI1.out.b0 1
          have c2 : w1.cell? ⟨w.heap.size, 2, none⟩ = some (.slice s.ea s.el s.ec) := cell_of_cells HI1.out.b0 2
          have c3 : w1.cell? ⟨w.heap.size, 3, none⟩ = some (.int .i64 x.hb) := cell_of_cells HI1.out.b0 3
          have c4 : w1.cell? ⟨w.heap.size, 4, none⟩ = some (.string x.hr) := cell_of_cells HI1.out.b0 4
          have c5 : w1.cell? ⟨w.heap.size, 5, none⟩ = some (.int .i64 x.cr) := cell_of_cells HI1.out.b0 5
          have c6 : w1.cell? ⟨w.heap.size, 6, none⟩ = some (.int .i64 x.cc) := cell_of_cells HI1.out.b0 6
          have c7 : w1.cell? ⟨w.heap.size, 7, none⟩ = some (.slice s.ca s.cl s.cc) := cell_of_cells HI1.out.b0 7
          have c8 : w1.cell? ⟨w.heap.size, 8, none⟩ = some (.int .i64 x.gf) := cell_of_cells HI1.out.b0 8
          have c9 : w1.cell? ⟨w.heap.size, 9, none⟩ = some (.slice s.ga s.gl s.gc) := cell_of_cells HI1.out.b0 9
          go_wp2_with fail
          refine (HF0.out _ _ w1 HI1.out).mono ?_
          rintro e w2 ⟨v, rfl, rfl, hb2⟩
          have HI2 := Lib.hid (HI1.out.go hb2)
          unfold skVal
          clear c0 c1 c2 c3 c4 c5 c6 c7 c8 c9
          have d0 : w2.cell? ⟨w.heap.size, 0, none⟩ = some (.int .i64 x.kind) := cell_of_cells HI2.out.b0 0
          have d1 : w2.cell? ⟨w.heap.size, 1, none⟩ = some (.int .i64 x.level) := cell_of_cells HI2.out.b0 1
          have d2 : w2.cell? ⟨w.heap.size, 2, none⟩ = some (.slice s.ea s.el s.ec) := cell_of_cells HI2.out.b0 2
          have d3 : w2.cell? ⟨w.heap.size, 3, none⟩ = some (.int .i64 x.hb) := cell_of_cells HI2.out.b0 3
          have d4 : w2.cell? ⟨w.heap.size, 4, none⟩ = some (.string x.hr) := cell_of_cells HI2.out.b0 4
          have d5 : w2.cell? ⟨w.heap.size, 5, none⟩ = some (.int .i64 x.cr) := cell_of_cells HI2.out.b0 5
          have d6 : w2.cell? ⟨w.heap.size, 6, none⟩ = some (.int .i64 x.cc) := cell_of_cells HI2.out.b0 6
          have d7 : w2.cell? ⟨w.heap.size, 7, none⟩ = some (.slice s.ca s.cl s.cc) := cell_of_cells HI2.out.b0 7
          have d8 : w2.cell? ⟨w.heap.size, 8, none⟩ = some (.int .i64 x.gf) := cell_of_cells HI2.out.b0 8
          have d9 : w2.cell? ⟨w.heap.size, 9, none⟩ = some (.slice s.ga s.gl s.gc) := cell_of_cells HI2.out.b0 9
          have f0 : w2.frozen? ⟨w.heap.size, 0, none⟩ = false := frozen_of_cells HI2.out.b0 0
          have f1 : w2.frozen? ⟨w.heap.size, 1, none⟩ = false := frozen_of_cells HI2.out.b0 1
          have f2 : w2.frozen? ⟨w.heap.size, 2, none⟩ = false := frozen_of_cells HI2.out.b0 2
          have f3 : w2.frozen? ⟨w.heap.size, 3, none⟩ = false := frozen_of_cells HI2.out.b0 3
          have f4 : w2.frozen? ⟨w.heap.size, 4, none⟩ = false := frozen_of_cells HI2.out.b0 4
          have f5 : w2.frozen? ⟨w.heap.size, 5, none⟩ = false := frozen_of_cells HI2.out.b0 5
          have f6 : w2.frozen? ⟨w.heap.size, 6, none⟩ = false := frozen_of_cells HI2.out.b0 6
          have f7 : w2.frozen? ⟨w.heap.size, 7, none⟩ = false := frozen_of_cells HI2.out.b0 7
          have f8 : w2.frozen? ⟨w.heap.size, 8, none⟩ = false := frozen_of_cells HI2.out.b0 8
          have f9 : w2.frozen? ⟨w.heap.size, 9, none⟩ = false := frozen_of_cells HI2.out.b0 9
          obtain ⟨V, hV⟩ : ∃ V, store10 w2 (w.heap.size) x2 s2 = V := ⟨_, rfl⟩
          have HI3 : Hid (In2 w x2 s2 y t V) := by rw [← hV]; exact HI2.out.store0 (HC0.out _ _ w2 HI2.out)
          unfold store10 at hV
          have g0 : V.cell? ⟨w.heap.size + 1, 0, none⟩ = some (.int .i64 y.kind) := cell_of_cells HI3.out.b1 0
          have g1 : V.cell? ⟨w.heap.size + 1, 1, none⟩ = some (.int .i64 y.level) := cell_of_cells HI3.out.b1 1
          have g2 : V.cell? ⟨w.heap.size + 1, 2, none⟩ = some (.slice t.ea t.el t.ec) := cell_of_cells HI3.out.b1 2
          have g3 : V.cell? ⟨w.heap.size + 1, 3, none⟩ = some (.int .i64 y.hb) := cell_of_cells HI3.out.b1 3
          have g4 : V.cell? ⟨w.heap.size + 1, 4, none⟩ = some (.string y.hr) := cell_of_cells HI3.out.b1 4
          have g5 : V.cell? ⟨w.heap.size + 1, 5, none⟩ = some (.int .i64 y.cr) := cell_of_cells HI3.out.b1 5
          have g6 : V.cell? ⟨w.heap.size + 1, 6, none⟩ = some (.int .i64 y.cc) := cell_of_cells HI3.out.b1 6
          have g7 : V.cell? ⟨w.heap.size + 1, 7, none⟩ = some (.slice t.ca t.cl t.cc) := cell_of_cells HI3.out.b1 7
          have g8 : V.cell? ⟨w.heap.size + 1, 8, none⟩ = some (.int .i64 y.gf) := cell_of_cells HI3.out.b1 8
          have g9 : V.cell? ⟨w.heap.size + 1, 9, none⟩ = some (.slice t.ga t.gl t.gc) := cell_of_cells HI3.out.b1 9
          go_wp2_with fail
          refine (HF1.out _ _ V HI3.out).mono ?_
          rintro e w3 ⟨v, rfl, rfl, hb3⟩
          have HI4 := Lib.hid (HI3.out.go hb3)
          unfold skVal
          clear hV d0 d1 d2 d3 d4 d5 d6 d7 d8 d9 f0 f1 f2 f3 f4 f5 f6 f7 f8 f9 g0 g1 g2 g3 g4 g5 g6 g7 g8 g9
          have d0 : w3.cell? ⟨w.heap.size + 1, 0, none⟩ = some (.int .i64 y.kind) := cell_of_cells HI4.out.b1 0
          have d1 : w3.cell? ⟨w.heap.size + 1, 1, none⟩ = some (.int .i64 y.level) := cell_of_cells HI4.out.b1 1
          have d2 : w3.cell? ⟨w.heap.size + 1, 2, none⟩ = some (.slice t.ea t.el t.ec) := cell_of_cells HI4.out.b1 2
          have d3 : w3.cell? ⟨w.heap.size + 1, 3, none⟩ = some (.int .i64 y.hb) := cell_of_cells HI4.out.b1 3
          have d4 : w3.cell? ⟨w.heap.size + 1, 4, none⟩ = some (.string y.hr) := cell_of_cells HI4.out.b1 4
          have d5 : w3.cell? ⟨w.heap.size + 1, 5, none⟩ = some (.int .i64 y.cr) := cell_of_cells HI4.out.b1 5
          have d6 : w3.cell? ⟨w.heap.size + 1, 6, none⟩ = some (.int .i64 y.cc) := cell_of_cells HI4.out.b1 6
          have d7 : w3.cell? ⟨w.heap.size + 1, 7, none⟩ = some (.slice t.ca t.cl t.cc) := cell_of_cells HI4.out.b1 7
          have d8 : w3.cell? ⟨w.heap.size + 1, 8, none⟩ = some (.int .i64 y.gf) := cell_of_cells HI4.out.b1 8
          have d9 : w3.cell? ⟨w.heap.size + 1, 9, none⟩ = some (.slice t.ga t.gl t.gc) := cell_of_cells HI4.out.b1 9
          have f0 : w3.frozen? ⟨w.heap.size + 1, 0, none⟩ = false := frozen_of_cells HI4.out.b1 0
          have f1 : w3.frozen? ⟨w.heap.size + 1, 1, none⟩ = false := frozen_of_cells HI4.out.b1 1
          have f2 : w3.frozen? ⟨w.heap.size + 1, 2, none⟩ = false := frozen_of_cells HI4.out.b1 2
          have f3 : w3.frozen? ⟨w.heap.size + 1, 3, none⟩ = false := frozen_of_cells HI4.out.b1 3
          have f4 : w3.frozen? ⟨w.heap.size + 1, 4, none⟩ = false := frozen_of_cells HI4.out.b1 4
          have f5 : w3.frozen? ⟨w.heap.size + 1, 5, none⟩ = false := frozen_of_cells HI4.out.b1 5
          have f6 : w3.frozen? ⟨w.heap.size + 1, 6, none⟩ = false := frozen_of_cells HI4.out.b1 6
          have f7 : w3.frozen? ⟨w.heap.size + 1, 7, none⟩ = false := frozen_of_cells HI4.out.b1 7
          have f8 : w3.frozen? ⟨w.heap.size + 1, 8, none⟩ = false := frozen_of_cells HI4.out.b1 8
          have f9 : w3.frozen? ⟨w.heap.size + 1, 9, none⟩ = false := frozen_of_cells HI4.out.b1 9
          obtain ⟨U, hU⟩ : ∃ U, store10 w3 (w.heap.size + 1) y2 t2 = U := ⟨_, rfl⟩
          have HI5 : Hid (In2 w x2 s2 y2 t2 U) := by rw [← hU]; exact HI4.out.store1 (HC1.out _ _ w3 HI4.out)
          unfold store10 at hU
          have g0 : U.cell? ⟨w.heap.size, 0, none⟩ = some (.int .i64 x2.kind) := cell_of_cells HI5.out.b0 0
          have g1 : U.cell? ⟨w.heap.size, 1, none⟩ = some (.int .i64 x2.level) := cell_of_cells HI5.out.b0 1
          have g2 : U.cell? ⟨w.heap.size, 2, none⟩ = some (.slice s2.ea s2.el s2.ec) := cell_of_cells HI5.out.b0 2
          have g3 : U.cell? ⟨w.heap.size, 3, none⟩ = some (.int .i64 x2.hb) := cell_of_cells HI5.out.b0 3
          have g4 : U.cell? ⟨w.heap.size, 4, none⟩ = some (.string x2.hr) := cell_of_cells HI5.out.b0 4
          have g5 : U.cell? ⟨w.heap.size, 5, none⟩ = some (.int .i64 x2.cr) := cell_of_cells HI5.out.b0 5
          have g6 : U.cell? ⟨w.heap.size, 6, none⟩ = some (.int .i64 x2.cc) := cell_of_cells HI5.out.b0 6
          have g7 : U.cell? ⟨w.heap.size, 7, none⟩ = some (.slice s2.ca s2.cl s2.cc) := cell_of_cells HI5.out.b0 7
          have g8 : U.cell? ⟨w.heap.size, 8, none⟩ = some (.int .i64 x2.gf) := cell_of_cells HI5.out.b0 8
          have g9 : U.cell? ⟨w.heap.size, 9, none⟩ = some (.slice s2.ga s2.gl s2.gc) := cell_of_cells HI5.out.b0 9
          go_wp2_with fail
          refine (HE0.out U HI5.out).mono ?_
          rintro e w4 ⟨rfl, hb4⟩
          have HI6 := Lib.hid (HI5.out.go hb4)
          clear hU d0 d1 d2 d3 d4 d5 d6 d7 d8 d9 f0 f1 f2 f3 f4 f5 f6 f7 f8 f9 g0 g1 g2 g3 g4 g5 g6 g7 g8 g9
          have c0 : w4.cell? ⟨w.heap.size + 1, 0, none⟩ = some (.int .i64 y2.kind) := cell_of_cells HI6.out.b1 0
          have c1 : w4.cell? ⟨w.heap.size + 1, 1, none⟩ = some (.int .i64 y2.level) := cell_of_cells HI6.out.b1 1
          have c2 : w4.cell? ⟨w.heap.size + 1, 2, none⟩ = some (.slice t2.ea t2.el t2.ec) := cell_of_cells HI6.out.b1 2
          have c3 : w4.cell? ⟨w.heap.size + 1, 3, none⟩ = some (.int .i64 y2.hb) := cell_of_cells HI6.out.b1 3
          have c4 : w4.cell? ⟨w.heap.size + 1, 4, none⟩ = some (.string y2.hr) := cell_of_cells HI6.out.b1 4
          have c5 : w4.cell? ⟨w.heap.size + 1, 5, none⟩ = some (.int .i64 y2.cr) := cell_of_cells HI6.out.b1 5
          have c6 : w4.cell? ⟨w.heap.size + 1, 6, none⟩ = some (.int .i64 y2.cc) := cell_of_cells HI6.out.b1 6
          have c7 : w4.cell? ⟨w.heap.size + 1, 7, none⟩ = some (.slice t2.ca t2.cl t2.cc) := cell_of_cells HI6.out.b1 7
          have c8 : w4.cell? ⟨w.heap.size + 1, 8, none⟩ = some (.int .i64 y2.gf) := cell_of_cells HI6.out.b1 8
          have c9 : w4.cell? ⟨w.heap.size + 1, 9, none⟩ = some (.slice t2.ga t2.gl t2.gc) := cell_of_cells HI6.out.b1 9
          go_wp2_with fail
          refine (HE1.out w4 HI6.out).mono ?_
          rintro e w5 ⟨rfl, hb5⟩
          have HI7 := Lib.hid (HI6.out.go hb5)
          clear c0 c1 c2 c3 c4 c5 c6 c7 c8 c9
          have c0 : w5.cell? ⟨w.heap.size, 0, none⟩ = some (.int .i64 x2.kind) := cell_of_cells HI7.out.b0 0
          have c1 : w5.cell? ⟨w.heap.size, 1, none⟩ = some (.int .i64 x2.level) := cell_of_cells HI7.out.b0 1
          have c2 : w5.cell? ⟨w.heap.size, 2, none⟩ = some (.slice s2.ea s2.el s2.ec) := cell_of_cells HI7.out.b0 2
          have c3 : w5.cell? ⟨w.heap.size, 3, none⟩ = some (.int .i64 x2.hb) := cell_of_cells HI7.out.b0 3
          have c4 : w5.cell? ⟨w.heap.size, 4, none⟩ = some (.string x2.hr) := cell_of_cells HI7.out.b0 4
          have c5 : w5.cell? ⟨w.heap.size, 5, none⟩ = some (.int .i64 x2.cr) := cell_of_cells HI7.out.b0 5
          have c6 : w5.cell? ⟨w.heap.size, 6, none⟩ = some (.int .i64 x2.cc) := cell_of_cells HI7.out.b0 6
          have c7 : w5.cell? ⟨w.heap.size, 7, none⟩ = some (.slice s2.ca s2.cl s2.cc) := cell_of_cells HI7.out.b0 7
          have c8 : w5.cell? ⟨w.heap.size, 8, none⟩ = some (.int .i64 x2.gf) := cell_of_cells HI7.out.b0 8
          have c9 : w5.cell? ⟨w.heap.size, 9, none⟩ = some (.slice s2.ga s2.gl s2.gc) := cell_of_cells HI7.out.b0 9
          have d0 : w5.cell? ⟨w.heap.size + 1, 0, none⟩ = some (.int .i64 y2.kind) := cell_of_cells HI7.out.b1 0
          have d1 : w5.cell? ⟨w.heap.size + 1, 1, none⟩ = some (.int .i64 y2.level) := cell_of_cells HI7.out.b1 1
          have d2 : w5.cell? ⟨w.heap.size + 1, 2, none⟩ = some (.slice t2.ea t2.el t2.ec) := cell_of_cells HI7.out.b1 2
          have d3 : w5.cell? ⟨w.heap.size + 1, 3, none⟩ = some (.int .i64 y2.hb) := cell_of_cells HI7.out.b1 3
          have d4 : w5.cell? ⟨w.heap.size + 1, 4, none⟩ = some (.string y2.hr) := cell_of_cells HI7.out.b1 4
          have d5 : w5.cell? ⟨w.heap.size + 1, 5, none⟩ = some (.int .i64 y2.cr) := cell_of_cells HI7.out.b1 5
          have d6 : w5.cell? ⟨w.heap.size + 1, 6, none⟩ = some (.int .i64 y2.cc) := cell_of_cells HI7.out.b1 6
          have d7 : w5.cell? ⟨w.heap.size + 1, 7, none⟩ = some (.slice t2.ca t2.cl t2.cc) := cell_of_cells HI7.out.b1 7
          have d8 : w5.cell? ⟨w.heap.size + 1, 8, none⟩ = some (.int .i64 y2.gf) := cell_of_cells HI7.out.b1 8
          have d9 : w5.cell? ⟨w.heap.size + 1, 9, none⟩ = some (.slice t2.ga t2.gl t2.gc) := cell_of_cells HI7.out.b1 9
          go_wp2_with fail
          refine (HSm.out w5 HI7.out).mono ?_
          rintro e w6 ⟨rfl, hb6⟩
          have HI8 := Lib.hid (HI7.out.go hb6)
          clear c0 c1 c2 c3 c4 c5 c6 c7 c8 c9 d0 d1 d2 d3 d4 d5 d6 d7 d8 d9
          have c0 : w6.cell? ⟨w.heap.size, 0, none⟩ = some (.int .i64 x2.kind) := cell_of_cells HI8.out.b0 0
          have c1 : w6.cell? ⟨w.heap.size, 1, none⟩ = some (.int .i64 x2.level) := cell_of_cells HI8.out.b0 1
          have c2 : w6.cell? ⟨w.heap.size, 2, none⟩ = some (.slice s2.ea s2.el s2.ec) := cell_of_cells HI8.out.b0 2
          have c3 : w6.cell? ⟨w.heap.size, 3, none⟩ = some (.int .i64 x2.hb) := cell_of_cells HI8.out.b0 3
          have c4 : w6.cell? ⟨w.heap.size, 4, none⟩ = some (.string x2.hr) := cell_of_cells HI8.out.b0 4
          have c5 : w6.cell? ⟨w.heap.size, 5, none⟩ = some (.int .i64 x2.cr) := cell_of_cells HI8.out.b0 5
          have c6 : w6.cell? ⟨w.heap.size, 6, none⟩ = some (.int .i64 x2.cc) := cell_of_cells HI8.out.b0 6
          have c7 : w6.cell? ⟨w.heap.size, 7, none⟩ = some (.slice s2.ca s2.cl s2.cc) := cell_of_cells HI8.out.b0 7
          have c8 : w6.cell? ⟨w.heap.size, 8, none⟩ = some (.int .i64 x2.gf) := cell_of_cells HI8.out.b0 8
          have c9 : w6.cell? ⟨w.heap.size, 9, none⟩ = some (.slice s2.ga s2.gl s2.gc) := cell_of_cells HI8.out.b0 9
          go_wp2_with fail
          refine (HSz.out w6 HI8.out).mono ?_
          rintro e w7 ⟨rfl, hb7⟩
          go_wp2_with fail
          go_ret
          exact ⟨rfl, (HI8.out.go hb7).below⟩
end Go.Proofs.YtjpnbkdhmjgdgaaDoor
