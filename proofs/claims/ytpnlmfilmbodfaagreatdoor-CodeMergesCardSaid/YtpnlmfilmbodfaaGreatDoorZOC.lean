/- aviarylaw11.CodeMerges answers true: printed by wip/tools/gen_oc.py. -/
import Derived.Test.YtpnlmfilmbodfaaGreatDoorZYL
import Derived.Test.YtpnlmfilmbodfaaGreatDoorZOB
import Derived.Test.YtpnlmfilmbodfaaGreatDoorZLG
namespace Go.Proofs.YtpnlmfilmbodfaaGreatDoor
open Go Go.RowKit Go.Shelf
structure In2 (w : World) (x : Sk) (s : SS) (y : Sk) (t : SS) (W : World) : Prop where
  b0 : W.heap[w.heap.size]? = some (.cells #[.int .i64 x.kind, .int .i64 x.level, .slice s.ea s.el s.ec, .int .i64 x.hb, .string x.hr, .int .i64 x.cr, .int .i64 x.cc, .slice s.ca s.cl s.cc, .int .i64 x.gf, .slice s.ga s.gl s.gc] 33 (0, 0))
  b1 : W.heap[w.heap.size + 1]? = some (.cells #[.int .i64 y.kind, .int .i64 y.level, .slice t.ea t.el t.ec, .int .i64 y.hb, .string y.hr, .int .i64 y.cr, .int .i64 y.cc, .slice t.ca t.cl t.cc, .int .i64 y.gf, .slice t.ga t.gl t.gc] 33 (0, 0))
  a0 : s.At W.heap.size W x
  a1 : t.At W.heap.size W y
  below : Below w.heap.size w W
theorem In2.go {w W W' : World} {x y : Sk} {s t : SS} (h : In2 w x s y t W) (hb : Below W.heap.size W W') : In2 w x s y t W' :=
  ⟨known hb (Nat.le_refl _) h.b0, known hb (Nat.le_refl _) h.b1, h.a0.go hb, h.a1.go hb, h.below.trans (hb.mono h.below.size)⟩
theorem In2.store0 {w W : World} {x y z : Sk} {s t u : SS} (h : In2 w x s y t W) (hz : u.At W.heap.size W z) : In2 w z u y t (skPut10 W w.heap.size z u) := by
  obtain ⟨h1, h2, h3, h4⟩ := stored h.b0 hz h.below (Nat.le_refl _)
  exact ⟨h1, (skPut10_oth _ _ _ (by omega)).trans h.b1, h2, at_store h.a1 h.b0 (no_u64s x s) (skPut10_oth _ _) (Nat.le_of_eq h4.symm), h3⟩
theorem In2.store1 {w W : World} {x y z : Sk} {s t u : SS} (h : In2 w x s y t W) (hz : u.At W.heap.size W z) : In2 w x s z u (skPut10 W (w.heap.size + 1) z u) := by
  obtain ⟨h1, h2, h3, h4⟩ := stored h.b1 hz h.below (Nat.le_succ _)
  exact ⟨(skPut10_oth _ _ _ (by omega)).trans h.b0, h1, at_store h.a0 h.b1 (no_u64s y t) (skPut10_oth _ _) (Nat.le_of_eq h4.symm), h2, h3⟩
theorem enc_few (x : Sk) (h : x.few) : (encBytes x).length ≤ 30000 := by
  have h1 := h.e
  have h2 := h.c
  have h3 := h.g
  have h4 := h.r
  have h0 := (numsB_len [x.kind, x.level]).2
  have e1 := (numsB_len ((x.e.length : Int) :: diffs 0 x.e)).2
  have e2 := (numsB_len x.cl).2
  have e3 := (numsB_len ((x.gl.length : Int) :: diffsB 0 x.gl)).2
  have e4 : x.hr.data.toList.length = x.hr.size := Array.length_toList
  simp only [List.length_cons, List.length_nil, diffs_len, diffsB_len] at h0 e1 e3
  unfold encBytes
  rw [List.length_append]
  repeat' split
  all_goals omega
theorem dec_of (x : Sk) (fx : Fine x) (hok : skOk x = true) (fm ff cm cc : Addr) (W : World) (hE : GE fm ff cm cc W) :
    Calls Tryz.prog 39 #[.string (encS x)] W fun e w' => ∃ p : SS, e = .returned (.tuple #[.agg #[.int .i64 x.kind, .int .i64 x.level, .slice p.ea p.el p.ec, .int .i64 x.hb, .string x.hr, .int .i64 x.cr, .int .i64 x.cc, .slice p.ca p.cl p.cc, .int .i64 x.gf, .slice p.ga p.gl p.gc], .string ⟨#[]⟩, .int .i64 0]) ∧ p.At w'.heap.size w' x ∧ Below W.heap.size W w' := by
  have h1 : (encS x).data.toList = encBytes x := by rw [encS, if_pos hok]
  have h2 : (encS x).size ≤ 30000 := by
    have h3 := enc_few x fx.few
    have h4 : (encS x).data.toList.length = (encS x).size := Array.length_toList
    rw [h1] at h4
    omega
  have h5 := dec_enc x hok fx.num fx.few.g []
  rw [List.append_nil, ← h1] at h5
  exact Decode_got (encS x) x [] fm ff cm cc W (by omega) hE h5
theorem dec_no (x : Sk) (hok : skOk x = false) (fm ff cm cc : Addr) (W : World) (hE : GE fm ff cm cc W) :
    Calls Tryz.prog 39 #[.string (encS x)] W fun e w' => e = .returned (.tuple #[.agg #[.int .i64 0, .int .i64 0, .slice none 0 0, .int .i64 0, .string ⟨#[]⟩, .int .i64 0, .int .i64 0, .slice none 0 0, .int .i64 0, .slice none 0 0], .string (encS x), .int .i64 20]) ∧ Below W.heap.size W w' := by
  have h1 : encS x = ⟨#[]⟩ := by rw [encS, hok]; rfl
  rw [h1]
  exact Decode_more ⟨#[]⟩ fm ff cm cc W (by decide) hE (by kernel_rfl)
theorem Same_zero (W : World) : Calls Tryz.prog 24 #[.agg #[.int .i64 0, .int .i64 0, .slice none 0 0, .int .i64 0, .string ⟨#[]⟩, .int .i64 0, .int .i64 0, .slice none 0 0, .int .i64 0, .slice none 0 0], .agg #[.int .i64 0, .int .i64 0, .slice none 0 0, .int .i64 0, .string ⟨#[]⟩, .int .i64 0, .int .i64 0, .slice none 0 0, .int .i64 0, .slice none 0 0]] W fun e w' => e = .returned (.bool true) ∧ Below W.heap.size W w' := by
  have h := ladder_Same_any (skNum 0 0 []) (skNum 0 0 []) noSS noSS W ⟨SlC.nil, SlC.nil, SlC.nil⟩ ⟨SlC.nil, SlC.nil, SlC.nil⟩
  rw [sk_same] at h
  exact h
set_option maxRecDepth 100000 in
set_option maxHeartbeats 8000000 in
theorem codeMerges_any (x : Sk) (s : SS) (y : Sk) (t : SS) (fm ff cm cc : Addr) (w : World) (hx : s.At w.heap.size w x) (hax : x.arg) (hy : t.At w.heap.size w y) (hay : y.arg) (hE : GE fm ff cm cc w) (hg : GT w) :
    Calls Tryz.prog 5 #[.agg #[.int .i64 x.kind, .int .i64 x.level, .slice s.ea s.el s.ec, .int .i64 x.hb, .string x.hr, .int .i64 x.cr, .int .i64 x.cc, .slice s.ca s.cl s.cc, .int .i64 x.gf, .slice s.ga s.gl s.gc], .agg #[.int .i64 y.kind, .int .i64 y.level, .slice t.ea t.el t.ec, .int .i64 y.hb, .string y.hr, .int .i64 y.cr, .int .i64 y.cc, .slice t.ca t.cl t.cc, .int .i64 y.gf, .slice t.ga t.gl t.gc]] w fun e w' => e = .returned (.bool true) ∧ Below w.heap.size w w' := by
  obtain ⟨W0, hW0, hX0, hY0, hB0, hs0⟩ := boxes2 w #[.int .i64 x.kind, .int .i64 x.level, .slice s.ea s.el s.ec, .int .i64 x.hb, .string x.hr, .int .i64 x.cr, .int .i64 x.cc, .slice s.ca s.cl s.cc, .int .i64 x.gf, .slice s.ga s.gl s.gc] 33 #[.int .i64 y.kind, .int .i64 y.level, .slice t.ea t.el t.ec, .int .i64 y.hb, .string y.hr, .int .i64 y.cr, .int .i64 y.cc, .slice t.ca t.cl t.cc, .int .i64 y.gf, .slice t.ga t.gl t.gc] 33
  have HS := Lib.hid (shown11_any fm ff cm cc W0 (hE.below hB0))
  have HGE : Hid (∀ W, Below w.heap.size w W → GE fm ff cm cc W) := fun W h => hE.below h
  have HGT : Hid (∀ W, Below w.heap.size w W → GT W) := fun W h => hg.go h
  have HI0 : Hid (In2 w x s y t W0) := ⟨hX0, hY0, hx.go hB0, hy.go hB0, hB0⟩
  have HF0 : Hid (∀ (z : Sk) (u : SS) W, In2 w x s z u W → Calls Tryz.prog 16 #[.agg #[.int .i64 x.kind, .int .i64 x.level, .slice s.ea s.el s.ec, .int .i64 x.hb, .string x.hr, .int .i64 x.cr, .int .i64 x.cc, .slice s.ca s.cl s.cc, .int .i64 x.gf, .slice s.ga s.gl s.gc]] W fun e w' => ∃ v, e = .returned v ∧ v = skVal x.cut s.cut ∧ Below W.heap.size W w') := fun z u W h => (few10_any x s W h.a0).mono fun e w' h => ⟨_, h.1, rfl, h.2⟩
  have HF1 : Hid (∀ (z : Sk) (u : SS) W, In2 w z u y t W → Calls Tryz.prog 16 #[.agg #[.int .i64 y.kind, .int .i64 y.level, .slice t.ea t.el t.ec, .int .i64 y.hb, .string y.hr, .int .i64 y.cr, .int .i64 y.cc, .slice t.ca t.cl t.cc, .int .i64 y.gf, .slice t.ga t.gl t.gc]] W fun e w' => ∃ v, e = .returned v ∧ v = skVal y.cut t.cut ∧ Below W.heap.size W w') := fun z u W h => (few10_any y t W h.a1).mono fun e w' h => ⟨_, h.1, rfl, h.2⟩
  have HC0 : Hid (∀ (z : Sk) (u : SS) W, In2 w x s z u W → s.cut.At W.heap.size W x.cut) := fun z u W h => h.a0.cut
  have HC1 : Hid (∀ (z : Sk) (u : SS) W, In2 w z u y t W → t.cut.At W.heap.size W y.cut) := fun z u W h => h.a1.cut
  have hfx := hax.cut
  have hfy := hay.cut
  generalize x.cut = x2 at hfx HF0 HC0
  generalize s.cut = s2 at HF0 HC0
  generalize y.cut = y2 at hfy HF1 HC1
  generalize t.cut = t2 at HF1 HC1
  have HE0 : Hid (∀ W, In2 w x2 s2 y2 t2 W → Calls Tryz.prog 38 #[.agg #[.int .i64 x2.kind, .int .i64 x2.level, .slice s2.ea s2.el s2.ec, .int .i64 x2.hb, .string x2.hr, .int .i64 x2.cr, .int .i64 x2.cc, .slice s2.ca s2.cl s2.cc, .int .i64 x2.gf, .slice s2.ga s2.gl s2.gc]] W fun e w' => e = .returned (.tuple #[.string (encS x2), .int .i64 (encE x2)]) ∧ Below W.heap.size W w') := fun W h => Encode_any x2 s2 W h.a0 (hfx.short h.a0) hfx.fit hfx.num hfx.few
  have HE1 : Hid (∀ W, In2 w x2 s2 y2 t2 W → Calls Tryz.prog 38 #[.agg #[.int .i64 y2.kind, .int .i64 y2.level, .slice t2.ea t2.el t2.ec, .int .i64 y2.hb, .string y2.hr, .int .i64 y2.cr, .int .i64 y2.cc, .slice t2.ca t2.cl t2.cc, .int .i64 y2.gf, .slice t2.ga t2.gl t2.gc]] W fun e w' => e = .returned (.tuple #[.string (encS y2), .int .i64 (encE y2)]) ∧ Below W.heap.size W w') := fun W h => Encode_any y2 t2 W h.a1 (hfy.short h.a1) hfy.fit hfy.num hfy.few
  have HR0 : Hid (∀ W, In2 w x2 s2 y2 t2 W → Calls Tryz.prog 29 #[.agg #[.int .i64 x2.kind, .int .i64 x2.level, .slice s2.ea s2.el s2.ec, .int .i64 x2.hb, .string x2.hr, .int .i64 x2.cr, .int .i64 x2.cc, .slice s2.ca s2.cl s2.cc, .int .i64 x2.gf, .slice s2.ga s2.gl s2.gc]] W fun e w' => e = .returned (.bool (skOk x2)) ∧ Below W.heap.size W w') := fun W h => ladder_Right_any x2 s2 W h.a0 (hfx.short h.a0) hfx.fit
  have HR1 : Hid (∀ W, In2 w x2 s2 y2 t2 W → Calls Tryz.prog 29 #[.agg #[.int .i64 y2.kind, .int .i64 y2.level, .slice t2.ea t2.el t2.ec, .int .i64 y2.hb, .string y2.hr, .int .i64 y2.cr, .int .i64 y2.cc, .slice t2.ca t2.cl t2.cc, .int .i64 y2.gf, .slice t2.ga t2.gl t2.gc]] W fun e w' => e = .returned (.bool (skOk y2)) ∧ Below W.heap.size W w') := fun W h => ladder_Right_any y2 t2 W h.a1 (hfy.short h.a1) hfy.fit
  have HFX := Lib.hid hfx
  have HFY := Lib.hid hfy
  generalize encE x2 = ex at HE0
  generalize encE y2 = ey at HE1
  clear hx hy hax hay hE hg hX0 hY0 hB0 hs0 hfx hfy
  cases hox : skOk x2 with
  | false =>
    rw [hox] at HR0
    have HD0 : Hid (∀ W, GE fm ff cm cc W → Calls Tryz.prog 39 #[.string (encS x2)] W fun e w' => e = .returned (.tuple #[.agg #[.int .i64 0, .int .i64 0, .slice none 0 0, .int .i64 0, .string ⟨#[]⟩, .int .i64 0, .int .i64 0, .slice none 0 0, .int .i64 0, .slice none 0 0], .string (encS x2), .int .i64 20]) ∧ Below W.heap.size W w') := fun W h => dec_no x2 hox fm ff cm cc W h
    cases hoy : skOk y2 with
    | false =>
      have HD1 : Hid (∀ W, GE fm ff cm cc W → Calls Tryz.prog 39 #[.string (encS y2)] W fun e w' => e = .returned (.tuple #[.agg #[.int .i64 0, .int .i64 0, .slice none 0 0, .int .i64 0, .string ⟨#[]⟩, .int .i64 0, .int .i64 0, .slice none 0 0, .int .i64 0, .slice none 0 0], .string (encS y2), .int .i64 20]) ∧ Below W.heap.size W w') := fun W h => dec_no y2 hoy fm ff cm cc W h
      generalize encS x2 = a at HE0 HD0
      generalize encS y2 = b at HE1 HD1
      clear hox hoy
      go_enter Tryz.func5, Tryz.ntmps5
      go_wp2_with fail
      refine HS.out.mono ?_
      rintro e w1 ⟨rfl, hb1⟩
      have HI1 := Lib.hid (HI0.out.go hb1)
      have c0 : w1.cell? ⟨w.heap.size, 0, none⟩ = some (.int .i64 x.kind) := cCc HI1.out.b0 0
      have c1 : w1.cell? ⟨w.heap.size, 1, none⟩ = some (.int .i64 x.level) := cCc HI1.out.b0 1
      have c2 : w1.cell? ⟨w.heap.size, 2, none⟩ = some (.slice s.ea s.el s.ec) := cCc HI1.out.b0 2
      have c3 : w1.cell? ⟨w.heap.size, 3, none⟩ = some (.int .i64 x.hb) := cCc HI1.out.b0 3
      have c4 : w1.cell? ⟨w.heap.size, 4, none⟩ = some (.string x.hr) := cCc HI1.out.b0 4
      have c5 : w1.cell? ⟨w.heap.size, 5, none⟩ = some (.int .i64 x.cr) := cCc HI1.out.b0 5
      have c6 : w1.cell? ⟨w.heap.size, 6, none⟩ = some (.int .i64 x.cc) := cCc HI1.out.b0 6
      have c7 : w1.cell? ⟨w.heap.size, 7, none⟩ = some (.slice s.ca s.cl s.cc) := cCc HI1.out.b0 7
      have c8 : w1.cell? ⟨w.heap.size, 8, none⟩ = some (.int .i64 x.gf) := cCc HI1.out.b0 8
      have c9 : w1.cell? ⟨w.heap.size, 9, none⟩ = some (.slice s.ga s.gl s.gc) := cCc HI1.out.b0 9
      go_wp2_with fail
      refine (HF0.out _ _ w1 HI1.out).mono ?_
      rintro e w2 ⟨v, rfl, rfl, hb2⟩
      have HI2 := Lib.hid (HI1.out.go hb2)
      unfold skVal
      clear c0 c1 c2 c3 c4 c5 c6 c7 c8 c9
      have d0 : w2.cell? ⟨w.heap.size, 0, none⟩ = some (.int .i64 x.kind) := cCc HI2.out.b0 0
      have d1 : w2.cell? ⟨w.heap.size, 1, none⟩ = some (.int .i64 x.level) := cCc HI2.out.b0 1
      have d2 : w2.cell? ⟨w.heap.size, 2, none⟩ = some (.slice s.ea s.el s.ec) := cCc HI2.out.b0 2
      have d3 : w2.cell? ⟨w.heap.size, 3, none⟩ = some (.int .i64 x.hb) := cCc HI2.out.b0 3
      have d4 : w2.cell? ⟨w.heap.size, 4, none⟩ = some (.string x.hr) := cCc HI2.out.b0 4
      have d5 : w2.cell? ⟨w.heap.size, 5, none⟩ = some (.int .i64 x.cr) := cCc HI2.out.b0 5
      have d6 : w2.cell? ⟨w.heap.size, 6, none⟩ = some (.int .i64 x.cc) := cCc HI2.out.b0 6
      have d7 : w2.cell? ⟨w.heap.size, 7, none⟩ = some (.slice s.ca s.cl s.cc) := cCc HI2.out.b0 7
      have d8 : w2.cell? ⟨w.heap.size, 8, none⟩ = some (.int .i64 x.gf) := cCc HI2.out.b0 8
      have d9 : w2.cell? ⟨w.heap.size, 9, none⟩ = some (.slice s.ga s.gl s.gc) := cCc HI2.out.b0 9
      have f0 : w2.frozen? ⟨w.heap.size, 0, none⟩ = false := cFz HI2.out.b0 0
      have f1 : w2.frozen? ⟨w.heap.size, 1, none⟩ = false := cFz HI2.out.b0 1
      have f2 : w2.frozen? ⟨w.heap.size, 2, none⟩ = false := cFz HI2.out.b0 2
      have f3 : w2.frozen? ⟨w.heap.size, 3, none⟩ = false := cFz HI2.out.b0 3
      have f4 : w2.frozen? ⟨w.heap.size, 4, none⟩ = false := cFz HI2.out.b0 4
      have f5 : w2.frozen? ⟨w.heap.size, 5, none⟩ = false := cFz HI2.out.b0 5
      have f6 : w2.frozen? ⟨w.heap.size, 6, none⟩ = false := cFz HI2.out.b0 6
      have f7 : w2.frozen? ⟨w.heap.size, 7, none⟩ = false := cFz HI2.out.b0 7
      have f8 : w2.frozen? ⟨w.heap.size, 8, none⟩ = false := cFz HI2.out.b0 8
      have f9 : w2.frozen? ⟨w.heap.size, 9, none⟩ = false := cFz HI2.out.b0 9
      obtain ⟨V, hV⟩ : ∃ V, skPut10 w2 (w.heap.size) x2 s2 = V := ⟨_, rfl⟩
      have HI3 : Hid (In2 w x2 s2 y t V) := by rw [← hV]; exact HI2.out.store0 (HC0.out _ _ w2 HI2.out)
      unfold skPut10 at hV
      have g0 : V.cell? ⟨w.heap.size + 1, 0, none⟩ = some (.int .i64 y.kind) := cCc HI3.out.b1 0
      have g1 : V.cell? ⟨w.heap.size + 1, 1, none⟩ = some (.int .i64 y.level) := cCc HI3.out.b1 1
      have g2 : V.cell? ⟨w.heap.size + 1, 2, none⟩ = some (.slice t.ea t.el t.ec) := cCc HI3.out.b1 2
      have g3 : V.cell? ⟨w.heap.size + 1, 3, none⟩ = some (.int .i64 y.hb) := cCc HI3.out.b1 3
      have g4 : V.cell? ⟨w.heap.size + 1, 4, none⟩ = some (.string y.hr) := cCc HI3.out.b1 4
      have g5 : V.cell? ⟨w.heap.size + 1, 5, none⟩ = some (.int .i64 y.cr) := cCc HI3.out.b1 5
      have g6 : V.cell? ⟨w.heap.size + 1, 6, none⟩ = some (.int .i64 y.cc) := cCc HI3.out.b1 6
      have g7 : V.cell? ⟨w.heap.size + 1, 7, none⟩ = some (.slice t.ca t.cl t.cc) := cCc HI3.out.b1 7
      have g8 : V.cell? ⟨w.heap.size + 1, 8, none⟩ = some (.int .i64 y.gf) := cCc HI3.out.b1 8
      have g9 : V.cell? ⟨w.heap.size + 1, 9, none⟩ = some (.slice t.ga t.gl t.gc) := cCc HI3.out.b1 9
      go_wp2_with fail
      refine (HF1.out _ _ V HI3.out).mono ?_
      rintro e w3 ⟨v, rfl, rfl, hb3⟩
      have HI4 := Lib.hid (HI3.out.go hb3)
      unfold skVal
      clear hV d0 d1 d2 d3 d4 d5 d6 d7 d8 d9 f0 f1 f2 f3 f4 f5 f6 f7 f8 f9 g0 g1 g2 g3 g4 g5 g6 g7 g8 g9
      have d0 : w3.cell? ⟨w.heap.size + 1, 0, none⟩ = some (.int .i64 y.kind) := cCc HI4.out.b1 0
      have d1 : w3.cell? ⟨w.heap.size + 1, 1, none⟩ = some (.int .i64 y.level) := cCc HI4.out.b1 1
      have d2 : w3.cell? ⟨w.heap.size + 1, 2, none⟩ = some (.slice t.ea t.el t.ec) := cCc HI4.out.b1 2
      have d3 : w3.cell? ⟨w.heap.size + 1, 3, none⟩ = some (.int .i64 y.hb) := cCc HI4.out.b1 3
      have d4 : w3.cell? ⟨w.heap.size + 1, 4, none⟩ = some (.string y.hr) := cCc HI4.out.b1 4
      have d5 : w3.cell? ⟨w.heap.size + 1, 5, none⟩ = some (.int .i64 y.cr) := cCc HI4.out.b1 5
      have d6 : w3.cell? ⟨w.heap.size + 1, 6, none⟩ = some (.int .i64 y.cc) := cCc HI4.out.b1 6
      have d7 : w3.cell? ⟨w.heap.size + 1, 7, none⟩ = some (.slice t.ca t.cl t.cc) := cCc HI4.out.b1 7
      have d8 : w3.cell? ⟨w.heap.size + 1, 8, none⟩ = some (.int .i64 y.gf) := cCc HI4.out.b1 8
      have d9 : w3.cell? ⟨w.heap.size + 1, 9, none⟩ = some (.slice t.ga t.gl t.gc) := cCc HI4.out.b1 9
      have f0 : w3.frozen? ⟨w.heap.size + 1, 0, none⟩ = false := cFz HI4.out.b1 0
      have f1 : w3.frozen? ⟨w.heap.size + 1, 1, none⟩ = false := cFz HI4.out.b1 1
      have f2 : w3.frozen? ⟨w.heap.size + 1, 2, none⟩ = false := cFz HI4.out.b1 2
      have f3 : w3.frozen? ⟨w.heap.size + 1, 3, none⟩ = false := cFz HI4.out.b1 3
      have f4 : w3.frozen? ⟨w.heap.size + 1, 4, none⟩ = false := cFz HI4.out.b1 4
      have f5 : w3.frozen? ⟨w.heap.size + 1, 5, none⟩ = false := cFz HI4.out.b1 5
      have f6 : w3.frozen? ⟨w.heap.size + 1, 6, none⟩ = false := cFz HI4.out.b1 6
      have f7 : w3.frozen? ⟨w.heap.size + 1, 7, none⟩ = false := cFz HI4.out.b1 7
      have f8 : w3.frozen? ⟨w.heap.size + 1, 8, none⟩ = false := cFz HI4.out.b1 8
      have f9 : w3.frozen? ⟨w.heap.size + 1, 9, none⟩ = false := cFz HI4.out.b1 9
      obtain ⟨U, hU⟩ : ∃ U, skPut10 w3 (w.heap.size + 1) y2 t2 = U := ⟨_, rfl⟩
      have HI5 : Hid (In2 w x2 s2 y2 t2 U) := by rw [← hU]; exact HI4.out.store1 (HC1.out _ _ w3 HI4.out)
      unfold skPut10 at hU
      have g0 : U.cell? ⟨w.heap.size, 0, none⟩ = some (.int .i64 x2.kind) := cCc HI5.out.b0 0
      have g1 : U.cell? ⟨w.heap.size, 1, none⟩ = some (.int .i64 x2.level) := cCc HI5.out.b0 1
      have g2 : U.cell? ⟨w.heap.size, 2, none⟩ = some (.slice s2.ea s2.el s2.ec) := cCc HI5.out.b0 2
      have g3 : U.cell? ⟨w.heap.size, 3, none⟩ = some (.int .i64 x2.hb) := cCc HI5.out.b0 3
      have g4 : U.cell? ⟨w.heap.size, 4, none⟩ = some (.string x2.hr) := cCc HI5.out.b0 4
      have g5 : U.cell? ⟨w.heap.size, 5, none⟩ = some (.int .i64 x2.cr) := cCc HI5.out.b0 5
      have g6 : U.cell? ⟨w.heap.size, 6, none⟩ = some (.int .i64 x2.cc) := cCc HI5.out.b0 6
      have g7 : U.cell? ⟨w.heap.size, 7, none⟩ = some (.slice s2.ca s2.cl s2.cc) := cCc HI5.out.b0 7
      have g8 : U.cell? ⟨w.heap.size, 8, none⟩ = some (.int .i64 x2.gf) := cCc HI5.out.b0 8
      have g9 : U.cell? ⟨w.heap.size, 9, none⟩ = some (.slice s2.ga s2.gl s2.gc) := cCc HI5.out.b0 9
      go_wp2_with fail
      refine (HE0.out U HI5.out).mono ?_
      rintro e w4 ⟨rfl, hb4⟩
      have HI6 := Lib.hid (HI5.out.go hb4)
      clear hU d0 d1 d2 d3 d4 d5 d6 d7 d8 d9 f0 f1 f2 f3 f4 f5 f6 f7 f8 f9 g0 g1 g2 g3 g4 g5 g6 g7 g8 g9
      have c0 : w4.cell? ⟨w.heap.size + 1, 0, none⟩ = some (.int .i64 y2.kind) := cCc HI6.out.b1 0
      have c1 : w4.cell? ⟨w.heap.size + 1, 1, none⟩ = some (.int .i64 y2.level) := cCc HI6.out.b1 1
      have c2 : w4.cell? ⟨w.heap.size + 1, 2, none⟩ = some (.slice t2.ea t2.el t2.ec) := cCc HI6.out.b1 2
      have c3 : w4.cell? ⟨w.heap.size + 1, 3, none⟩ = some (.int .i64 y2.hb) := cCc HI6.out.b1 3
      have c4 : w4.cell? ⟨w.heap.size + 1, 4, none⟩ = some (.string y2.hr) := cCc HI6.out.b1 4
      have c5 : w4.cell? ⟨w.heap.size + 1, 5, none⟩ = some (.int .i64 y2.cr) := cCc HI6.out.b1 5
      have c6 : w4.cell? ⟨w.heap.size + 1, 6, none⟩ = some (.int .i64 y2.cc) := cCc HI6.out.b1 6
      have c7 : w4.cell? ⟨w.heap.size + 1, 7, none⟩ = some (.slice t2.ca t2.cl t2.cc) := cCc HI6.out.b1 7
      have c8 : w4.cell? ⟨w.heap.size + 1, 8, none⟩ = some (.int .i64 y2.gf) := cCc HI6.out.b1 8
      have c9 : w4.cell? ⟨w.heap.size + 1, 9, none⟩ = some (.slice t2.ga t2.gl t2.gc) := cCc HI6.out.b1 9
      go_wp2_with fail
      refine (HE1.out w4 HI6.out).mono ?_
      rintro e w5 ⟨rfl, hb5⟩
      have HI7 := Lib.hid (HI6.out.go hb5)
      clear c0 c1 c2 c3 c4 c5 c6 c7 c8 c9
      go_wp2_with fail
      refine (HD0.out w5 (HGE.out w5 HI7.out.below)).mono ?_
      rintro e w6 ⟨rfl, hb6⟩
      obtain ⟨W7, hW7, hX7, hb7, hs7⟩ := boxes1 w6 #[.int .i64 0, .int .i64 0, .slice none 0 0, .int .i64 0, .string ⟨#[]⟩, .int .i64 0, .int .i64 0, .slice none 0 0, .int .i64 0, .slice none 0 0] 33
      have HI8 := Lib.hid ((HI7.out.go hb6).go hb7)
      have HX7 := Lib.hid hX7
      have ax0 : W7.cell? ⟨w6.heap.size, 0, none⟩ = some (.int .i64 0) := cCc hX7 0
      have ax1 : W7.cell? ⟨w6.heap.size, 1, none⟩ = some (.int .i64 0) := cCc hX7 1
      have ax2 : W7.cell? ⟨w6.heap.size, 2, none⟩ = some (.slice none 0 0) := cCc hX7 2
      have ax3 : W7.cell? ⟨w6.heap.size, 3, none⟩ = some (.int .i64 0) := cCc hX7 3
      have ax4 : W7.cell? ⟨w6.heap.size, 4, none⟩ = some (.string ⟨#[]⟩) := cCc hX7 4
      have ax5 : W7.cell? ⟨w6.heap.size, 5, none⟩ = some (.int .i64 0) := cCc hX7 5
      have ax6 : W7.cell? ⟨w6.heap.size, 6, none⟩ = some (.int .i64 0) := cCc hX7 6
      have ax7 : W7.cell? ⟨w6.heap.size, 7, none⟩ = some (.slice none 0 0) := cCc hX7 7
      have ax8 : W7.cell? ⟨w6.heap.size, 8, none⟩ = some (.int .i64 0) := cCc hX7 8
      have ax9 : W7.cell? ⟨w6.heap.size, 9, none⟩ = some (.slice none 0 0) := cCc hX7 9
      have ay0 : W7.frozen? ⟨w6.heap.size, 0, none⟩ = false := cFz hX7 0
      have ay1 : W7.frozen? ⟨w6.heap.size, 1, none⟩ = false := cFz hX7 1
      have ay2 : W7.frozen? ⟨w6.heap.size, 2, none⟩ = false := cFz hX7 2
      have ay3 : W7.frozen? ⟨w6.heap.size, 3, none⟩ = false := cFz hX7 3
      have ay4 : W7.frozen? ⟨w6.heap.size, 4, none⟩ = false := cFz hX7 4
      have ay5 : W7.frozen? ⟨w6.heap.size, 5, none⟩ = false := cFz hX7 5
      have ay6 : W7.frozen? ⟨w6.heap.size, 6, none⟩ = false := cFz hX7 6
      have ay7 : W7.frozen? ⟨w6.heap.size, 7, none⟩ = false := cFz hX7 7
      have ay8 : W7.frozen? ⟨w6.heap.size, 8, none⟩ = false := cFz hX7 8
      have ay9 : W7.frozen? ⟨w6.heap.size, 9, none⟩ = false := cFz hX7 9
      have az0 : W7.setCell ⟨w6.heap.size, 0, none⟩ (.int .i64 0) = W7 := set_same hX7 rfl
      have az1 : W7.setCell ⟨w6.heap.size, 1, none⟩ (.int .i64 0) = W7 := set_same hX7 rfl
      have az2 : W7.setCell ⟨w6.heap.size, 2, none⟩ (.slice none 0 0) = W7 := set_same hX7 rfl
      have az3 : W7.setCell ⟨w6.heap.size, 3, none⟩ (.int .i64 0) = W7 := set_same hX7 rfl
      have az4 : W7.setCell ⟨w6.heap.size, 4, none⟩ (.string ⟨#[]⟩) = W7 := set_same hX7 rfl
      have az5 : W7.setCell ⟨w6.heap.size, 5, none⟩ (.int .i64 0) = W7 := set_same hX7 rfl
      have az6 : W7.setCell ⟨w6.heap.size, 6, none⟩ (.int .i64 0) = W7 := set_same hX7 rfl
      have az7 : W7.setCell ⟨w6.heap.size, 7, none⟩ (.slice none 0 0) = W7 := set_same hX7 rfl
      have az8 : W7.setCell ⟨w6.heap.size, 8, none⟩ (.int .i64 0) = W7 := set_same hX7 rfl
      have az9 : W7.setCell ⟨w6.heap.size, 9, none⟩ (.slice none 0 0) = W7 := set_same hX7 rfl
      clear hX7 hb7 hb6
      go_wp2_with fail
      refine (HD1.out W7 (HGE.out W7 HI8.out.below)).mono ?_
      rintro e w8 ⟨rfl, hb8⟩
      obtain ⟨W9, hW9, hX9, hb9, hs9⟩ := boxes1 w8 #[.int .i64 0, .int .i64 0, .slice none 0 0, .int .i64 0, .string ⟨#[]⟩, .int .i64 0, .int .i64 0, .slice none 0 0, .int .i64 0, .slice none 0 0] 33
      have HI9 := Lib.hid ((HI8.out.go hb8).go hb9)
      have HB79 := Lib.hid (hb8.trans (hb9.mono hb8.size))
      have HX9 := Lib.hid hX9
      have bx0 : W9.cell? ⟨w8.heap.size, 0, none⟩ = some (.int .i64 0) := cCc hX9 0
      have bx1 : W9.cell? ⟨w8.heap.size, 1, none⟩ = some (.int .i64 0) := cCc hX9 1
      have bx2 : W9.cell? ⟨w8.heap.size, 2, none⟩ = some (.slice none 0 0) := cCc hX9 2
      have bx3 : W9.cell? ⟨w8.heap.size, 3, none⟩ = some (.int .i64 0) := cCc hX9 3
      have bx4 : W9.cell? ⟨w8.heap.size, 4, none⟩ = some (.string ⟨#[]⟩) := cCc hX9 4
      have bx5 : W9.cell? ⟨w8.heap.size, 5, none⟩ = some (.int .i64 0) := cCc hX9 5
      have bx6 : W9.cell? ⟨w8.heap.size, 6, none⟩ = some (.int .i64 0) := cCc hX9 6
      have bx7 : W9.cell? ⟨w8.heap.size, 7, none⟩ = some (.slice none 0 0) := cCc hX9 7
      have bx8 : W9.cell? ⟨w8.heap.size, 8, none⟩ = some (.int .i64 0) := cCc hX9 8
      have bx9 : W9.cell? ⟨w8.heap.size, 9, none⟩ = some (.slice none 0 0) := cCc hX9 9
      have by0 : W9.frozen? ⟨w8.heap.size, 0, none⟩ = false := cFz hX9 0
      have by1 : W9.frozen? ⟨w8.heap.size, 1, none⟩ = false := cFz hX9 1
      have by2 : W9.frozen? ⟨w8.heap.size, 2, none⟩ = false := cFz hX9 2
      have by3 : W9.frozen? ⟨w8.heap.size, 3, none⟩ = false := cFz hX9 3
      have by4 : W9.frozen? ⟨w8.heap.size, 4, none⟩ = false := cFz hX9 4
      have by5 : W9.frozen? ⟨w8.heap.size, 5, none⟩ = false := cFz hX9 5
      have by6 : W9.frozen? ⟨w8.heap.size, 6, none⟩ = false := cFz hX9 6
      have by7 : W9.frozen? ⟨w8.heap.size, 7, none⟩ = false := cFz hX9 7
      have by8 : W9.frozen? ⟨w8.heap.size, 8, none⟩ = false := cFz hX9 8
      have by9 : W9.frozen? ⟨w8.heap.size, 9, none⟩ = false := cFz hX9 9
      have bz0 : W9.setCell ⟨w8.heap.size, 0, none⟩ (.int .i64 0) = W9 := set_same hX9 rfl
      have bz1 : W9.setCell ⟨w8.heap.size, 1, none⟩ (.int .i64 0) = W9 := set_same hX9 rfl
      have bz2 : W9.setCell ⟨w8.heap.size, 2, none⟩ (.slice none 0 0) = W9 := set_same hX9 rfl
      have bz3 : W9.setCell ⟨w8.heap.size, 3, none⟩ (.int .i64 0) = W9 := set_same hX9 rfl
      have bz4 : W9.setCell ⟨w8.heap.size, 4, none⟩ (.string ⟨#[]⟩) = W9 := set_same hX9 rfl
      have bz5 : W9.setCell ⟨w8.heap.size, 5, none⟩ (.int .i64 0) = W9 := set_same hX9 rfl
      have bz6 : W9.setCell ⟨w8.heap.size, 6, none⟩ (.int .i64 0) = W9 := set_same hX9 rfl
      have bz7 : W9.setCell ⟨w8.heap.size, 7, none⟩ (.slice none 0 0) = W9 := set_same hX9 rfl
      have bz8 : W9.setCell ⟨w8.heap.size, 8, none⟩ (.int .i64 0) = W9 := set_same hX9 rfl
      have bz9 : W9.setCell ⟨w8.heap.size, 9, none⟩ (.slice none 0 0) = W9 := set_same hX9 rfl
      clear ax0 ax1 ax2 ax3 ax4 ax5 ax6 ax7 ax8 ax9 ay0 ay1 ay2 ay3 ay4 ay5 ay6 ay7 ay8 ay9 az0 az1 az2 az3 az4 az5 az6 az7 az8 az9
      clear hX9 hb9 hb8
      have c0 : W9.cell? ⟨w.heap.size, 0, none⟩ = some (.int .i64 x2.kind) := cCc HI9.out.b0 0
      have c1 : W9.cell? ⟨w.heap.size, 1, none⟩ = some (.int .i64 x2.level) := cCc HI9.out.b0 1
      have c2 : W9.cell? ⟨w.heap.size, 2, none⟩ = some (.slice s2.ea s2.el s2.ec) := cCc HI9.out.b0 2
      have c3 : W9.cell? ⟨w.heap.size, 3, none⟩ = some (.int .i64 x2.hb) := cCc HI9.out.b0 3
      have c4 : W9.cell? ⟨w.heap.size, 4, none⟩ = some (.string x2.hr) := cCc HI9.out.b0 4
      have c5 : W9.cell? ⟨w.heap.size, 5, none⟩ = some (.int .i64 x2.cr) := cCc HI9.out.b0 5
      have c6 : W9.cell? ⟨w.heap.size, 6, none⟩ = some (.int .i64 x2.cc) := cCc HI9.out.b0 6
      have c7 : W9.cell? ⟨w.heap.size, 7, none⟩ = some (.slice s2.ca s2.cl s2.cc) := cCc HI9.out.b0 7
      have c8 : W9.cell? ⟨w.heap.size, 8, none⟩ = some (.int .i64 x2.gf) := cCc HI9.out.b0 8
      have c9 : W9.cell? ⟨w.heap.size, 9, none⟩ = some (.slice s2.ga s2.gl s2.gc) := cCc HI9.out.b0 9
      have d0 : W9.cell? ⟨w.heap.size + 1, 0, none⟩ = some (.int .i64 y2.kind) := cCc HI9.out.b1 0
      have d1 : W9.cell? ⟨w.heap.size + 1, 1, none⟩ = some (.int .i64 y2.level) := cCc HI9.out.b1 1
      have d2 : W9.cell? ⟨w.heap.size + 1, 2, none⟩ = some (.slice t2.ea t2.el t2.ec) := cCc HI9.out.b1 2
      have d3 : W9.cell? ⟨w.heap.size + 1, 3, none⟩ = some (.int .i64 y2.hb) := cCc HI9.out.b1 3
      have d4 : W9.cell? ⟨w.heap.size + 1, 4, none⟩ = some (.string y2.hr) := cCc HI9.out.b1 4
      have d5 : W9.cell? ⟨w.heap.size + 1, 5, none⟩ = some (.int .i64 y2.cr) := cCc HI9.out.b1 5
      have d6 : W9.cell? ⟨w.heap.size + 1, 6, none⟩ = some (.int .i64 y2.cc) := cCc HI9.out.b1 6
      have d7 : W9.cell? ⟨w.heap.size + 1, 7, none⟩ = some (.slice t2.ca t2.cl t2.cc) := cCc HI9.out.b1 7
      have d8 : W9.cell? ⟨w.heap.size + 1, 8, none⟩ = some (.int .i64 y2.gf) := cCc HI9.out.b1 8
      have d9 : W9.cell? ⟨w.heap.size + 1, 9, none⟩ = some (.slice t2.ga t2.gl t2.gc) := cCc HI9.out.b1 9
      go_wp2_with fail
      refine (HR0.out W9 HI9.out).mono ?_
      rintro e w10 ⟨rfl, hb10⟩
      have HI10 := Lib.hid (HI9.out.go hb10)
      go_wp2_with fail
      go_ret
      exact ⟨rfl, HI10.out.below⟩
    | true =>
      have HD1 : Hid (∀ W, GE fm ff cm cc W → Calls Tryz.prog 39 #[.string (encS y2)] W fun e w' => ∃ p : SS, e = .returned (.tuple #[.agg #[.int .i64 y2.kind, .int .i64 y2.level, .slice p.ea p.el p.ec, .int .i64 y2.hb, .string y2.hr, .int .i64 y2.cr, .int .i64 y2.cc, .slice p.ca p.cl p.cc, .int .i64 y2.gf, .slice p.ga p.gl p.gc], .string ⟨#[]⟩, .int .i64 0]) ∧ p.At w'.heap.size w' y2 ∧ Below W.heap.size W w') := fun W h => dec_of y2 HFY.out hoy fm ff cm cc W h
      generalize encS x2 = a at HE0 HD0
      generalize encS y2 = b at HE1 HD1
      clear hox hoy
      go_enter Tryz.func5, Tryz.ntmps5
      go_wp2_with fail
      refine HS.out.mono ?_
      rintro e w1 ⟨rfl, hb1⟩
      have HI1 := Lib.hid (HI0.out.go hb1)
      have c0 : w1.cell? ⟨w.heap.size, 0, none⟩ = some (.int .i64 x.kind) := cCc HI1.out.b0 0
      have c1 : w1.cell? ⟨w.heap.size, 1, none⟩ = some (.int .i64 x.level) := cCc HI1.out.b0 1
      have c2 : w1.cell? ⟨w.heap.size, 2, none⟩ = some (.slice s.ea s.el s.ec) := cCc HI1.out.b0 2
      have c3 : w1.cell? ⟨w.heap.size, 3, none⟩ = some (.int .i64 x.hb) := cCc HI1.out.b0 3
      have c4 : w1.cell? ⟨w.heap.size, 4, none⟩ = some (.string x.hr) := cCc HI1.out.b0 4
      have c5 : w1.cell? ⟨w.heap.size, 5, none⟩ = some (.int .i64 x.cr) := cCc HI1.out.b0 5
      have c6 : w1.cell? ⟨w.heap.size, 6, none⟩ = some (.int .i64 x.cc) := cCc HI1.out.b0 6
      have c7 : w1.cell? ⟨w.heap.size, 7, none⟩ = some (.slice s.ca s.cl s.cc) := cCc HI1.out.b0 7
      have c8 : w1.cell? ⟨w.heap.size, 8, none⟩ = some (.int .i64 x.gf) := cCc HI1.out.b0 8
      have c9 : w1.cell? ⟨w.heap.size, 9, none⟩ = some (.slice s.ga s.gl s.gc) := cCc HI1.out.b0 9
      go_wp2_with fail
      refine (HF0.out _ _ w1 HI1.out).mono ?_
      rintro e w2 ⟨v, rfl, rfl, hb2⟩
      have HI2 := Lib.hid (HI1.out.go hb2)
      unfold skVal
      clear c0 c1 c2 c3 c4 c5 c6 c7 c8 c9
      have d0 : w2.cell? ⟨w.heap.size, 0, none⟩ = some (.int .i64 x.kind) := cCc HI2.out.b0 0
      have d1 : w2.cell? ⟨w.heap.size, 1, none⟩ = some (.int .i64 x.level) := cCc HI2.out.b0 1
      have d2 : w2.cell? ⟨w.heap.size, 2, none⟩ = some (.slice s.ea s.el s.ec) := cCc HI2.out.b0 2
      have d3 : w2.cell? ⟨w.heap.size, 3, none⟩ = some (.int .i64 x.hb) := cCc HI2.out.b0 3
      have d4 : w2.cell? ⟨w.heap.size, 4, none⟩ = some (.string x.hr) := cCc HI2.out.b0 4
      have d5 : w2.cell? ⟨w.heap.size, 5, none⟩ = some (.int .i64 x.cr) := cCc HI2.out.b0 5
      have d6 : w2.cell? ⟨w.heap.size, 6, none⟩ = some (.int .i64 x.cc) := cCc HI2.out.b0 6
      have d7 : w2.cell? ⟨w.heap.size, 7, none⟩ = some (.slice s.ca s.cl s.cc) := cCc HI2.out.b0 7
      have d8 : w2.cell? ⟨w.heap.size, 8, none⟩ = some (.int .i64 x.gf) := cCc HI2.out.b0 8
      have d9 : w2.cell? ⟨w.heap.size, 9, none⟩ = some (.slice s.ga s.gl s.gc) := cCc HI2.out.b0 9
      have f0 : w2.frozen? ⟨w.heap.size, 0, none⟩ = false := cFz HI2.out.b0 0
      have f1 : w2.frozen? ⟨w.heap.size, 1, none⟩ = false := cFz HI2.out.b0 1
      have f2 : w2.frozen? ⟨w.heap.size, 2, none⟩ = false := cFz HI2.out.b0 2
      have f3 : w2.frozen? ⟨w.heap.size, 3, none⟩ = false := cFz HI2.out.b0 3
      have f4 : w2.frozen? ⟨w.heap.size, 4, none⟩ = false := cFz HI2.out.b0 4
      have f5 : w2.frozen? ⟨w.heap.size, 5, none⟩ = false := cFz HI2.out.b0 5
      have f6 : w2.frozen? ⟨w.heap.size, 6, none⟩ = false := cFz HI2.out.b0 6
      have f7 : w2.frozen? ⟨w.heap.size, 7, none⟩ = false := cFz HI2.out.b0 7
      have f8 : w2.frozen? ⟨w.heap.size, 8, none⟩ = false := cFz HI2.out.b0 8
      have f9 : w2.frozen? ⟨w.heap.size, 9, none⟩ = false := cFz HI2.out.b0 9
      obtain ⟨V, hV⟩ : ∃ V, skPut10 w2 (w.heap.size) x2 s2 = V := ⟨_, rfl⟩
      have HI3 : Hid (In2 w x2 s2 y t V) := by rw [← hV]; exact HI2.out.store0 (HC0.out _ _ w2 HI2.out)
      unfold skPut10 at hV
      have g0 : V.cell? ⟨w.heap.size + 1, 0, none⟩ = some (.int .i64 y.kind) := cCc HI3.out.b1 0
      have g1 : V.cell? ⟨w.heap.size + 1, 1, none⟩ = some (.int .i64 y.level) := cCc HI3.out.b1 1
      have g2 : V.cell? ⟨w.heap.size + 1, 2, none⟩ = some (.slice t.ea t.el t.ec) := cCc HI3.out.b1 2
      have g3 : V.cell? ⟨w.heap.size + 1, 3, none⟩ = some (.int .i64 y.hb) := cCc HI3.out.b1 3
      have g4 : V.cell? ⟨w.heap.size + 1, 4, none⟩ = some (.string y.hr) := cCc HI3.out.b1 4
      have g5 : V.cell? ⟨w.heap.size + 1, 5, none⟩ = some (.int .i64 y.cr) := cCc HI3.out.b1 5
      have g6 : V.cell? ⟨w.heap.size + 1, 6, none⟩ = some (.int .i64 y.cc) := cCc HI3.out.b1 6
      have g7 : V.cell? ⟨w.heap.size + 1, 7, none⟩ = some (.slice t.ca t.cl t.cc) := cCc HI3.out.b1 7
      have g8 : V.cell? ⟨w.heap.size + 1, 8, none⟩ = some (.int .i64 y.gf) := cCc HI3.out.b1 8
      have g9 : V.cell? ⟨w.heap.size + 1, 9, none⟩ = some (.slice t.ga t.gl t.gc) := cCc HI3.out.b1 9
      go_wp2_with fail
      refine (HF1.out _ _ V HI3.out).mono ?_
      rintro e w3 ⟨v, rfl, rfl, hb3⟩
      have HI4 := Lib.hid (HI3.out.go hb3)
      unfold skVal
      clear hV d0 d1 d2 d3 d4 d5 d6 d7 d8 d9 f0 f1 f2 f3 f4 f5 f6 f7 f8 f9 g0 g1 g2 g3 g4 g5 g6 g7 g8 g9
      have d0 : w3.cell? ⟨w.heap.size + 1, 0, none⟩ = some (.int .i64 y.kind) := cCc HI4.out.b1 0
      have d1 : w3.cell? ⟨w.heap.size + 1, 1, none⟩ = some (.int .i64 y.level) := cCc HI4.out.b1 1
      have d2 : w3.cell? ⟨w.heap.size + 1, 2, none⟩ = some (.slice t.ea t.el t.ec) := cCc HI4.out.b1 2
      have d3 : w3.cell? ⟨w.heap.size + 1, 3, none⟩ = some (.int .i64 y.hb) := cCc HI4.out.b1 3
      have d4 : w3.cell? ⟨w.heap.size + 1, 4, none⟩ = some (.string y.hr) := cCc HI4.out.b1 4
      have d5 : w3.cell? ⟨w.heap.size + 1, 5, none⟩ = some (.int .i64 y.cr) := cCc HI4.out.b1 5
      have d6 : w3.cell? ⟨w.heap.size + 1, 6, none⟩ = some (.int .i64 y.cc) := cCc HI4.out.b1 6
      have d7 : w3.cell? ⟨w.heap.size + 1, 7, none⟩ = some (.slice t.ca t.cl t.cc) := cCc HI4.out.b1 7
      have d8 : w3.cell? ⟨w.heap.size + 1, 8, none⟩ = some (.int .i64 y.gf) := cCc HI4.out.b1 8
      have d9 : w3.cell? ⟨w.heap.size + 1, 9, none⟩ = some (.slice t.ga t.gl t.gc) := cCc HI4.out.b1 9
      have f0 : w3.frozen? ⟨w.heap.size + 1, 0, none⟩ = false := cFz HI4.out.b1 0
      have f1 : w3.frozen? ⟨w.heap.size + 1, 1, none⟩ = false := cFz HI4.out.b1 1
      have f2 : w3.frozen? ⟨w.heap.size + 1, 2, none⟩ = false := cFz HI4.out.b1 2
      have f3 : w3.frozen? ⟨w.heap.size + 1, 3, none⟩ = false := cFz HI4.out.b1 3
      have f4 : w3.frozen? ⟨w.heap.size + 1, 4, none⟩ = false := cFz HI4.out.b1 4
      have f5 : w3.frozen? ⟨w.heap.size + 1, 5, none⟩ = false := cFz HI4.out.b1 5
      have f6 : w3.frozen? ⟨w.heap.size + 1, 6, none⟩ = false := cFz HI4.out.b1 6
      have f7 : w3.frozen? ⟨w.heap.size + 1, 7, none⟩ = false := cFz HI4.out.b1 7
      have f8 : w3.frozen? ⟨w.heap.size + 1, 8, none⟩ = false := cFz HI4.out.b1 8
      have f9 : w3.frozen? ⟨w.heap.size + 1, 9, none⟩ = false := cFz HI4.out.b1 9
      obtain ⟨U, hU⟩ : ∃ U, skPut10 w3 (w.heap.size + 1) y2 t2 = U := ⟨_, rfl⟩
      have HI5 : Hid (In2 w x2 s2 y2 t2 U) := by rw [← hU]; exact HI4.out.store1 (HC1.out _ _ w3 HI4.out)
      unfold skPut10 at hU
      have g0 : U.cell? ⟨w.heap.size, 0, none⟩ = some (.int .i64 x2.kind) := cCc HI5.out.b0 0
      have g1 : U.cell? ⟨w.heap.size, 1, none⟩ = some (.int .i64 x2.level) := cCc HI5.out.b0 1
      have g2 : U.cell? ⟨w.heap.size, 2, none⟩ = some (.slice s2.ea s2.el s2.ec) := cCc HI5.out.b0 2
      have g3 : U.cell? ⟨w.heap.size, 3, none⟩ = some (.int .i64 x2.hb) := cCc HI5.out.b0 3
      have g4 : U.cell? ⟨w.heap.size, 4, none⟩ = some (.string x2.hr) := cCc HI5.out.b0 4
      have g5 : U.cell? ⟨w.heap.size, 5, none⟩ = some (.int .i64 x2.cr) := cCc HI5.out.b0 5
      have g6 : U.cell? ⟨w.heap.size, 6, none⟩ = some (.int .i64 x2.cc) := cCc HI5.out.b0 6
      have g7 : U.cell? ⟨w.heap.size, 7, none⟩ = some (.slice s2.ca s2.cl s2.cc) := cCc HI5.out.b0 7
      have g8 : U.cell? ⟨w.heap.size, 8, none⟩ = some (.int .i64 x2.gf) := cCc HI5.out.b0 8
      have g9 : U.cell? ⟨w.heap.size, 9, none⟩ = some (.slice s2.ga s2.gl s2.gc) := cCc HI5.out.b0 9
      go_wp2_with fail
      refine (HE0.out U HI5.out).mono ?_
      rintro e w4 ⟨rfl, hb4⟩
      have HI6 := Lib.hid (HI5.out.go hb4)
      clear hU d0 d1 d2 d3 d4 d5 d6 d7 d8 d9 f0 f1 f2 f3 f4 f5 f6 f7 f8 f9 g0 g1 g2 g3 g4 g5 g6 g7 g8 g9
      have c0 : w4.cell? ⟨w.heap.size + 1, 0, none⟩ = some (.int .i64 y2.kind) := cCc HI6.out.b1 0
      have c1 : w4.cell? ⟨w.heap.size + 1, 1, none⟩ = some (.int .i64 y2.level) := cCc HI6.out.b1 1
      have c2 : w4.cell? ⟨w.heap.size + 1, 2, none⟩ = some (.slice t2.ea t2.el t2.ec) := cCc HI6.out.b1 2
      have c3 : w4.cell? ⟨w.heap.size + 1, 3, none⟩ = some (.int .i64 y2.hb) := cCc HI6.out.b1 3
      have c4 : w4.cell? ⟨w.heap.size + 1, 4, none⟩ = some (.string y2.hr) := cCc HI6.out.b1 4
      have c5 : w4.cell? ⟨w.heap.size + 1, 5, none⟩ = some (.int .i64 y2.cr) := cCc HI6.out.b1 5
      have c6 : w4.cell? ⟨w.heap.size + 1, 6, none⟩ = some (.int .i64 y2.cc) := cCc HI6.out.b1 6
      have c7 : w4.cell? ⟨w.heap.size + 1, 7, none⟩ = some (.slice t2.ca t2.cl t2.cc) := cCc HI6.out.b1 7
      have c8 : w4.cell? ⟨w.heap.size + 1, 8, none⟩ = some (.int .i64 y2.gf) := cCc HI6.out.b1 8
      have c9 : w4.cell? ⟨w.heap.size + 1, 9, none⟩ = some (.slice t2.ga t2.gl t2.gc) := cCc HI6.out.b1 9
      go_wp2_with fail
      refine (HE1.out w4 HI6.out).mono ?_
      rintro e w5 ⟨rfl, hb5⟩
      have HI7 := Lib.hid (HI6.out.go hb5)
      clear c0 c1 c2 c3 c4 c5 c6 c7 c8 c9
      go_wp2_with fail
      refine (HD0.out w5 (HGE.out w5 HI7.out.below)).mono ?_
      rintro e w6 ⟨rfl, hb6⟩
      obtain ⟨W7, hW7, hX7, hb7, hs7⟩ := boxes1 w6 #[.int .i64 0, .int .i64 0, .slice none 0 0, .int .i64 0, .string ⟨#[]⟩, .int .i64 0, .int .i64 0, .slice none 0 0, .int .i64 0, .slice none 0 0] 33
      have HI8 := Lib.hid ((HI7.out.go hb6).go hb7)
      have HX7 := Lib.hid hX7
      have ax0 : W7.cell? ⟨w6.heap.size, 0, none⟩ = some (.int .i64 0) := cCc hX7 0
      have ax1 : W7.cell? ⟨w6.heap.size, 1, none⟩ = some (.int .i64 0) := cCc hX7 1
      have ax2 : W7.cell? ⟨w6.heap.size, 2, none⟩ = some (.slice none 0 0) := cCc hX7 2
      have ax3 : W7.cell? ⟨w6.heap.size, 3, none⟩ = some (.int .i64 0) := cCc hX7 3
      have ax4 : W7.cell? ⟨w6.heap.size, 4, none⟩ = some (.string ⟨#[]⟩) := cCc hX7 4
      have ax5 : W7.cell? ⟨w6.heap.size, 5, none⟩ = some (.int .i64 0) := cCc hX7 5
      have ax6 : W7.cell? ⟨w6.heap.size, 6, none⟩ = some (.int .i64 0) := cCc hX7 6
      have ax7 : W7.cell? ⟨w6.heap.size, 7, none⟩ = some (.slice none 0 0) := cCc hX7 7
      have ax8 : W7.cell? ⟨w6.heap.size, 8, none⟩ = some (.int .i64 0) := cCc hX7 8
      have ax9 : W7.cell? ⟨w6.heap.size, 9, none⟩ = some (.slice none 0 0) := cCc hX7 9
      have ay0 : W7.frozen? ⟨w6.heap.size, 0, none⟩ = false := cFz hX7 0
      have ay1 : W7.frozen? ⟨w6.heap.size, 1, none⟩ = false := cFz hX7 1
      have ay2 : W7.frozen? ⟨w6.heap.size, 2, none⟩ = false := cFz hX7 2
      have ay3 : W7.frozen? ⟨w6.heap.size, 3, none⟩ = false := cFz hX7 3
      have ay4 : W7.frozen? ⟨w6.heap.size, 4, none⟩ = false := cFz hX7 4
      have ay5 : W7.frozen? ⟨w6.heap.size, 5, none⟩ = false := cFz hX7 5
      have ay6 : W7.frozen? ⟨w6.heap.size, 6, none⟩ = false := cFz hX7 6
      have ay7 : W7.frozen? ⟨w6.heap.size, 7, none⟩ = false := cFz hX7 7
      have ay8 : W7.frozen? ⟨w6.heap.size, 8, none⟩ = false := cFz hX7 8
      have ay9 : W7.frozen? ⟨w6.heap.size, 9, none⟩ = false := cFz hX7 9
      have az0 : W7.setCell ⟨w6.heap.size, 0, none⟩ (.int .i64 0) = W7 := set_same hX7 rfl
      have az1 : W7.setCell ⟨w6.heap.size, 1, none⟩ (.int .i64 0) = W7 := set_same hX7 rfl
      have az2 : W7.setCell ⟨w6.heap.size, 2, none⟩ (.slice none 0 0) = W7 := set_same hX7 rfl
      have az3 : W7.setCell ⟨w6.heap.size, 3, none⟩ (.int .i64 0) = W7 := set_same hX7 rfl
      have az4 : W7.setCell ⟨w6.heap.size, 4, none⟩ (.string ⟨#[]⟩) = W7 := set_same hX7 rfl
      have az5 : W7.setCell ⟨w6.heap.size, 5, none⟩ (.int .i64 0) = W7 := set_same hX7 rfl
      have az6 : W7.setCell ⟨w6.heap.size, 6, none⟩ (.int .i64 0) = W7 := set_same hX7 rfl
      have az7 : W7.setCell ⟨w6.heap.size, 7, none⟩ (.slice none 0 0) = W7 := set_same hX7 rfl
      have az8 : W7.setCell ⟨w6.heap.size, 8, none⟩ (.int .i64 0) = W7 := set_same hX7 rfl
      have az9 : W7.setCell ⟨w6.heap.size, 9, none⟩ (.slice none 0 0) = W7 := set_same hX7 rfl
      clear hX7 hb7 hb6
      go_wp2_with fail
      refine (HD1.out W7 (HGE.out W7 HI8.out.below)).mono ?_
      rintro e w8 ⟨q, rfl, hq8, hb8⟩
      obtain ⟨W9, hW9, hX9, hb9, hs9⟩ := boxes1 w8 #[.int .i64 y2.kind, .int .i64 y2.level, .slice q.ea q.el q.ec, .int .i64 y2.hb, .string y2.hr, .int .i64 y2.cr, .int .i64 y2.cc, .slice q.ca q.cl q.cc, .int .i64 y2.gf, .slice q.ga q.gl q.gc] 33
      have HI9 := Lib.hid ((HI8.out.go hb8).go hb9)
      have HB79 := Lib.hid (hb8.trans (hb9.mono hb8.size))
      have HQ9 := Lib.hid (hq8.go hb9)
      have HX9 := Lib.hid hX9
      clear ax0 ax1 ax2 ax3 ax4 ax5 ax6 ax7 ax8 ax9 ay0 ay1 ay2 ay3 ay4 ay5 ay6 ay7 ay8 ay9 az0 az1 az2 az3 az4 az5 az6 az7 az8 az9
      clear hX9 hb9 hb8 hq8
      have c0 : W9.cell? ⟨w.heap.size, 0, none⟩ = some (.int .i64 x2.kind) := cCc HI9.out.b0 0
      have c1 : W9.cell? ⟨w.heap.size, 1, none⟩ = some (.int .i64 x2.level) := cCc HI9.out.b0 1
      have c2 : W9.cell? ⟨w.heap.size, 2, none⟩ = some (.slice s2.ea s2.el s2.ec) := cCc HI9.out.b0 2
      have c3 : W9.cell? ⟨w.heap.size, 3, none⟩ = some (.int .i64 x2.hb) := cCc HI9.out.b0 3
      have c4 : W9.cell? ⟨w.heap.size, 4, none⟩ = some (.string x2.hr) := cCc HI9.out.b0 4
      have c5 : W9.cell? ⟨w.heap.size, 5, none⟩ = some (.int .i64 x2.cr) := cCc HI9.out.b0 5
      have c6 : W9.cell? ⟨w.heap.size, 6, none⟩ = some (.int .i64 x2.cc) := cCc HI9.out.b0 6
      have c7 : W9.cell? ⟨w.heap.size, 7, none⟩ = some (.slice s2.ca s2.cl s2.cc) := cCc HI9.out.b0 7
      have c8 : W9.cell? ⟨w.heap.size, 8, none⟩ = some (.int .i64 x2.gf) := cCc HI9.out.b0 8
      have c9 : W9.cell? ⟨w.heap.size, 9, none⟩ = some (.slice s2.ga s2.gl s2.gc) := cCc HI9.out.b0 9
      have d0 : W9.cell? ⟨w.heap.size + 1, 0, none⟩ = some (.int .i64 y2.kind) := cCc HI9.out.b1 0
      have d1 : W9.cell? ⟨w.heap.size + 1, 1, none⟩ = some (.int .i64 y2.level) := cCc HI9.out.b1 1
      have d2 : W9.cell? ⟨w.heap.size + 1, 2, none⟩ = some (.slice t2.ea t2.el t2.ec) := cCc HI9.out.b1 2
      have d3 : W9.cell? ⟨w.heap.size + 1, 3, none⟩ = some (.int .i64 y2.hb) := cCc HI9.out.b1 3
      have d4 : W9.cell? ⟨w.heap.size + 1, 4, none⟩ = some (.string y2.hr) := cCc HI9.out.b1 4
      have d5 : W9.cell? ⟨w.heap.size + 1, 5, none⟩ = some (.int .i64 y2.cr) := cCc HI9.out.b1 5
      have d6 : W9.cell? ⟨w.heap.size + 1, 6, none⟩ = some (.int .i64 y2.cc) := cCc HI9.out.b1 6
      have d7 : W9.cell? ⟨w.heap.size + 1, 7, none⟩ = some (.slice t2.ca t2.cl t2.cc) := cCc HI9.out.b1 7
      have d8 : W9.cell? ⟨w.heap.size + 1, 8, none⟩ = some (.int .i64 y2.gf) := cCc HI9.out.b1 8
      have d9 : W9.cell? ⟨w.heap.size + 1, 9, none⟩ = some (.slice t2.ga t2.gl t2.gc) := cCc HI9.out.b1 9
      go_wp2_with fail
      refine (HR0.out W9 HI9.out).mono ?_
      rintro e w10 ⟨rfl, hb10⟩
      have HI10 := Lib.hid (HI9.out.go hb10)
      go_wp2_with fail
      go_ret
      exact ⟨rfl, HI10.out.below⟩
  | true =>
    rw [hox] at HR0
    have HD0 : Hid (∀ W, GE fm ff cm cc W → Calls Tryz.prog 39 #[.string (encS x2)] W fun e w' => ∃ p : SS, e = .returned (.tuple #[.agg #[.int .i64 x2.kind, .int .i64 x2.level, .slice p.ea p.el p.ec, .int .i64 x2.hb, .string x2.hr, .int .i64 x2.cr, .int .i64 x2.cc, .slice p.ca p.cl p.cc, .int .i64 x2.gf, .slice p.ga p.gl p.gc], .string ⟨#[]⟩, .int .i64 0]) ∧ p.At w'.heap.size w' x2 ∧ Below W.heap.size W w') := fun W h => dec_of x2 HFX.out hox fm ff cm cc W h
    cases hoy : skOk y2 with
    | false =>
      rw [hoy] at HR1
      have HD1 : Hid (∀ W, GE fm ff cm cc W → Calls Tryz.prog 39 #[.string (encS y2)] W fun e w' => e = .returned (.tuple #[.agg #[.int .i64 0, .int .i64 0, .slice none 0 0, .int .i64 0, .string ⟨#[]⟩, .int .i64 0, .int .i64 0, .slice none 0 0, .int .i64 0, .slice none 0 0], .string (encS y2), .int .i64 20]) ∧ Below W.heap.size W w') := fun W h => dec_no y2 hoy fm ff cm cc W h
      generalize encS x2 = a at HE0 HD0
      generalize encS y2 = b at HE1 HD1
      clear hox hoy
      go_enter Tryz.func5, Tryz.ntmps5
      go_wp2_with fail
      refine HS.out.mono ?_
      rintro e w1 ⟨rfl, hb1⟩
      have HI1 := Lib.hid (HI0.out.go hb1)
      have c0 : w1.cell? ⟨w.heap.size, 0, none⟩ = some (.int .i64 x.kind) := cCc HI1.out.b0 0
      have c1 : w1.cell? ⟨w.heap.size, 1, none⟩ = some (.int .i64 x.level) := cCc HI1.out.b0 1
      have c2 : w1.cell? ⟨w.heap.size, 2, none⟩ = some (.slice s.ea s.el s.ec) := cCc HI1.out.b0 2
      have c3 : w1.cell? ⟨w.heap.size, 3, none⟩ = some (.int .i64 x.hb) := cCc HI1.out.b0 3
      have c4 : w1.cell? ⟨w.heap.size, 4, none⟩ = some (.string x.hr) := cCc HI1.out.b0 4
      have c5 : w1.cell? ⟨w.heap.size, 5, none⟩ = some (.int .i64 x.cr) := cCc HI1.out.b0 5
      have c6 : w1.cell? ⟨w.heap.size, 6, none⟩ = some (.int .i64 x.cc) := cCc HI1.out.b0 6
      have c7 : w1.cell? ⟨w.heap.size, 7, none⟩ = some (.slice s.ca s.cl s.cc) := cCc HI1.out.b0 7
      have c8 : w1.cell? ⟨w.heap.size, 8, none⟩ = some (.int .i64 x.gf) := cCc HI1.out.b0 8
      have c9 : w1.cell? ⟨w.heap.size, 9, none⟩ = some (.slice s.ga s.gl s.gc) := cCc HI1.out.b0 9
      go_wp2_with fail
      refine (HF0.out _ _ w1 HI1.out).mono ?_
      rintro e w2 ⟨v, rfl, rfl, hb2⟩
      have HI2 := Lib.hid (HI1.out.go hb2)
      unfold skVal
      clear c0 c1 c2 c3 c4 c5 c6 c7 c8 c9
      have d0 : w2.cell? ⟨w.heap.size, 0, none⟩ = some (.int .i64 x.kind) := cCc HI2.out.b0 0
      have d1 : w2.cell? ⟨w.heap.size, 1, none⟩ = some (.int .i64 x.level) := cCc HI2.out.b0 1
      have d2 : w2.cell? ⟨w.heap.size, 2, none⟩ = some (.slice s.ea s.el s.ec) := cCc HI2.out.b0 2
      have d3 : w2.cell? ⟨w.heap.size, 3, none⟩ = some (.int .i64 x.hb) := cCc HI2.out.b0 3
      have d4 : w2.cell? ⟨w.heap.size, 4, none⟩ = some (.string x.hr) := cCc HI2.out.b0 4
      have d5 : w2.cell? ⟨w.heap.size, 5, none⟩ = some (.int .i64 x.cr) := cCc HI2.out.b0 5
      have d6 : w2.cell? ⟨w.heap.size, 6, none⟩ = some (.int .i64 x.cc) := cCc HI2.out.b0 6
      have d7 : w2.cell? ⟨w.heap.size, 7, none⟩ = some (.slice s.ca s.cl s.cc) := cCc HI2.out.b0 7
      have d8 : w2.cell? ⟨w.heap.size, 8, none⟩ = some (.int .i64 x.gf) := cCc HI2.out.b0 8
      have d9 : w2.cell? ⟨w.heap.size, 9, none⟩ = some (.slice s.ga s.gl s.gc) := cCc HI2.out.b0 9
      have f0 : w2.frozen? ⟨w.heap.size, 0, none⟩ = false := cFz HI2.out.b0 0
      have f1 : w2.frozen? ⟨w.heap.size, 1, none⟩ = false := cFz HI2.out.b0 1
      have f2 : w2.frozen? ⟨w.heap.size, 2, none⟩ = false := cFz HI2.out.b0 2
      have f3 : w2.frozen? ⟨w.heap.size, 3, none⟩ = false := cFz HI2.out.b0 3
      have f4 : w2.frozen? ⟨w.heap.size, 4, none⟩ = false := cFz HI2.out.b0 4
      have f5 : w2.frozen? ⟨w.heap.size, 5, none⟩ = false := cFz HI2.out.b0 5
      have f6 : w2.frozen? ⟨w.heap.size, 6, none⟩ = false := cFz HI2.out.b0 6
      have f7 : w2.frozen? ⟨w.heap.size, 7, none⟩ = false := cFz HI2.out.b0 7
      have f8 : w2.frozen? ⟨w.heap.size, 8, none⟩ = false := cFz HI2.out.b0 8
      have f9 : w2.frozen? ⟨w.heap.size, 9, none⟩ = false := cFz HI2.out.b0 9
      obtain ⟨V, hV⟩ : ∃ V, skPut10 w2 (w.heap.size) x2 s2 = V := ⟨_, rfl⟩
      have HI3 : Hid (In2 w x2 s2 y t V) := by rw [← hV]; exact HI2.out.store0 (HC0.out _ _ w2 HI2.out)
      unfold skPut10 at hV
      have g0 : V.cell? ⟨w.heap.size + 1, 0, none⟩ = some (.int .i64 y.kind) := cCc HI3.out.b1 0
      have g1 : V.cell? ⟨w.heap.size + 1, 1, none⟩ = some (.int .i64 y.level) := cCc HI3.out.b1 1
      have g2 : V.cell? ⟨w.heap.size + 1, 2, none⟩ = some (.slice t.ea t.el t.ec) := cCc HI3.out.b1 2
      have g3 : V.cell? ⟨w.heap.size + 1, 3, none⟩ = some (.int .i64 y.hb) := cCc HI3.out.b1 3
      have g4 : V.cell? ⟨w.heap.size + 1, 4, none⟩ = some (.string y.hr) := cCc HI3.out.b1 4
      have g5 : V.cell? ⟨w.heap.size + 1, 5, none⟩ = some (.int .i64 y.cr) := cCc HI3.out.b1 5
      have g6 : V.cell? ⟨w.heap.size + 1, 6, none⟩ = some (.int .i64 y.cc) := cCc HI3.out.b1 6
      have g7 : V.cell? ⟨w.heap.size + 1, 7, none⟩ = some (.slice t.ca t.cl t.cc) := cCc HI3.out.b1 7
      have g8 : V.cell? ⟨w.heap.size + 1, 8, none⟩ = some (.int .i64 y.gf) := cCc HI3.out.b1 8
      have g9 : V.cell? ⟨w.heap.size + 1, 9, none⟩ = some (.slice t.ga t.gl t.gc) := cCc HI3.out.b1 9
      go_wp2_with fail
      refine (HF1.out _ _ V HI3.out).mono ?_
      rintro e w3 ⟨v, rfl, rfl, hb3⟩
      have HI4 := Lib.hid (HI3.out.go hb3)
      unfold skVal
      clear hV d0 d1 d2 d3 d4 d5 d6 d7 d8 d9 f0 f1 f2 f3 f4 f5 f6 f7 f8 f9 g0 g1 g2 g3 g4 g5 g6 g7 g8 g9
      have d0 : w3.cell? ⟨w.heap.size + 1, 0, none⟩ = some (.int .i64 y.kind) := cCc HI4.out.b1 0
      have d1 : w3.cell? ⟨w.heap.size + 1, 1, none⟩ = some (.int .i64 y.level) := cCc HI4.out.b1 1
      have d2 : w3.cell? ⟨w.heap.size + 1, 2, none⟩ = some (.slice t.ea t.el t.ec) := cCc HI4.out.b1 2
      have d3 : w3.cell? ⟨w.heap.size + 1, 3, none⟩ = some (.int .i64 y.hb) := cCc HI4.out.b1 3
      have d4 : w3.cell? ⟨w.heap.size + 1, 4, none⟩ = some (.string y.hr) := cCc HI4.out.b1 4
      have d5 : w3.cell? ⟨w.heap.size + 1, 5, none⟩ = some (.int .i64 y.cr) := cCc HI4.out.b1 5
      have d6 : w3.cell? ⟨w.heap.size + 1, 6, none⟩ = some (.int .i64 y.cc) := cCc HI4.out.b1 6
      have d7 : w3.cell? ⟨w.heap.size + 1, 7, none⟩ = some (.slice t.ca t.cl t.cc) := cCc HI4.out.b1 7
      have d8 : w3.cell? ⟨w.heap.size + 1, 8, none⟩ = some (.int .i64 y.gf) := cCc HI4.out.b1 8
      have d9 : w3.cell? ⟨w.heap.size + 1, 9, none⟩ = some (.slice t.ga t.gl t.gc) := cCc HI4.out.b1 9
      have f0 : w3.frozen? ⟨w.heap.size + 1, 0, none⟩ = false := cFz HI4.out.b1 0
      have f1 : w3.frozen? ⟨w.heap.size + 1, 1, none⟩ = false := cFz HI4.out.b1 1
      have f2 : w3.frozen? ⟨w.heap.size + 1, 2, none⟩ = false := cFz HI4.out.b1 2
      have f3 : w3.frozen? ⟨w.heap.size + 1, 3, none⟩ = false := cFz HI4.out.b1 3
      have f4 : w3.frozen? ⟨w.heap.size + 1, 4, none⟩ = false := cFz HI4.out.b1 4
      have f5 : w3.frozen? ⟨w.heap.size + 1, 5, none⟩ = false := cFz HI4.out.b1 5
      have f6 : w3.frozen? ⟨w.heap.size + 1, 6, none⟩ = false := cFz HI4.out.b1 6
      have f7 : w3.frozen? ⟨w.heap.size + 1, 7, none⟩ = false := cFz HI4.out.b1 7
      have f8 : w3.frozen? ⟨w.heap.size + 1, 8, none⟩ = false := cFz HI4.out.b1 8
      have f9 : w3.frozen? ⟨w.heap.size + 1, 9, none⟩ = false := cFz HI4.out.b1 9
      obtain ⟨U, hU⟩ : ∃ U, skPut10 w3 (w.heap.size + 1) y2 t2 = U := ⟨_, rfl⟩
      have HI5 : Hid (In2 w x2 s2 y2 t2 U) := by rw [← hU]; exact HI4.out.store1 (HC1.out _ _ w3 HI4.out)
      unfold skPut10 at hU
      have g0 : U.cell? ⟨w.heap.size, 0, none⟩ = some (.int .i64 x2.kind) := cCc HI5.out.b0 0
      have g1 : U.cell? ⟨w.heap.size, 1, none⟩ = some (.int .i64 x2.level) := cCc HI5.out.b0 1
      have g2 : U.cell? ⟨w.heap.size, 2, none⟩ = some (.slice s2.ea s2.el s2.ec) := cCc HI5.out.b0 2
      have g3 : U.cell? ⟨w.heap.size, 3, none⟩ = some (.int .i64 x2.hb) := cCc HI5.out.b0 3
      have g4 : U.cell? ⟨w.heap.size, 4, none⟩ = some (.string x2.hr) := cCc HI5.out.b0 4
      have g5 : U.cell? ⟨w.heap.size, 5, none⟩ = some (.int .i64 x2.cr) := cCc HI5.out.b0 5
      have g6 : U.cell? ⟨w.heap.size, 6, none⟩ = some (.int .i64 x2.cc) := cCc HI5.out.b0 6
      have g7 : U.cell? ⟨w.heap.size, 7, none⟩ = some (.slice s2.ca s2.cl s2.cc) := cCc HI5.out.b0 7
      have g8 : U.cell? ⟨w.heap.size, 8, none⟩ = some (.int .i64 x2.gf) := cCc HI5.out.b0 8
      have g9 : U.cell? ⟨w.heap.size, 9, none⟩ = some (.slice s2.ga s2.gl s2.gc) := cCc HI5.out.b0 9
      go_wp2_with fail
      refine (HE0.out U HI5.out).mono ?_
      rintro e w4 ⟨rfl, hb4⟩
      have HI6 := Lib.hid (HI5.out.go hb4)
      clear hU d0 d1 d2 d3 d4 d5 d6 d7 d8 d9 f0 f1 f2 f3 f4 f5 f6 f7 f8 f9 g0 g1 g2 g3 g4 g5 g6 g7 g8 g9
      have c0 : w4.cell? ⟨w.heap.size + 1, 0, none⟩ = some (.int .i64 y2.kind) := cCc HI6.out.b1 0
      have c1 : w4.cell? ⟨w.heap.size + 1, 1, none⟩ = some (.int .i64 y2.level) := cCc HI6.out.b1 1
      have c2 : w4.cell? ⟨w.heap.size + 1, 2, none⟩ = some (.slice t2.ea t2.el t2.ec) := cCc HI6.out.b1 2
      have c3 : w4.cell? ⟨w.heap.size + 1, 3, none⟩ = some (.int .i64 y2.hb) := cCc HI6.out.b1 3
      have c4 : w4.cell? ⟨w.heap.size + 1, 4, none⟩ = some (.string y2.hr) := cCc HI6.out.b1 4
      have c5 : w4.cell? ⟨w.heap.size + 1, 5, none⟩ = some (.int .i64 y2.cr) := cCc HI6.out.b1 5
      have c6 : w4.cell? ⟨w.heap.size + 1, 6, none⟩ = some (.int .i64 y2.cc) := cCc HI6.out.b1 6
      have c7 : w4.cell? ⟨w.heap.size + 1, 7, none⟩ = some (.slice t2.ca t2.cl t2.cc) := cCc HI6.out.b1 7
      have c8 : w4.cell? ⟨w.heap.size + 1, 8, none⟩ = some (.int .i64 y2.gf) := cCc HI6.out.b1 8
      have c9 : w4.cell? ⟨w.heap.size + 1, 9, none⟩ = some (.slice t2.ga t2.gl t2.gc) := cCc HI6.out.b1 9
      go_wp2_with fail
      refine (HE1.out w4 HI6.out).mono ?_
      rintro e w5 ⟨rfl, hb5⟩
      have HI7 := Lib.hid (HI6.out.go hb5)
      clear c0 c1 c2 c3 c4 c5 c6 c7 c8 c9
      go_wp2_with fail
      refine (HD0.out w5 (HGE.out w5 HI7.out.below)).mono ?_
      rintro e w6 ⟨p, rfl, hp6, hb6⟩
      obtain ⟨W7, hW7, hX7, hb7, hs7⟩ := boxes1 w6 #[.int .i64 x2.kind, .int .i64 x2.level, .slice p.ea p.el p.ec, .int .i64 x2.hb, .string x2.hr, .int .i64 x2.cr, .int .i64 x2.cc, .slice p.ca p.cl p.cc, .int .i64 x2.gf, .slice p.ga p.gl p.gc] 33
      have HI8 := Lib.hid ((HI7.out.go hb6).go hb7)
      have HP7 := Lib.hid (hp6.go hb7)
      have HX7 := Lib.hid hX7
      clear hX7 hb7 hb6 hp6
      go_wp2_with fail
      refine (HD1.out W7 (HGE.out W7 HI8.out.below)).mono ?_
      rintro e w8 ⟨rfl, hb8⟩
      obtain ⟨W9, hW9, hX9, hb9, hs9⟩ := boxes1 w8 #[.int .i64 0, .int .i64 0, .slice none 0 0, .int .i64 0, .string ⟨#[]⟩, .int .i64 0, .int .i64 0, .slice none 0 0, .int .i64 0, .slice none 0 0] 33
      have HI9 := Lib.hid ((HI8.out.go hb8).go hb9)
      have HB79 := Lib.hid (hb8.trans (hb9.mono hb8.size))
      have HX9 := Lib.hid hX9
      have bx0 : W9.cell? ⟨w8.heap.size, 0, none⟩ = some (.int .i64 0) := cCc hX9 0
      have bx1 : W9.cell? ⟨w8.heap.size, 1, none⟩ = some (.int .i64 0) := cCc hX9 1
      have bx2 : W9.cell? ⟨w8.heap.size, 2, none⟩ = some (.slice none 0 0) := cCc hX9 2
      have bx3 : W9.cell? ⟨w8.heap.size, 3, none⟩ = some (.int .i64 0) := cCc hX9 3
      have bx4 : W9.cell? ⟨w8.heap.size, 4, none⟩ = some (.string ⟨#[]⟩) := cCc hX9 4
      have bx5 : W9.cell? ⟨w8.heap.size, 5, none⟩ = some (.int .i64 0) := cCc hX9 5
      have bx6 : W9.cell? ⟨w8.heap.size, 6, none⟩ = some (.int .i64 0) := cCc hX9 6
      have bx7 : W9.cell? ⟨w8.heap.size, 7, none⟩ = some (.slice none 0 0) := cCc hX9 7
      have bx8 : W9.cell? ⟨w8.heap.size, 8, none⟩ = some (.int .i64 0) := cCc hX9 8
      have bx9 : W9.cell? ⟨w8.heap.size, 9, none⟩ = some (.slice none 0 0) := cCc hX9 9
      have by0 : W9.frozen? ⟨w8.heap.size, 0, none⟩ = false := cFz hX9 0
      have by1 : W9.frozen? ⟨w8.heap.size, 1, none⟩ = false := cFz hX9 1
      have by2 : W9.frozen? ⟨w8.heap.size, 2, none⟩ = false := cFz hX9 2
      have by3 : W9.frozen? ⟨w8.heap.size, 3, none⟩ = false := cFz hX9 3
      have by4 : W9.frozen? ⟨w8.heap.size, 4, none⟩ = false := cFz hX9 4
      have by5 : W9.frozen? ⟨w8.heap.size, 5, none⟩ = false := cFz hX9 5
      have by6 : W9.frozen? ⟨w8.heap.size, 6, none⟩ = false := cFz hX9 6
      have by7 : W9.frozen? ⟨w8.heap.size, 7, none⟩ = false := cFz hX9 7
      have by8 : W9.frozen? ⟨w8.heap.size, 8, none⟩ = false := cFz hX9 8
      have by9 : W9.frozen? ⟨w8.heap.size, 9, none⟩ = false := cFz hX9 9
      have bz0 : W9.setCell ⟨w8.heap.size, 0, none⟩ (.int .i64 0) = W9 := set_same hX9 rfl
      have bz1 : W9.setCell ⟨w8.heap.size, 1, none⟩ (.int .i64 0) = W9 := set_same hX9 rfl
      have bz2 : W9.setCell ⟨w8.heap.size, 2, none⟩ (.slice none 0 0) = W9 := set_same hX9 rfl
      have bz3 : W9.setCell ⟨w8.heap.size, 3, none⟩ (.int .i64 0) = W9 := set_same hX9 rfl
      have bz4 : W9.setCell ⟨w8.heap.size, 4, none⟩ (.string ⟨#[]⟩) = W9 := set_same hX9 rfl
      have bz5 : W9.setCell ⟨w8.heap.size, 5, none⟩ (.int .i64 0) = W9 := set_same hX9 rfl
      have bz6 : W9.setCell ⟨w8.heap.size, 6, none⟩ (.int .i64 0) = W9 := set_same hX9 rfl
      have bz7 : W9.setCell ⟨w8.heap.size, 7, none⟩ (.slice none 0 0) = W9 := set_same hX9 rfl
      have bz8 : W9.setCell ⟨w8.heap.size, 8, none⟩ (.int .i64 0) = W9 := set_same hX9 rfl
      have bz9 : W9.setCell ⟨w8.heap.size, 9, none⟩ (.slice none 0 0) = W9 := set_same hX9 rfl
      clear hX9 hb9 hb8
      have c0 : W9.cell? ⟨w.heap.size, 0, none⟩ = some (.int .i64 x2.kind) := cCc HI9.out.b0 0
      have c1 : W9.cell? ⟨w.heap.size, 1, none⟩ = some (.int .i64 x2.level) := cCc HI9.out.b0 1
      have c2 : W9.cell? ⟨w.heap.size, 2, none⟩ = some (.slice s2.ea s2.el s2.ec) := cCc HI9.out.b0 2
      have c3 : W9.cell? ⟨w.heap.size, 3, none⟩ = some (.int .i64 x2.hb) := cCc HI9.out.b0 3
      have c4 : W9.cell? ⟨w.heap.size, 4, none⟩ = some (.string x2.hr) := cCc HI9.out.b0 4
      have c5 : W9.cell? ⟨w.heap.size, 5, none⟩ = some (.int .i64 x2.cr) := cCc HI9.out.b0 5
      have c6 : W9.cell? ⟨w.heap.size, 6, none⟩ = some (.int .i64 x2.cc) := cCc HI9.out.b0 6
      have c7 : W9.cell? ⟨w.heap.size, 7, none⟩ = some (.slice s2.ca s2.cl s2.cc) := cCc HI9.out.b0 7
      have c8 : W9.cell? ⟨w.heap.size, 8, none⟩ = some (.int .i64 x2.gf) := cCc HI9.out.b0 8
      have c9 : W9.cell? ⟨w.heap.size, 9, none⟩ = some (.slice s2.ga s2.gl s2.gc) := cCc HI9.out.b0 9
      have d0 : W9.cell? ⟨w.heap.size + 1, 0, none⟩ = some (.int .i64 y2.kind) := cCc HI9.out.b1 0
      have d1 : W9.cell? ⟨w.heap.size + 1, 1, none⟩ = some (.int .i64 y2.level) := cCc HI9.out.b1 1
      have d2 : W9.cell? ⟨w.heap.size + 1, 2, none⟩ = some (.slice t2.ea t2.el t2.ec) := cCc HI9.out.b1 2
      have d3 : W9.cell? ⟨w.heap.size + 1, 3, none⟩ = some (.int .i64 y2.hb) := cCc HI9.out.b1 3
      have d4 : W9.cell? ⟨w.heap.size + 1, 4, none⟩ = some (.string y2.hr) := cCc HI9.out.b1 4
      have d5 : W9.cell? ⟨w.heap.size + 1, 5, none⟩ = some (.int .i64 y2.cr) := cCc HI9.out.b1 5
      have d6 : W9.cell? ⟨w.heap.size + 1, 6, none⟩ = some (.int .i64 y2.cc) := cCc HI9.out.b1 6
      have d7 : W9.cell? ⟨w.heap.size + 1, 7, none⟩ = some (.slice t2.ca t2.cl t2.cc) := cCc HI9.out.b1 7
      have d8 : W9.cell? ⟨w.heap.size + 1, 8, none⟩ = some (.int .i64 y2.gf) := cCc HI9.out.b1 8
      have d9 : W9.cell? ⟨w.heap.size + 1, 9, none⟩ = some (.slice t2.ga t2.gl t2.gc) := cCc HI9.out.b1 9
      go_wp2_with fail
      refine (HR0.out W9 HI9.out).mono ?_
      rintro e w10 ⟨rfl, hb10⟩
      have HI10 := Lib.hid (HI9.out.go hb10)
      clear c0 c1 c2 c3 c4 c5 c6 c7 c8 c9 d0 d1 d2 d3 d4 d5 d6 d7 d8 d9
      have d0 : w10.cell? ⟨w.heap.size + 1, 0, none⟩ = some (.int .i64 y2.kind) := cCc HI10.out.b1 0
      have d1 : w10.cell? ⟨w.heap.size + 1, 1, none⟩ = some (.int .i64 y2.level) := cCc HI10.out.b1 1
      have d2 : w10.cell? ⟨w.heap.size + 1, 2, none⟩ = some (.slice t2.ea t2.el t2.ec) := cCc HI10.out.b1 2
      have d3 : w10.cell? ⟨w.heap.size + 1, 3, none⟩ = some (.int .i64 y2.hb) := cCc HI10.out.b1 3
      have d4 : w10.cell? ⟨w.heap.size + 1, 4, none⟩ = some (.string y2.hr) := cCc HI10.out.b1 4
      have d5 : w10.cell? ⟨w.heap.size + 1, 5, none⟩ = some (.int .i64 y2.cr) := cCc HI10.out.b1 5
      have d6 : w10.cell? ⟨w.heap.size + 1, 6, none⟩ = some (.int .i64 y2.cc) := cCc HI10.out.b1 6
      have d7 : w10.cell? ⟨w.heap.size + 1, 7, none⟩ = some (.slice t2.ca t2.cl t2.cc) := cCc HI10.out.b1 7
      have d8 : w10.cell? ⟨w.heap.size + 1, 8, none⟩ = some (.int .i64 y2.gf) := cCc HI10.out.b1 8
      have d9 : w10.cell? ⟨w.heap.size + 1, 9, none⟩ = some (.slice t2.ga t2.gl t2.gc) := cCc HI10.out.b1 9
      go_wp2_with fail
      refine (HR1.out w10 HI10.out).mono ?_
      rintro e w11 ⟨rfl, hb11⟩
      have HI11 := Lib.hid (HI10.out.go hb11)
      go_wp2_with fail
      go_ret
      exact ⟨rfl, HI11.out.below⟩
    | true =>
      have HD1 : Hid (∀ W, GE fm ff cm cc W → Calls Tryz.prog 39 #[.string (encS y2)] W fun e w' => ∃ p : SS, e = .returned (.tuple #[.agg #[.int .i64 y2.kind, .int .i64 y2.level, .slice p.ea p.el p.ec, .int .i64 y2.hb, .string y2.hr, .int .i64 y2.cr, .int .i64 y2.cc, .slice p.ca p.cl p.cc, .int .i64 y2.gf, .slice p.ga p.gl p.gc], .string ⟨#[]⟩, .int .i64 0]) ∧ p.At w'.heap.size w' y2 ∧ Below W.heap.size W w') := fun W h => dec_of y2 HFY.out hoy fm ff cm cc W h
      obtain ⟨k1, L1, C1, hk1, ho1⟩ := sk_bd x2 hox HFX.out.num.e HFX.out.num.c (fun b hb => (HFX.out.num.g b hb).2)
      obtain ⟨k2, L2, C2, hk2, ho2⟩ := sk_bd y2 hoy HFY.out.num.e HFY.out.num.c (fun b hb => (HFY.out.num.g b hb).2)
      generalize encS x2 = a at HE0 HD0
      generalize encS y2 = b at HE1 HD1
      clear hox hoy
      by_cases hkk : k1 = k2
      · subst hkk
        have HK : Hid (x2 = skOf k1 L1 C1 ∧ y2 = skOf k1 L2 C2) := ⟨hk1, hk2⟩
        obtain ⟨L, hL⟩ : ∃ L, (wkMerge (L1, C1) (L2, C2)).1 = L := ⟨_, rfl⟩
        obtain ⟨C, hC⟩ : ∃ C, (wkMerge (L1, C1) (L2, C2)).2 = C := ⟨_, rfl⟩
        have HM : Hid (∀ v1 v2 W, SkB W v1 k1 L1 C1 → SkB W v2 k1 L2 C2 → GT W → Calls Tryz.prog 17 #[v1, v2] W fun e w' => ∃ z, e = .returned (.tuple #[z, .int .i64 0]) ∧ SkB w' z k1 L C ∧ Below W.heap.size W w') := by
          rw [← hL, ← hC]
          exact fun v1 v2 W h1 h2 h3 => Merge_any ho1 ho2 h3 h1 h2
        clear hk1 hk2 ho1 ho2 hL hC
        go_enter Tryz.func5, Tryz.ntmps5
        go_wp2_with fail
        refine HS.out.mono ?_
        rintro e w1 ⟨rfl, hb1⟩
        have HI1 := Lib.hid (HI0.out.go hb1)
        have c0 : w1.cell? ⟨w.heap.size, 0, none⟩ = some (.int .i64 x.kind) := cCc HI1.out.b0 0
        have c1 : w1.cell? ⟨w.heap.size, 1, none⟩ = some (.int .i64 x.level) := cCc HI1.out.b0 1
        have c2 : w1.cell? ⟨w.heap.size, 2, none⟩ = some (.slice s.ea s.el s.ec) := cCc HI1.out.b0 2
        have c3 : w1.cell? ⟨w.heap.size, 3, none⟩ = some (.int .i64 x.hb) := cCc HI1.out.b0 3
        have c4 : w1.cell? ⟨w.heap.size, 4, none⟩ = some (.string x.hr) := cCc HI1.out.b0 4
        have c5 : w1.cell? ⟨w.heap.size, 5, none⟩ = some (.int .i64 x.cr) := cCc HI1.out.b0 5
        have c6 : w1.cell? ⟨w.heap.size, 6, none⟩ = some (.int .i64 x.cc) := cCc HI1.out.b0 6
        have c7 : w1.cell? ⟨w.heap.size, 7, none⟩ = some (.slice s.ca s.cl s.cc) := cCc HI1.out.b0 7
        have c8 : w1.cell? ⟨w.heap.size, 8, none⟩ = some (.int .i64 x.gf) := cCc HI1.out.b0 8
        have c9 : w1.cell? ⟨w.heap.size, 9, none⟩ = some (.slice s.ga s.gl s.gc) := cCc HI1.out.b0 9
        go_wp2_with fail
        refine (HF0.out _ _ w1 HI1.out).mono ?_
        rintro e w2 ⟨v, rfl, rfl, hb2⟩
        have HI2 := Lib.hid (HI1.out.go hb2)
        unfold skVal
        clear c0 c1 c2 c3 c4 c5 c6 c7 c8 c9
        have d0 : w2.cell? ⟨w.heap.size, 0, none⟩ = some (.int .i64 x.kind) := cCc HI2.out.b0 0
        have d1 : w2.cell? ⟨w.heap.size, 1, none⟩ = some (.int .i64 x.level) := cCc HI2.out.b0 1
        have d2 : w2.cell? ⟨w.heap.size, 2, none⟩ = some (.slice s.ea s.el s.ec) := cCc HI2.out.b0 2
        have d3 : w2.cell? ⟨w.heap.size, 3, none⟩ = some (.int .i64 x.hb) := cCc HI2.out.b0 3
        have d4 : w2.cell? ⟨w.heap.size, 4, none⟩ = some (.string x.hr) := cCc HI2.out.b0 4
        have d5 : w2.cell? ⟨w.heap.size, 5, none⟩ = some (.int .i64 x.cr) := cCc HI2.out.b0 5
        have d6 : w2.cell? ⟨w.heap.size, 6, none⟩ = some (.int .i64 x.cc) := cCc HI2.out.b0 6
        have d7 : w2.cell? ⟨w.heap.size, 7, none⟩ = some (.slice s.ca s.cl s.cc) := cCc HI2.out.b0 7
        have d8 : w2.cell? ⟨w.heap.size, 8, none⟩ = some (.int .i64 x.gf) := cCc HI2.out.b0 8
        have d9 : w2.cell? ⟨w.heap.size, 9, none⟩ = some (.slice s.ga s.gl s.gc) := cCc HI2.out.b0 9
        have f0 : w2.frozen? ⟨w.heap.size, 0, none⟩ = false := cFz HI2.out.b0 0
        have f1 : w2.frozen? ⟨w.heap.size, 1, none⟩ = false := cFz HI2.out.b0 1
        have f2 : w2.frozen? ⟨w.heap.size, 2, none⟩ = false := cFz HI2.out.b0 2
        have f3 : w2.frozen? ⟨w.heap.size, 3, none⟩ = false := cFz HI2.out.b0 3
        have f4 : w2.frozen? ⟨w.heap.size, 4, none⟩ = false := cFz HI2.out.b0 4
        have f5 : w2.frozen? ⟨w.heap.size, 5, none⟩ = false := cFz HI2.out.b0 5
        have f6 : w2.frozen? ⟨w.heap.size, 6, none⟩ = false := cFz HI2.out.b0 6
        have f7 : w2.frozen? ⟨w.heap.size, 7, none⟩ = false := cFz HI2.out.b0 7
        have f8 : w2.frozen? ⟨w.heap.size, 8, none⟩ = false := cFz HI2.out.b0 8
        have f9 : w2.frozen? ⟨w.heap.size, 9, none⟩ = false := cFz HI2.out.b0 9
        obtain ⟨V, hV⟩ : ∃ V, skPut10 w2 (w.heap.size) x2 s2 = V := ⟨_, rfl⟩
        have HI3 : Hid (In2 w x2 s2 y t V) := by rw [← hV]; exact HI2.out.store0 (HC0.out _ _ w2 HI2.out)
        unfold skPut10 at hV
        have g0 : V.cell? ⟨w.heap.size + 1, 0, none⟩ = some (.int .i64 y.kind) := cCc HI3.out.b1 0
        have g1 : V.cell? ⟨w.heap.size + 1, 1, none⟩ = some (.int .i64 y.level) := cCc HI3.out.b1 1
        have g2 : V.cell? ⟨w.heap.size + 1, 2, none⟩ = some (.slice t.ea t.el t.ec) := cCc HI3.out.b1 2
        have g3 : V.cell? ⟨w.heap.size + 1, 3, none⟩ = some (.int .i64 y.hb) := cCc HI3.out.b1 3
        have g4 : V.cell? ⟨w.heap.size + 1, 4, none⟩ = some (.string y.hr) := cCc HI3.out.b1 4
        have g5 : V.cell? ⟨w.heap.size + 1, 5, none⟩ = some (.int .i64 y.cr) := cCc HI3.out.b1 5
        have g6 : V.cell? ⟨w.heap.size + 1, 6, none⟩ = some (.int .i64 y.cc) := cCc HI3.out.b1 6
        have g7 : V.cell? ⟨w.heap.size + 1, 7, none⟩ = some (.slice t.ca t.cl t.cc) := cCc HI3.out.b1 7
        have g8 : V.cell? ⟨w.heap.size + 1, 8, none⟩ = some (.int .i64 y.gf) := cCc HI3.out.b1 8
        have g9 : V.cell? ⟨w.heap.size + 1, 9, none⟩ = some (.slice t.ga t.gl t.gc) := cCc HI3.out.b1 9
        go_wp2_with fail
        refine (HF1.out _ _ V HI3.out).mono ?_
        rintro e w3 ⟨v, rfl, rfl, hb3⟩
        have HI4 := Lib.hid (HI3.out.go hb3)
        unfold skVal
        clear hV d0 d1 d2 d3 d4 d5 d6 d7 d8 d9 f0 f1 f2 f3 f4 f5 f6 f7 f8 f9 g0 g1 g2 g3 g4 g5 g6 g7 g8 g9
        have d0 : w3.cell? ⟨w.heap.size + 1, 0, none⟩ = some (.int .i64 y.kind) := cCc HI4.out.b1 0
        have d1 : w3.cell? ⟨w.heap.size + 1, 1, none⟩ = some (.int .i64 y.level) := cCc HI4.out.b1 1
        have d2 : w3.cell? ⟨w.heap.size + 1, 2, none⟩ = some (.slice t.ea t.el t.ec) := cCc HI4.out.b1 2
        have d3 : w3.cell? ⟨w.heap.size + 1, 3, none⟩ = some (.int .i64 y.hb) := cCc HI4.out.b1 3
        have d4 : w3.cell? ⟨w.heap.size + 1, 4, none⟩ = some (.string y.hr) := cCc HI4.out.b1 4
        have d5 : w3.cell? ⟨w.heap.size + 1, 5, none⟩ = some (.int .i64 y.cr) := cCc HI4.out.b1 5
        have d6 : w3.cell? ⟨w.heap.size + 1, 6, none⟩ = some (.int .i64 y.cc) := cCc HI4.out.b1 6
        have d7 : w3.cell? ⟨w.heap.size + 1, 7, none⟩ = some (.slice t.ca t.cl t.cc) := cCc HI4.out.b1 7
        have d8 : w3.cell? ⟨w.heap.size + 1, 8, none⟩ = some (.int .i64 y.gf) := cCc HI4.out.b1 8
        have d9 : w3.cell? ⟨w.heap.size + 1, 9, none⟩ = some (.slice t.ga t.gl t.gc) := cCc HI4.out.b1 9
        have f0 : w3.frozen? ⟨w.heap.size + 1, 0, none⟩ = false := cFz HI4.out.b1 0
        have f1 : w3.frozen? ⟨w.heap.size + 1, 1, none⟩ = false := cFz HI4.out.b1 1
        have f2 : w3.frozen? ⟨w.heap.size + 1, 2, none⟩ = false := cFz HI4.out.b1 2
        have f3 : w3.frozen? ⟨w.heap.size + 1, 3, none⟩ = false := cFz HI4.out.b1 3
        have f4 : w3.frozen? ⟨w.heap.size + 1, 4, none⟩ = false := cFz HI4.out.b1 4
        have f5 : w3.frozen? ⟨w.heap.size + 1, 5, none⟩ = false := cFz HI4.out.b1 5
        have f6 : w3.frozen? ⟨w.heap.size + 1, 6, none⟩ = false := cFz HI4.out.b1 6
        have f7 : w3.frozen? ⟨w.heap.size + 1, 7, none⟩ = false := cFz HI4.out.b1 7
        have f8 : w3.frozen? ⟨w.heap.size + 1, 8, none⟩ = false := cFz HI4.out.b1 8
        have f9 : w3.frozen? ⟨w.heap.size + 1, 9, none⟩ = false := cFz HI4.out.b1 9
        obtain ⟨U, hU⟩ : ∃ U, skPut10 w3 (w.heap.size + 1) y2 t2 = U := ⟨_, rfl⟩
        have HI5 : Hid (In2 w x2 s2 y2 t2 U) := by rw [← hU]; exact HI4.out.store1 (HC1.out _ _ w3 HI4.out)
        unfold skPut10 at hU
        have g0 : U.cell? ⟨w.heap.size, 0, none⟩ = some (.int .i64 x2.kind) := cCc HI5.out.b0 0
        have g1 : U.cell? ⟨w.heap.size, 1, none⟩ = some (.int .i64 x2.level) := cCc HI5.out.b0 1
        have g2 : U.cell? ⟨w.heap.size, 2, none⟩ = some (.slice s2.ea s2.el s2.ec) := cCc HI5.out.b0 2
        have g3 : U.cell? ⟨w.heap.size, 3, none⟩ = some (.int .i64 x2.hb) := cCc HI5.out.b0 3
        have g4 : U.cell? ⟨w.heap.size, 4, none⟩ = some (.string x2.hr) := cCc HI5.out.b0 4
        have g5 : U.cell? ⟨w.heap.size, 5, none⟩ = some (.int .i64 x2.cr) := cCc HI5.out.b0 5
        have g6 : U.cell? ⟨w.heap.size, 6, none⟩ = some (.int .i64 x2.cc) := cCc HI5.out.b0 6
        have g7 : U.cell? ⟨w.heap.size, 7, none⟩ = some (.slice s2.ca s2.cl s2.cc) := cCc HI5.out.b0 7
        have g8 : U.cell? ⟨w.heap.size, 8, none⟩ = some (.int .i64 x2.gf) := cCc HI5.out.b0 8
        have g9 : U.cell? ⟨w.heap.size, 9, none⟩ = some (.slice s2.ga s2.gl s2.gc) := cCc HI5.out.b0 9
        go_wp2_with fail
        refine (HE0.out U HI5.out).mono ?_
        rintro e w4 ⟨rfl, hb4⟩
        have HI6 := Lib.hid (HI5.out.go hb4)
        clear hU d0 d1 d2 d3 d4 d5 d6 d7 d8 d9 f0 f1 f2 f3 f4 f5 f6 f7 f8 f9 g0 g1 g2 g3 g4 g5 g6 g7 g8 g9
        have c0 : w4.cell? ⟨w.heap.size + 1, 0, none⟩ = some (.int .i64 y2.kind) := cCc HI6.out.b1 0
        have c1 : w4.cell? ⟨w.heap.size + 1, 1, none⟩ = some (.int .i64 y2.level) := cCc HI6.out.b1 1
        have c2 : w4.cell? ⟨w.heap.size + 1, 2, none⟩ = some (.slice t2.ea t2.el t2.ec) := cCc HI6.out.b1 2
        have c3 : w4.cell? ⟨w.heap.size + 1, 3, none⟩ = some (.int .i64 y2.hb) := cCc HI6.out.b1 3
        have c4 : w4.cell? ⟨w.heap.size + 1, 4, none⟩ = some (.string y2.hr) := cCc HI6.out.b1 4
        have c5 : w4.cell? ⟨w.heap.size + 1, 5, none⟩ = some (.int .i64 y2.cr) := cCc HI6.out.b1 5
        have c6 : w4.cell? ⟨w.heap.size + 1, 6, none⟩ = some (.int .i64 y2.cc) := cCc HI6.out.b1 6
        have c7 : w4.cell? ⟨w.heap.size + 1, 7, none⟩ = some (.slice t2.ca t2.cl t2.cc) := cCc HI6.out.b1 7
        have c8 : w4.cell? ⟨w.heap.size + 1, 8, none⟩ = some (.int .i64 y2.gf) := cCc HI6.out.b1 8
        have c9 : w4.cell? ⟨w.heap.size + 1, 9, none⟩ = some (.slice t2.ga t2.gl t2.gc) := cCc HI6.out.b1 9
        go_wp2_with fail
        refine (HE1.out w4 HI6.out).mono ?_
        rintro e w5 ⟨rfl, hb5⟩
        have HI7 := Lib.hid (HI6.out.go hb5)
        clear c0 c1 c2 c3 c4 c5 c6 c7 c8 c9
        go_wp2_with fail
        refine (HD0.out w5 (HGE.out w5 HI7.out.below)).mono ?_
        rintro e w6 ⟨p, rfl, hp6, hb6⟩
        obtain ⟨W7, hW7, hX7, hb7, hs7⟩ := boxes1 w6 #[.int .i64 x2.kind, .int .i64 x2.level, .slice p.ea p.el p.ec, .int .i64 x2.hb, .string x2.hr, .int .i64 x2.cr, .int .i64 x2.cc, .slice p.ca p.cl p.cc, .int .i64 x2.gf, .slice p.ga p.gl p.gc] 33
        have HI8 := Lib.hid ((HI7.out.go hb6).go hb7)
        have HP7 := Lib.hid (hp6.go hb7)
        have HX7 := Lib.hid hX7
        clear hX7 hb7 hb6 hp6
        go_wp2_with fail
        refine (HD1.out W7 (HGE.out W7 HI8.out.below)).mono ?_
        rintro e w8 ⟨q, rfl, hq8, hb8⟩
        obtain ⟨W9, hW9, hX9, hb9, hs9⟩ := boxes1 w8 #[.int .i64 y2.kind, .int .i64 y2.level, .slice q.ea q.el q.ec, .int .i64 y2.hb, .string y2.hr, .int .i64 y2.cr, .int .i64 y2.cc, .slice q.ca q.cl q.cc, .int .i64 y2.gf, .slice q.ga q.gl q.gc] 33
        have HI9 := Lib.hid ((HI8.out.go hb8).go hb9)
        have HB79 := Lib.hid (hb8.trans (hb9.mono hb8.size))
        have HQ9 := Lib.hid (hq8.go hb9)
        have HX9 := Lib.hid hX9
        clear hX9 hb9 hb8 hq8
        have c0 : W9.cell? ⟨w.heap.size, 0, none⟩ = some (.int .i64 x2.kind) := cCc HI9.out.b0 0
        have c1 : W9.cell? ⟨w.heap.size, 1, none⟩ = some (.int .i64 x2.level) := cCc HI9.out.b0 1
        have c2 : W9.cell? ⟨w.heap.size, 2, none⟩ = some (.slice s2.ea s2.el s2.ec) := cCc HI9.out.b0 2
        have c3 : W9.cell? ⟨w.heap.size, 3, none⟩ = some (.int .i64 x2.hb) := cCc HI9.out.b0 3
        have c4 : W9.cell? ⟨w.heap.size, 4, none⟩ = some (.string x2.hr) := cCc HI9.out.b0 4
        have c5 : W9.cell? ⟨w.heap.size, 5, none⟩ = some (.int .i64 x2.cr) := cCc HI9.out.b0 5
        have c6 : W9.cell? ⟨w.heap.size, 6, none⟩ = some (.int .i64 x2.cc) := cCc HI9.out.b0 6
        have c7 : W9.cell? ⟨w.heap.size, 7, none⟩ = some (.slice s2.ca s2.cl s2.cc) := cCc HI9.out.b0 7
        have c8 : W9.cell? ⟨w.heap.size, 8, none⟩ = some (.int .i64 x2.gf) := cCc HI9.out.b0 8
        have c9 : W9.cell? ⟨w.heap.size, 9, none⟩ = some (.slice s2.ga s2.gl s2.gc) := cCc HI9.out.b0 9
        have d0 : W9.cell? ⟨w.heap.size + 1, 0, none⟩ = some (.int .i64 y2.kind) := cCc HI9.out.b1 0
        have d1 : W9.cell? ⟨w.heap.size + 1, 1, none⟩ = some (.int .i64 y2.level) := cCc HI9.out.b1 1
        have d2 : W9.cell? ⟨w.heap.size + 1, 2, none⟩ = some (.slice t2.ea t2.el t2.ec) := cCc HI9.out.b1 2
        have d3 : W9.cell? ⟨w.heap.size + 1, 3, none⟩ = some (.int .i64 y2.hb) := cCc HI9.out.b1 3
        have d4 : W9.cell? ⟨w.heap.size + 1, 4, none⟩ = some (.string y2.hr) := cCc HI9.out.b1 4
        have d5 : W9.cell? ⟨w.heap.size + 1, 5, none⟩ = some (.int .i64 y2.cr) := cCc HI9.out.b1 5
        have d6 : W9.cell? ⟨w.heap.size + 1, 6, none⟩ = some (.int .i64 y2.cc) := cCc HI9.out.b1 6
        have d7 : W9.cell? ⟨w.heap.size + 1, 7, none⟩ = some (.slice t2.ca t2.cl t2.cc) := cCc HI9.out.b1 7
        have d8 : W9.cell? ⟨w.heap.size + 1, 8, none⟩ = some (.int .i64 y2.gf) := cCc HI9.out.b1 8
        have d9 : W9.cell? ⟨w.heap.size + 1, 9, none⟩ = some (.slice t2.ga t2.gl t2.gc) := cCc HI9.out.b1 9
        have HJ9 := Lib.hid (known HB79.out (Nat.le_refl _) HX7.out)
        have HP9 := Lib.hid (HP7.out.go HB79.out)
        have hM := HM.out (.agg #[.int .i64 x2.kind, .int .i64 x2.level, .slice s2.ea s2.el s2.ec, .int .i64 x2.hb, .string x2.hr, .int .i64 x2.cr, .int .i64 x2.cc, .slice s2.ca s2.cl s2.cc, .int .i64 x2.gf, .slice s2.ga s2.gl s2.gc]) (.agg #[.int .i64 y2.kind, .int .i64 y2.level, .slice t2.ea t2.el t2.ec, .int .i64 y2.hb, .string y2.hr, .int .i64 y2.cr, .int .i64 y2.cc, .slice t2.ca t2.cl t2.cc, .int .i64 y2.gf, .slice t2.ga t2.gl t2.gc]) W9 ⟨x2, s2, HK.out.1, rfl, HI9.out.a0⟩ ⟨y2, t2, HK.out.2, rfl, HI9.out.a1⟩ (HGT.out W9 HI9.out.below)
        go_wp2_with fail
        refine hM.mono ?_
        rintro e w10 ⟨z1, rfl, ⟨y5, s5, hy5, rfl, hA5⟩, hb10⟩
        have HY5 := Lib.hid hy5
        clear hy5
        obtain ⟨W11, hW11, hX11, hb11, hs11⟩ := boxes1 w10 #[.int .i64 y5.kind, .int .i64 y5.level, .slice s5.ea s5.el s5.ec, .int .i64 y5.hb, .string y5.hr, .int .i64 y5.cr, .int .i64 y5.cc, .slice s5.ca s5.cl s5.cc, .int .i64 y5.gf, .slice s5.ga s5.gl s5.gc] 33
        have hb911 := hb10.trans (hb11.mono hb10.size)
        have HI11 := Lib.hid (HI9.out.go hb911)
        have hj11 := known hb911 (Nat.le_refl _) HJ9.out
        have hx11 := known hb911 (Nat.le_refl _) HX9.out
        have HA11 := Lib.hid (hA5.go hb11)
        have hM2 := HM.out (.agg #[.int .i64 x2.kind, .int .i64 x2.level, .slice p.ea p.el p.ec, .int .i64 x2.hb, .string x2.hr, .int .i64 x2.cr, .int .i64 x2.cc, .slice p.ca p.cl p.cc, .int .i64 x2.gf, .slice p.ga p.gl p.gc]) (.agg #[.int .i64 y2.kind, .int .i64 y2.level, .slice q.ea q.el q.ec, .int .i64 y2.hb, .string y2.hr, .int .i64 y2.cr, .int .i64 y2.cc, .slice q.ca q.cl q.cc, .int .i64 y2.gf, .slice q.ga q.gl q.gc]) W11 ⟨x2, p, HK.out.1, rfl, HP9.out.go hb911⟩ ⟨y2, q, HK.out.2, rfl, HQ9.out.go hb911⟩ (HGT.out W11 HI11.out.below)
        have HX11 := Lib.hid hX11
        clear c0 c1 c2 c3 c4 c5 c6 c7 c8 c9 d0 d1 d2 d3 d4 d5 d6 d7 d8 d9
        have c0 : W11.cell? ⟨w6.heap.size, 0, none⟩ = some (.int .i64 x2.kind) := cCc hj11 0
        have c1 : W11.cell? ⟨w6.heap.size, 1, none⟩ = some (.int .i64 x2.level) := cCc hj11 1
        have c2 : W11.cell? ⟨w6.heap.size, 2, none⟩ = some (.slice p.ea p.el p.ec) := cCc hj11 2
        have c3 : W11.cell? ⟨w6.heap.size, 3, none⟩ = some (.int .i64 x2.hb) := cCc hj11 3
        have c4 : W11.cell? ⟨w6.heap.size, 4, none⟩ = some (.string x2.hr) := cCc hj11 4
        have c5 : W11.cell? ⟨w6.heap.size, 5, none⟩ = some (.int .i64 x2.cr) := cCc hj11 5
        have c6 : W11.cell? ⟨w6.heap.size, 6, none⟩ = some (.int .i64 x2.cc) := cCc hj11 6
        have c7 : W11.cell? ⟨w6.heap.size, 7, none⟩ = some (.slice p.ca p.cl p.cc) := cCc hj11 7
        have c8 : W11.cell? ⟨w6.heap.size, 8, none⟩ = some (.int .i64 x2.gf) := cCc hj11 8
        have c9 : W11.cell? ⟨w6.heap.size, 9, none⟩ = some (.slice p.ga p.gl p.gc) := cCc hj11 9
        have d0 : W11.cell? ⟨w8.heap.size, 0, none⟩ = some (.int .i64 y2.kind) := cCc hx11 0
        have d1 : W11.cell? ⟨w8.heap.size, 1, none⟩ = some (.int .i64 y2.level) := cCc hx11 1
        have d2 : W11.cell? ⟨w8.heap.size, 2, none⟩ = some (.slice q.ea q.el q.ec) := cCc hx11 2
        have d3 : W11.cell? ⟨w8.heap.size, 3, none⟩ = some (.int .i64 y2.hb) := cCc hx11 3
        have d4 : W11.cell? ⟨w8.heap.size, 4, none⟩ = some (.string y2.hr) := cCc hx11 4
        have d5 : W11.cell? ⟨w8.heap.size, 5, none⟩ = some (.int .i64 y2.cr) := cCc hx11 5
        have d6 : W11.cell? ⟨w8.heap.size, 6, none⟩ = some (.int .i64 y2.cc) := cCc hx11 6
        have d7 : W11.cell? ⟨w8.heap.size, 7, none⟩ = some (.slice q.ca q.cl q.cc) := cCc hx11 7
        have d8 : W11.cell? ⟨w8.heap.size, 8, none⟩ = some (.int .i64 y2.gf) := cCc hx11 8
        have d9 : W11.cell? ⟨w8.heap.size, 9, none⟩ = some (.slice q.ga q.gl q.gc) := cCc hx11 9
        clear hj11 hx11 hX11 hb911 hb10 hb11 hA5
        go_wp2_with fail
        refine hM2.mono ?_
        rintro e w12 ⟨z2, rfl, ⟨y6, s6, hy6, rfl, hA6⟩, hb12⟩
        obtain ⟨W13, hW13, hX13, hb13, hs13⟩ := boxes1 w12 #[.int .i64 y6.kind, .int .i64 y6.level, .slice s6.ea s6.el s6.ec, .int .i64 y6.hb, .string y6.hr, .int .i64 y6.cr, .int .i64 y6.cc, .slice s6.ca s6.cl s6.cc, .int .i64 y6.gf, .slice s6.ga s6.gl s6.gc] 33
        have hb1113 := hb12.trans (hb13.mono hb12.size)
        have HI13 := Lib.hid (HI11.out.go hb1113)
        have hx13 := known hb1113 (Nat.le_refl _) HX11.out
        have hSm := Same_sk (w := W13) ⟨y5, s5, HY5.out, rfl, HA11.out.go hb1113⟩ ⟨y6, s6, hy6, rfl, hA6.go hb13⟩
        clear c0 c1 c2 c3 c4 c5 c6 c7 c8 c9 d0 d1 d2 d3 d4 d5 d6 d7 d8 d9
        have c0 : W13.cell? ⟨w10.heap.size, 0, none⟩ = some (.int .i64 y5.kind) := cCc hx13 0
        have c1 : W13.cell? ⟨w10.heap.size, 1, none⟩ = some (.int .i64 y5.level) := cCc hx13 1
        have c2 : W13.cell? ⟨w10.heap.size, 2, none⟩ = some (.slice s5.ea s5.el s5.ec) := cCc hx13 2
        have c3 : W13.cell? ⟨w10.heap.size, 3, none⟩ = some (.int .i64 y5.hb) := cCc hx13 3
        have c4 : W13.cell? ⟨w10.heap.size, 4, none⟩ = some (.string y5.hr) := cCc hx13 4
        have c5 : W13.cell? ⟨w10.heap.size, 5, none⟩ = some (.int .i64 y5.cr) := cCc hx13 5
        have c6 : W13.cell? ⟨w10.heap.size, 6, none⟩ = some (.int .i64 y5.cc) := cCc hx13 6
        have c7 : W13.cell? ⟨w10.heap.size, 7, none⟩ = some (.slice s5.ca s5.cl s5.cc) := cCc hx13 7
        have c8 : W13.cell? ⟨w10.heap.size, 8, none⟩ = some (.int .i64 y5.gf) := cCc hx13 8
        have c9 : W13.cell? ⟨w10.heap.size, 9, none⟩ = some (.slice s5.ga s5.gl s5.gc) := cCc hx13 9
        have d0 : W13.cell? ⟨w12.heap.size, 0, none⟩ = some (.int .i64 y6.kind) := cCc hX13 0
        have d1 : W13.cell? ⟨w12.heap.size, 1, none⟩ = some (.int .i64 y6.level) := cCc hX13 1
        have d2 : W13.cell? ⟨w12.heap.size, 2, none⟩ = some (.slice s6.ea s6.el s6.ec) := cCc hX13 2
        have d3 : W13.cell? ⟨w12.heap.size, 3, none⟩ = some (.int .i64 y6.hb) := cCc hX13 3
        have d4 : W13.cell? ⟨w12.heap.size, 4, none⟩ = some (.string y6.hr) := cCc hX13 4
        have d5 : W13.cell? ⟨w12.heap.size, 5, none⟩ = some (.int .i64 y6.cr) := cCc hX13 5
        have d6 : W13.cell? ⟨w12.heap.size, 6, none⟩ = some (.int .i64 y6.cc) := cCc hX13 6
        have d7 : W13.cell? ⟨w12.heap.size, 7, none⟩ = some (.slice s6.ca s6.cl s6.cc) := cCc hX13 7
        have d8 : W13.cell? ⟨w12.heap.size, 8, none⟩ = some (.int .i64 y6.gf) := cCc hX13 8
        have d9 : W13.cell? ⟨w12.heap.size, 9, none⟩ = some (.slice s6.ga s6.gl s6.gc) := cCc hX13 9
        clear hx13 hX13 hb12 hb13 hb1113 hA6 hy6
        go_wp2_with fail
        refine hSm.mono ?_
        rintro e w14 ⟨rfl, hb14⟩
        go_wp2_with fail
        go_ret
        exact ⟨rfl, (HI13.out.go hb14).below⟩
      · have HK : Hid (x2 = skOf k1 L1 C1 ∧ y2 = skOf k2 L2 C2) := ⟨hk1, hk2⟩
        have HM : Hid (∀ v1 v2 W, SkB W v1 k1 L1 C1 → SkB W v2 k2 L2 C2 → GT W → Calls Tryz.prog 17 #[v1, v2] W fun e w' => e = .returned (.tuple #[.agg #[.int .i64 0, .int .i64 0, .slice none 0 0, .int .i64 0, .string ⟨#[]⟩, .int .i64 0, .int .i64 0, .slice none 0 0, .int .i64 0, .slice none 0 0], .int .i64 101]) ∧ Below W.heap.size W w') := fun v1 v2 W h1 h2 h3 => Merge_kinds ho1 ho2 hkk h3 h1 h2
        clear hk1 hk2 ho1 ho2 hkk
        go_enter Tryz.func5, Tryz.ntmps5
        go_wp2_with fail
        refine HS.out.mono ?_
        rintro e w1 ⟨rfl, hb1⟩
        have HI1 := Lib.hid (HI0.out.go hb1)
        have c0 : w1.cell? ⟨w.heap.size, 0, none⟩ = some (.int .i64 x.kind) := cCc HI1.out.b0 0
        have c1 : w1.cell? ⟨w.heap.size, 1, none⟩ = some (.int .i64 x.level) := cCc HI1.out.b0 1
        have c2 : w1.cell? ⟨w.heap.size, 2, none⟩ = some (.slice s.ea s.el s.ec) := cCc HI1.out.b0 2
        have c3 : w1.cell? ⟨w.heap.size, 3, none⟩ = some (.int .i64 x.hb) := cCc HI1.out.b0 3
        have c4 : w1.cell? ⟨w.heap.size, 4, none⟩ = some (.string x.hr) := cCc HI1.out.b0 4
        have c5 : w1.cell? ⟨w.heap.size, 5, none⟩ = some (.int .i64 x.cr) := cCc HI1.out.b0 5
        have c6 : w1.cell? ⟨w.heap.size, 6, none⟩ = some (.int .i64 x.cc) := cCc HI1.out.b0 6
        have c7 : w1.cell? ⟨w.heap.size, 7, none⟩ = some (.slice s.ca s.cl s.cc) := cCc HI1.out.b0 7
        have c8 : w1.cell? ⟨w.heap.size, 8, none⟩ = some (.int .i64 x.gf) := cCc HI1.out.b0 8
        have c9 : w1.cell? ⟨w.heap.size, 9, none⟩ = some (.slice s.ga s.gl s.gc) := cCc HI1.out.b0 9
        go_wp2_with fail
        refine (HF0.out _ _ w1 HI1.out).mono ?_
        rintro e w2 ⟨v, rfl, rfl, hb2⟩
        have HI2 := Lib.hid (HI1.out.go hb2)
        unfold skVal
        clear c0 c1 c2 c3 c4 c5 c6 c7 c8 c9
        have d0 : w2.cell? ⟨w.heap.size, 0, none⟩ = some (.int .i64 x.kind) := cCc HI2.out.b0 0
        have d1 : w2.cell? ⟨w.heap.size, 1, none⟩ = some (.int .i64 x.level) := cCc HI2.out.b0 1
        have d2 : w2.cell? ⟨w.heap.size, 2, none⟩ = some (.slice s.ea s.el s.ec) := cCc HI2.out.b0 2
        have d3 : w2.cell? ⟨w.heap.size, 3, none⟩ = some (.int .i64 x.hb) := cCc HI2.out.b0 3
        have d4 : w2.cell? ⟨w.heap.size, 4, none⟩ = some (.string x.hr) := cCc HI2.out.b0 4
        have d5 : w2.cell? ⟨w.heap.size, 5, none⟩ = some (.int .i64 x.cr) := cCc HI2.out.b0 5
        have d6 : w2.cell? ⟨w.heap.size, 6, none⟩ = some (.int .i64 x.cc) := cCc HI2.out.b0 6
        have d7 : w2.cell? ⟨w.heap.size, 7, none⟩ = some (.slice s.ca s.cl s.cc) := cCc HI2.out.b0 7
        have d8 : w2.cell? ⟨w.heap.size, 8, none⟩ = some (.int .i64 x.gf) := cCc HI2.out.b0 8
        have d9 : w2.cell? ⟨w.heap.size, 9, none⟩ = some (.slice s.ga s.gl s.gc) := cCc HI2.out.b0 9
        have f0 : w2.frozen? ⟨w.heap.size, 0, none⟩ = false := cFz HI2.out.b0 0
        have f1 : w2.frozen? ⟨w.heap.size, 1, none⟩ = false := cFz HI2.out.b0 1
        have f2 : w2.frozen? ⟨w.heap.size, 2, none⟩ = false := cFz HI2.out.b0 2
        have f3 : w2.frozen? ⟨w.heap.size, 3, none⟩ = false := cFz HI2.out.b0 3
        have f4 : w2.frozen? ⟨w.heap.size, 4, none⟩ = false := cFz HI2.out.b0 4
        have f5 : w2.frozen? ⟨w.heap.size, 5, none⟩ = false := cFz HI2.out.b0 5
        have f6 : w2.frozen? ⟨w.heap.size, 6, none⟩ = false := cFz HI2.out.b0 6
        have f7 : w2.frozen? ⟨w.heap.size, 7, none⟩ = false := cFz HI2.out.b0 7
        have f8 : w2.frozen? ⟨w.heap.size, 8, none⟩ = false := cFz HI2.out.b0 8
        have f9 : w2.frozen? ⟨w.heap.size, 9, none⟩ = false := cFz HI2.out.b0 9
        obtain ⟨V, hV⟩ : ∃ V, skPut10 w2 (w.heap.size) x2 s2 = V := ⟨_, rfl⟩
        have HI3 : Hid (In2 w x2 s2 y t V) := by rw [← hV]; exact HI2.out.store0 (HC0.out _ _ w2 HI2.out)
        unfold skPut10 at hV
        have g0 : V.cell? ⟨w.heap.size + 1, 0, none⟩ = some (.int .i64 y.kind) := cCc HI3.out.b1 0
        have g1 : V.cell? ⟨w.heap.size + 1, 1, none⟩ = some (.int .i64 y.level) := cCc HI3.out.b1 1
        have g2 : V.cell? ⟨w.heap.size + 1, 2, none⟩ = some (.slice t.ea t.el t.ec) := cCc HI3.out.b1 2
        have g3 : V.cell? ⟨w.heap.size + 1, 3, none⟩ = some (.int .i64 y.hb) := cCc HI3.out.b1 3
        have g4 : V.cell? ⟨w.heap.size + 1, 4, none⟩ = some (.string y.hr) := cCc HI3.out.b1 4
        have g5 : V.cell? ⟨w.heap.size + 1, 5, none⟩ = some (.int .i64 y.cr) := cCc HI3.out.b1 5
        have g6 : V.cell? ⟨w.heap.size + 1, 6, none⟩ = some (.int .i64 y.cc) := cCc HI3.out.b1 6
        have g7 : V.cell? ⟨w.heap.size + 1, 7, none⟩ = some (.slice t.ca t.cl t.cc) := cCc HI3.out.b1 7
        have g8 : V.cell? ⟨w.heap.size + 1, 8, none⟩ = some (.int .i64 y.gf) := cCc HI3.out.b1 8
        have g9 : V.cell? ⟨w.heap.size + 1, 9, none⟩ = some (.slice t.ga t.gl t.gc) := cCc HI3.out.b1 9
        go_wp2_with fail
        refine (HF1.out _ _ V HI3.out).mono ?_
        rintro e w3 ⟨v, rfl, rfl, hb3⟩
        have HI4 := Lib.hid (HI3.out.go hb3)
        unfold skVal
        clear hV d0 d1 d2 d3 d4 d5 d6 d7 d8 d9 f0 f1 f2 f3 f4 f5 f6 f7 f8 f9 g0 g1 g2 g3 g4 g5 g6 g7 g8 g9
        have d0 : w3.cell? ⟨w.heap.size + 1, 0, none⟩ = some (.int .i64 y.kind) := cCc HI4.out.b1 0
        have d1 : w3.cell? ⟨w.heap.size + 1, 1, none⟩ = some (.int .i64 y.level) := cCc HI4.out.b1 1
        have d2 : w3.cell? ⟨w.heap.size + 1, 2, none⟩ = some (.slice t.ea t.el t.ec) := cCc HI4.out.b1 2
        have d3 : w3.cell? ⟨w.heap.size + 1, 3, none⟩ = some (.int .i64 y.hb) := cCc HI4.out.b1 3
        have d4 : w3.cell? ⟨w.heap.size + 1, 4, none⟩ = some (.string y.hr) := cCc HI4.out.b1 4
        have d5 : w3.cell? ⟨w.heap.size + 1, 5, none⟩ = some (.int .i64 y.cr) := cCc HI4.out.b1 5
        have d6 : w3.cell? ⟨w.heap.size + 1, 6, none⟩ = some (.int .i64 y.cc) := cCc HI4.out.b1 6
        have d7 : w3.cell? ⟨w.heap.size + 1, 7, none⟩ = some (.slice t.ca t.cl t.cc) := cCc HI4.out.b1 7
        have d8 : w3.cell? ⟨w.heap.size + 1, 8, none⟩ = some (.int .i64 y.gf) := cCc HI4.out.b1 8
        have d9 : w3.cell? ⟨w.heap.size + 1, 9, none⟩ = some (.slice t.ga t.gl t.gc) := cCc HI4.out.b1 9
        have f0 : w3.frozen? ⟨w.heap.size + 1, 0, none⟩ = false := cFz HI4.out.b1 0
        have f1 : w3.frozen? ⟨w.heap.size + 1, 1, none⟩ = false := cFz HI4.out.b1 1
        have f2 : w3.frozen? ⟨w.heap.size + 1, 2, none⟩ = false := cFz HI4.out.b1 2
        have f3 : w3.frozen? ⟨w.heap.size + 1, 3, none⟩ = false := cFz HI4.out.b1 3
        have f4 : w3.frozen? ⟨w.heap.size + 1, 4, none⟩ = false := cFz HI4.out.b1 4
        have f5 : w3.frozen? ⟨w.heap.size + 1, 5, none⟩ = false := cFz HI4.out.b1 5
        have f6 : w3.frozen? ⟨w.heap.size + 1, 6, none⟩ = false := cFz HI4.out.b1 6
        have f7 : w3.frozen? ⟨w.heap.size + 1, 7, none⟩ = false := cFz HI4.out.b1 7
        have f8 : w3.frozen? ⟨w.heap.size + 1, 8, none⟩ = false := cFz HI4.out.b1 8
        have f9 : w3.frozen? ⟨w.heap.size + 1, 9, none⟩ = false := cFz HI4.out.b1 9
        obtain ⟨U, hU⟩ : ∃ U, skPut10 w3 (w.heap.size + 1) y2 t2 = U := ⟨_, rfl⟩
        have HI5 : Hid (In2 w x2 s2 y2 t2 U) := by rw [← hU]; exact HI4.out.store1 (HC1.out _ _ w3 HI4.out)
        unfold skPut10 at hU
        have g0 : U.cell? ⟨w.heap.size, 0, none⟩ = some (.int .i64 x2.kind) := cCc HI5.out.b0 0
        have g1 : U.cell? ⟨w.heap.size, 1, none⟩ = some (.int .i64 x2.level) := cCc HI5.out.b0 1
        have g2 : U.cell? ⟨w.heap.size, 2, none⟩ = some (.slice s2.ea s2.el s2.ec) := cCc HI5.out.b0 2
        have g3 : U.cell? ⟨w.heap.size, 3, none⟩ = some (.int .i64 x2.hb) := cCc HI5.out.b0 3
        have g4 : U.cell? ⟨w.heap.size, 4, none⟩ = some (.string x2.hr) := cCc HI5.out.b0 4
        have g5 : U.cell? ⟨w.heap.size, 5, none⟩ = some (.int .i64 x2.cr) := cCc HI5.out.b0 5
        have g6 : U.cell? ⟨w.heap.size, 6, none⟩ = some (.int .i64 x2.cc) := cCc HI5.out.b0 6
        have g7 : U.cell? ⟨w.heap.size, 7, none⟩ = some (.slice s2.ca s2.cl s2.cc) := cCc HI5.out.b0 7
        have g8 : U.cell? ⟨w.heap.size, 8, none⟩ = some (.int .i64 x2.gf) := cCc HI5.out.b0 8
        have g9 : U.cell? ⟨w.heap.size, 9, none⟩ = some (.slice s2.ga s2.gl s2.gc) := cCc HI5.out.b0 9
        go_wp2_with fail
        refine (HE0.out U HI5.out).mono ?_
        rintro e w4 ⟨rfl, hb4⟩
        have HI6 := Lib.hid (HI5.out.go hb4)
        clear hU d0 d1 d2 d3 d4 d5 d6 d7 d8 d9 f0 f1 f2 f3 f4 f5 f6 f7 f8 f9 g0 g1 g2 g3 g4 g5 g6 g7 g8 g9
        have c0 : w4.cell? ⟨w.heap.size + 1, 0, none⟩ = some (.int .i64 y2.kind) := cCc HI6.out.b1 0
        have c1 : w4.cell? ⟨w.heap.size + 1, 1, none⟩ = some (.int .i64 y2.level) := cCc HI6.out.b1 1
        have c2 : w4.cell? ⟨w.heap.size + 1, 2, none⟩ = some (.slice t2.ea t2.el t2.ec) := cCc HI6.out.b1 2
        have c3 : w4.cell? ⟨w.heap.size + 1, 3, none⟩ = some (.int .i64 y2.hb) := cCc HI6.out.b1 3
        have c4 : w4.cell? ⟨w.heap.size + 1, 4, none⟩ = some (.string y2.hr) := cCc HI6.out.b1 4
        have c5 : w4.cell? ⟨w.heap.size + 1, 5, none⟩ = some (.int .i64 y2.cr) := cCc HI6.out.b1 5
        have c6 : w4.cell? ⟨w.heap.size + 1, 6, none⟩ = some (.int .i64 y2.cc) := cCc HI6.out.b1 6
        have c7 : w4.cell? ⟨w.heap.size + 1, 7, none⟩ = some (.slice t2.ca t2.cl t2.cc) := cCc HI6.out.b1 7
        have c8 : w4.cell? ⟨w.heap.size + 1, 8, none⟩ = some (.int .i64 y2.gf) := cCc HI6.out.b1 8
        have c9 : w4.cell? ⟨w.heap.size + 1, 9, none⟩ = some (.slice t2.ga t2.gl t2.gc) := cCc HI6.out.b1 9
        go_wp2_with fail
        refine (HE1.out w4 HI6.out).mono ?_
        rintro e w5 ⟨rfl, hb5⟩
        have HI7 := Lib.hid (HI6.out.go hb5)
        clear c0 c1 c2 c3 c4 c5 c6 c7 c8 c9
        go_wp2_with fail
        refine (HD0.out w5 (HGE.out w5 HI7.out.below)).mono ?_
        rintro e w6 ⟨p, rfl, hp6, hb6⟩
        obtain ⟨W7, hW7, hX7, hb7, hs7⟩ := boxes1 w6 #[.int .i64 x2.kind, .int .i64 x2.level, .slice p.ea p.el p.ec, .int .i64 x2.hb, .string x2.hr, .int .i64 x2.cr, .int .i64 x2.cc, .slice p.ca p.cl p.cc, .int .i64 x2.gf, .slice p.ga p.gl p.gc] 33
        have HI8 := Lib.hid ((HI7.out.go hb6).go hb7)
        have HP7 := Lib.hid (hp6.go hb7)
        have HX7 := Lib.hid hX7
        clear hX7 hb7 hb6 hp6
        go_wp2_with fail
        refine (HD1.out W7 (HGE.out W7 HI8.out.below)).mono ?_
        rintro e w8 ⟨q, rfl, hq8, hb8⟩
        obtain ⟨W9, hW9, hX9, hb9, hs9⟩ := boxes1 w8 #[.int .i64 y2.kind, .int .i64 y2.level, .slice q.ea q.el q.ec, .int .i64 y2.hb, .string y2.hr, .int .i64 y2.cr, .int .i64 y2.cc, .slice q.ca q.cl q.cc, .int .i64 y2.gf, .slice q.ga q.gl q.gc] 33
        have HI9 := Lib.hid ((HI8.out.go hb8).go hb9)
        have HB79 := Lib.hid (hb8.trans (hb9.mono hb8.size))
        have HQ9 := Lib.hid (hq8.go hb9)
        have HX9 := Lib.hid hX9
        clear hX9 hb9 hb8 hq8
        have c0 : W9.cell? ⟨w.heap.size, 0, none⟩ = some (.int .i64 x2.kind) := cCc HI9.out.b0 0
        have c1 : W9.cell? ⟨w.heap.size, 1, none⟩ = some (.int .i64 x2.level) := cCc HI9.out.b0 1
        have c2 : W9.cell? ⟨w.heap.size, 2, none⟩ = some (.slice s2.ea s2.el s2.ec) := cCc HI9.out.b0 2
        have c3 : W9.cell? ⟨w.heap.size, 3, none⟩ = some (.int .i64 x2.hb) := cCc HI9.out.b0 3
        have c4 : W9.cell? ⟨w.heap.size, 4, none⟩ = some (.string x2.hr) := cCc HI9.out.b0 4
        have c5 : W9.cell? ⟨w.heap.size, 5, none⟩ = some (.int .i64 x2.cr) := cCc HI9.out.b0 5
        have c6 : W9.cell? ⟨w.heap.size, 6, none⟩ = some (.int .i64 x2.cc) := cCc HI9.out.b0 6
        have c7 : W9.cell? ⟨w.heap.size, 7, none⟩ = some (.slice s2.ca s2.cl s2.cc) := cCc HI9.out.b0 7
        have c8 : W9.cell? ⟨w.heap.size, 8, none⟩ = some (.int .i64 x2.gf) := cCc HI9.out.b0 8
        have c9 : W9.cell? ⟨w.heap.size, 9, none⟩ = some (.slice s2.ga s2.gl s2.gc) := cCc HI9.out.b0 9
        have d0 : W9.cell? ⟨w.heap.size + 1, 0, none⟩ = some (.int .i64 y2.kind) := cCc HI9.out.b1 0
        have d1 : W9.cell? ⟨w.heap.size + 1, 1, none⟩ = some (.int .i64 y2.level) := cCc HI9.out.b1 1
        have d2 : W9.cell? ⟨w.heap.size + 1, 2, none⟩ = some (.slice t2.ea t2.el t2.ec) := cCc HI9.out.b1 2
        have d3 : W9.cell? ⟨w.heap.size + 1, 3, none⟩ = some (.int .i64 y2.hb) := cCc HI9.out.b1 3
        have d4 : W9.cell? ⟨w.heap.size + 1, 4, none⟩ = some (.string y2.hr) := cCc HI9.out.b1 4
        have d5 : W9.cell? ⟨w.heap.size + 1, 5, none⟩ = some (.int .i64 y2.cr) := cCc HI9.out.b1 5
        have d6 : W9.cell? ⟨w.heap.size + 1, 6, none⟩ = some (.int .i64 y2.cc) := cCc HI9.out.b1 6
        have d7 : W9.cell? ⟨w.heap.size + 1, 7, none⟩ = some (.slice t2.ca t2.cl t2.cc) := cCc HI9.out.b1 7
        have d8 : W9.cell? ⟨w.heap.size + 1, 8, none⟩ = some (.int .i64 y2.gf) := cCc HI9.out.b1 8
        have d9 : W9.cell? ⟨w.heap.size + 1, 9, none⟩ = some (.slice t2.ga t2.gl t2.gc) := cCc HI9.out.b1 9
        have HJ9 := Lib.hid (known HB79.out (Nat.le_refl _) HX7.out)
        have HP9 := Lib.hid (HP7.out.go HB79.out)
        have hM := HM.out (.agg #[.int .i64 x2.kind, .int .i64 x2.level, .slice s2.ea s2.el s2.ec, .int .i64 x2.hb, .string x2.hr, .int .i64 x2.cr, .int .i64 x2.cc, .slice s2.ca s2.cl s2.cc, .int .i64 x2.gf, .slice s2.ga s2.gl s2.gc]) (.agg #[.int .i64 y2.kind, .int .i64 y2.level, .slice t2.ea t2.el t2.ec, .int .i64 y2.hb, .string y2.hr, .int .i64 y2.cr, .int .i64 y2.cc, .slice t2.ca t2.cl t2.cc, .int .i64 y2.gf, .slice t2.ga t2.gl t2.gc]) W9 ⟨x2, s2, HK.out.1, rfl, HI9.out.a0⟩ ⟨y2, t2, HK.out.2, rfl, HI9.out.a1⟩ (HGT.out W9 HI9.out.below)
        go_wp2_with fail
        refine hM.mono ?_
        rintro e w10 ⟨rfl, hb10⟩
        obtain ⟨W11, hW11, hX11, hb11, hs11⟩ := boxes1 w10 #[.int .i64 0, .int .i64 0, .slice none 0 0, .int .i64 0, .string ⟨#[]⟩, .int .i64 0, .int .i64 0, .slice none 0 0, .int .i64 0, .slice none 0 0] 33
        have hb911 := hb10.trans (hb11.mono hb10.size)
        have HI11 := Lib.hid (HI9.out.go hb911)
        have hj11 := known hb911 (Nat.le_refl _) HJ9.out
        have hx11 := known hb911 (Nat.le_refl _) HX9.out
        have ax0 : W11.cell? ⟨w10.heap.size, 0, none⟩ = some (.int .i64 0) := cCc hX11 0
        have ax1 : W11.cell? ⟨w10.heap.size, 1, none⟩ = some (.int .i64 0) := cCc hX11 1
        have ax2 : W11.cell? ⟨w10.heap.size, 2, none⟩ = some (.slice none 0 0) := cCc hX11 2
        have ax3 : W11.cell? ⟨w10.heap.size, 3, none⟩ = some (.int .i64 0) := cCc hX11 3
        have ax4 : W11.cell? ⟨w10.heap.size, 4, none⟩ = some (.string ⟨#[]⟩) := cCc hX11 4
        have ax5 : W11.cell? ⟨w10.heap.size, 5, none⟩ = some (.int .i64 0) := cCc hX11 5
        have ax6 : W11.cell? ⟨w10.heap.size, 6, none⟩ = some (.int .i64 0) := cCc hX11 6
        have ax7 : W11.cell? ⟨w10.heap.size, 7, none⟩ = some (.slice none 0 0) := cCc hX11 7
        have ax8 : W11.cell? ⟨w10.heap.size, 8, none⟩ = some (.int .i64 0) := cCc hX11 8
        have ax9 : W11.cell? ⟨w10.heap.size, 9, none⟩ = some (.slice none 0 0) := cCc hX11 9
        have ay0 : W11.frozen? ⟨w10.heap.size, 0, none⟩ = false := cFz hX11 0
        have ay1 : W11.frozen? ⟨w10.heap.size, 1, none⟩ = false := cFz hX11 1
        have ay2 : W11.frozen? ⟨w10.heap.size, 2, none⟩ = false := cFz hX11 2
        have ay3 : W11.frozen? ⟨w10.heap.size, 3, none⟩ = false := cFz hX11 3
        have ay4 : W11.frozen? ⟨w10.heap.size, 4, none⟩ = false := cFz hX11 4
        have ay5 : W11.frozen? ⟨w10.heap.size, 5, none⟩ = false := cFz hX11 5
        have ay6 : W11.frozen? ⟨w10.heap.size, 6, none⟩ = false := cFz hX11 6
        have ay7 : W11.frozen? ⟨w10.heap.size, 7, none⟩ = false := cFz hX11 7
        have ay8 : W11.frozen? ⟨w10.heap.size, 8, none⟩ = false := cFz hX11 8
        have ay9 : W11.frozen? ⟨w10.heap.size, 9, none⟩ = false := cFz hX11 9
        have az0 : W11.setCell ⟨w10.heap.size, 0, none⟩ (.int .i64 0) = W11 := set_same hX11 rfl
        have az1 : W11.setCell ⟨w10.heap.size, 1, none⟩ (.int .i64 0) = W11 := set_same hX11 rfl
        have az2 : W11.setCell ⟨w10.heap.size, 2, none⟩ (.slice none 0 0) = W11 := set_same hX11 rfl
        have az3 : W11.setCell ⟨w10.heap.size, 3, none⟩ (.int .i64 0) = W11 := set_same hX11 rfl
        have az4 : W11.setCell ⟨w10.heap.size, 4, none⟩ (.string ⟨#[]⟩) = W11 := set_same hX11 rfl
        have az5 : W11.setCell ⟨w10.heap.size, 5, none⟩ (.int .i64 0) = W11 := set_same hX11 rfl
        have az6 : W11.setCell ⟨w10.heap.size, 6, none⟩ (.int .i64 0) = W11 := set_same hX11 rfl
        have az7 : W11.setCell ⟨w10.heap.size, 7, none⟩ (.slice none 0 0) = W11 := set_same hX11 rfl
        have az8 : W11.setCell ⟨w10.heap.size, 8, none⟩ (.int .i64 0) = W11 := set_same hX11 rfl
        have az9 : W11.setCell ⟨w10.heap.size, 9, none⟩ (.slice none 0 0) = W11 := set_same hX11 rfl
        have hM2 := HM.out (.agg #[.int .i64 x2.kind, .int .i64 x2.level, .slice p.ea p.el p.ec, .int .i64 x2.hb, .string x2.hr, .int .i64 x2.cr, .int .i64 x2.cc, .slice p.ca p.cl p.cc, .int .i64 x2.gf, .slice p.ga p.gl p.gc]) (.agg #[.int .i64 y2.kind, .int .i64 y2.level, .slice q.ea q.el q.ec, .int .i64 y2.hb, .string y2.hr, .int .i64 y2.cr, .int .i64 y2.cc, .slice q.ca q.cl q.cc, .int .i64 y2.gf, .slice q.ga q.gl q.gc]) W11 ⟨x2, p, HK.out.1, rfl, HP9.out.go hb911⟩ ⟨y2, q, HK.out.2, rfl, HQ9.out.go hb911⟩ (HGT.out W11 HI11.out.below)
        have HX11 := Lib.hid hX11
        clear c0 c1 c2 c3 c4 c5 c6 c7 c8 c9 d0 d1 d2 d3 d4 d5 d6 d7 d8 d9
        have c0 : W11.cell? ⟨w6.heap.size, 0, none⟩ = some (.int .i64 x2.kind) := cCc hj11 0
        have c1 : W11.cell? ⟨w6.heap.size, 1, none⟩ = some (.int .i64 x2.level) := cCc hj11 1
        have c2 : W11.cell? ⟨w6.heap.size, 2, none⟩ = some (.slice p.ea p.el p.ec) := cCc hj11 2
        have c3 : W11.cell? ⟨w6.heap.size, 3, none⟩ = some (.int .i64 x2.hb) := cCc hj11 3
        have c4 : W11.cell? ⟨w6.heap.size, 4, none⟩ = some (.string x2.hr) := cCc hj11 4
        have c5 : W11.cell? ⟨w6.heap.size, 5, none⟩ = some (.int .i64 x2.cr) := cCc hj11 5
        have c6 : W11.cell? ⟨w6.heap.size, 6, none⟩ = some (.int .i64 x2.cc) := cCc hj11 6
        have c7 : W11.cell? ⟨w6.heap.size, 7, none⟩ = some (.slice p.ca p.cl p.cc) := cCc hj11 7
        have c8 : W11.cell? ⟨w6.heap.size, 8, none⟩ = some (.int .i64 x2.gf) := cCc hj11 8
        have c9 : W11.cell? ⟨w6.heap.size, 9, none⟩ = some (.slice p.ga p.gl p.gc) := cCc hj11 9
        have d0 : W11.cell? ⟨w8.heap.size, 0, none⟩ = some (.int .i64 y2.kind) := cCc hx11 0
        have d1 : W11.cell? ⟨w8.heap.size, 1, none⟩ = some (.int .i64 y2.level) := cCc hx11 1
        have d2 : W11.cell? ⟨w8.heap.size, 2, none⟩ = some (.slice q.ea q.el q.ec) := cCc hx11 2
        have d3 : W11.cell? ⟨w8.heap.size, 3, none⟩ = some (.int .i64 y2.hb) := cCc hx11 3
        have d4 : W11.cell? ⟨w8.heap.size, 4, none⟩ = some (.string y2.hr) := cCc hx11 4
        have d5 : W11.cell? ⟨w8.heap.size, 5, none⟩ = some (.int .i64 y2.cr) := cCc hx11 5
        have d6 : W11.cell? ⟨w8.heap.size, 6, none⟩ = some (.int .i64 y2.cc) := cCc hx11 6
        have d7 : W11.cell? ⟨w8.heap.size, 7, none⟩ = some (.slice q.ca q.cl q.cc) := cCc hx11 7
        have d8 : W11.cell? ⟨w8.heap.size, 8, none⟩ = some (.int .i64 y2.gf) := cCc hx11 8
        have d9 : W11.cell? ⟨w8.heap.size, 9, none⟩ = some (.slice q.ga q.gl q.gc) := cCc hx11 9
        clear hj11 hx11 hX11 hb911 hb10 hb11
        go_wp2_with fail
        refine hM2.mono ?_
        rintro e w12 ⟨rfl, hb12⟩
        obtain ⟨W13, hW13, hX13, hb13, hs13⟩ := boxes1 w12 #[.int .i64 0, .int .i64 0, .slice none 0 0, .int .i64 0, .string ⟨#[]⟩, .int .i64 0, .int .i64 0, .slice none 0 0, .int .i64 0, .slice none 0 0] 33
        have hb1113 := hb12.trans (hb13.mono hb12.size)
        have HI13 := Lib.hid (HI11.out.go hb1113)
        have hx13 := known hb1113 (Nat.le_refl _) HX11.out
        have hSm := Same_zero W13
        clear c0 c1 c2 c3 c4 c5 c6 c7 c8 c9 d0 d1 d2 d3 d4 d5 d6 d7 d8 d9 ax0 ax1 ax2 ax3 ax4 ax5 ax6 ax7 ax8 ax9 ay0 ay1 ay2 ay3 ay4 ay5 ay6 ay7 ay8 ay9 az0 az1 az2 az3 az4 az5 az6 az7 az8 az9
        have c0 : W13.cell? ⟨w10.heap.size, 0, none⟩ = some (.int .i64 0) := cCc hx13 0
        have c1 : W13.cell? ⟨w10.heap.size, 1, none⟩ = some (.int .i64 0) := cCc hx13 1
        have c2 : W13.cell? ⟨w10.heap.size, 2, none⟩ = some (.slice none 0 0) := cCc hx13 2
        have c3 : W13.cell? ⟨w10.heap.size, 3, none⟩ = some (.int .i64 0) := cCc hx13 3
        have c4 : W13.cell? ⟨w10.heap.size, 4, none⟩ = some (.string ⟨#[]⟩) := cCc hx13 4
        have c5 : W13.cell? ⟨w10.heap.size, 5, none⟩ = some (.int .i64 0) := cCc hx13 5
        have c6 : W13.cell? ⟨w10.heap.size, 6, none⟩ = some (.int .i64 0) := cCc hx13 6
        have c7 : W13.cell? ⟨w10.heap.size, 7, none⟩ = some (.slice none 0 0) := cCc hx13 7
        have c8 : W13.cell? ⟨w10.heap.size, 8, none⟩ = some (.int .i64 0) := cCc hx13 8
        have c9 : W13.cell? ⟨w10.heap.size, 9, none⟩ = some (.slice none 0 0) := cCc hx13 9
        have bx0 : W13.cell? ⟨w12.heap.size, 0, none⟩ = some (.int .i64 0) := cCc hX13 0
        have bx1 : W13.cell? ⟨w12.heap.size, 1, none⟩ = some (.int .i64 0) := cCc hX13 1
        have bx2 : W13.cell? ⟨w12.heap.size, 2, none⟩ = some (.slice none 0 0) := cCc hX13 2
        have bx3 : W13.cell? ⟨w12.heap.size, 3, none⟩ = some (.int .i64 0) := cCc hX13 3
        have bx4 : W13.cell? ⟨w12.heap.size, 4, none⟩ = some (.string ⟨#[]⟩) := cCc hX13 4
        have bx5 : W13.cell? ⟨w12.heap.size, 5, none⟩ = some (.int .i64 0) := cCc hX13 5
        have bx6 : W13.cell? ⟨w12.heap.size, 6, none⟩ = some (.int .i64 0) := cCc hX13 6
        have bx7 : W13.cell? ⟨w12.heap.size, 7, none⟩ = some (.slice none 0 0) := cCc hX13 7
        have bx8 : W13.cell? ⟨w12.heap.size, 8, none⟩ = some (.int .i64 0) := cCc hX13 8
        have bx9 : W13.cell? ⟨w12.heap.size, 9, none⟩ = some (.slice none 0 0) := cCc hX13 9
        have by0 : W13.frozen? ⟨w12.heap.size, 0, none⟩ = false := cFz hX13 0
        have by1 : W13.frozen? ⟨w12.heap.size, 1, none⟩ = false := cFz hX13 1
        have by2 : W13.frozen? ⟨w12.heap.size, 2, none⟩ = false := cFz hX13 2
        have by3 : W13.frozen? ⟨w12.heap.size, 3, none⟩ = false := cFz hX13 3
        have by4 : W13.frozen? ⟨w12.heap.size, 4, none⟩ = false := cFz hX13 4
        have by5 : W13.frozen? ⟨w12.heap.size, 5, none⟩ = false := cFz hX13 5
        have by6 : W13.frozen? ⟨w12.heap.size, 6, none⟩ = false := cFz hX13 6
        have by7 : W13.frozen? ⟨w12.heap.size, 7, none⟩ = false := cFz hX13 7
        have by8 : W13.frozen? ⟨w12.heap.size, 8, none⟩ = false := cFz hX13 8
        have by9 : W13.frozen? ⟨w12.heap.size, 9, none⟩ = false := cFz hX13 9
        have bz0 : W13.setCell ⟨w12.heap.size, 0, none⟩ (.int .i64 0) = W13 := set_same hX13 rfl
        have bz1 : W13.setCell ⟨w12.heap.size, 1, none⟩ (.int .i64 0) = W13 := set_same hX13 rfl
        have bz2 : W13.setCell ⟨w12.heap.size, 2, none⟩ (.slice none 0 0) = W13 := set_same hX13 rfl
        have bz3 : W13.setCell ⟨w12.heap.size, 3, none⟩ (.int .i64 0) = W13 := set_same hX13 rfl
        have bz4 : W13.setCell ⟨w12.heap.size, 4, none⟩ (.string ⟨#[]⟩) = W13 := set_same hX13 rfl
        have bz5 : W13.setCell ⟨w12.heap.size, 5, none⟩ (.int .i64 0) = W13 := set_same hX13 rfl
        have bz6 : W13.setCell ⟨w12.heap.size, 6, none⟩ (.int .i64 0) = W13 := set_same hX13 rfl
        have bz7 : W13.setCell ⟨w12.heap.size, 7, none⟩ (.slice none 0 0) = W13 := set_same hX13 rfl
        have bz8 : W13.setCell ⟨w12.heap.size, 8, none⟩ (.int .i64 0) = W13 := set_same hX13 rfl
        have bz9 : W13.setCell ⟨w12.heap.size, 9, none⟩ (.slice none 0 0) = W13 := set_same hX13 rfl
        clear hx13 hX13 hb12 hb13 hb1113
        go_wp2_with fail
        refine hSm.mono ?_
        rintro e w14 ⟨rfl, hb14⟩
        go_wp2_with fail
        go_ret
        exact ⟨rfl, (HI13.out.go hb14).below⟩
end Go.Proofs.YtpnlmfilmbodfaaGreatDoor
