/- aviarylaw12.SeriesOrders answers true. -/
import Derived.Test.YtnmgfdkacibinaaDoorV1
namespace Go.Proofs.YtnmgfdkacibinaaDoor
open Go Go.RowKit Go.Shelf

set_option maxRecDepth 100000 in
set_option maxHeartbeats 8000000 in
theorem orders_any (l : List (Ser × SerP)) (a : Option Addr) (len cap : Nat) (x y : Ser) (p q : SerP) (w : World) (hT : Tab w.heap.size w a len cap l) (hW : ∀ x ∈ l.map (·.1), x.wf) (hx : p.At w.heap.size w x) (hy : q.At w.heap.size w y) (wx : x.wf) (wy : y.wf) (hG : GW w) :
    Calls Tryd.prog 8 #[.slice a len cap, .agg #[.slice p.la p.ll p.lc, .int .i64 x.sk.kind, .int .i64 x.sk.level, .slice p.ss.ea p.ss.el p.ss.ec, .int .i64 x.sk.hb, .string x.sk.hr, .int .i64 x.sk.cr, .int .i64 x.sk.cc, .slice p.ss.ca p.ss.cl p.ss.cc, .int .i64 x.sk.gf, .slice p.ss.ga p.ss.gl p.ss.gc, .int .u64 x.seen], .agg #[.slice q.la q.ll q.lc, .int .i64 y.sk.kind, .int .i64 y.sk.level, .slice q.ss.ea q.ss.el q.ss.ec, .int .i64 y.sk.hb, .string y.sk.hr, .int .i64 y.sk.cr, .int .i64 y.sk.cc, .slice q.ss.ca q.ss.cl q.ss.cc, .int .i64 y.sk.gf, .slice q.ss.ga q.ss.gl q.ss.gc, .int .u64 y.seen]] w fun e w' => e = .returned (.bool true) ∧ Below w.heap.size w w' := by
  obtain ⟨W0, hW0, hXA, hXB, hB0, hs0⟩ := boxes2 w #[.slice p.la p.ll p.lc, .int .i64 x.sk.kind, .int .i64 x.sk.level, .slice p.ss.ea p.ss.el p.ss.ec, .int .i64 x.sk.hb, .string x.sk.hr, .int .i64 x.sk.cr, .int .i64 x.sk.cc, .slice p.ss.ca p.ss.cl p.ss.cc, .int .i64 x.sk.gf, .slice p.ss.ga p.ss.gl p.ss.gc, .int .u64 x.seen] 54 #[.slice q.la q.ll q.lc, .int .i64 y.sk.kind, .int .i64 y.sk.level, .slice q.ss.ea q.ss.el q.ss.ec, .int .i64 y.sk.hb, .string y.sk.hr, .int .i64 y.sk.cr, .int .i64 y.sk.cc, .slice q.ss.ca q.ss.cl q.ss.cc, .int .i64 y.sk.gf, .slice q.ss.ga q.ss.gl q.ss.gc, .int .u64 y.seen] 54
  have c0 : W0.cell? ⟨w.heap.size, 0, none⟩ = some (.slice p.la p.ll p.lc) := cell_of_cells hXA 0
  have c1 : W0.cell? ⟨w.heap.size, 1, none⟩ = some (.int .i64 x.sk.kind) := cell_of_cells hXA 1
  have c2 : W0.cell? ⟨w.heap.size, 2, none⟩ = some (.int .i64 x.sk.level) := cell_of_cells hXA 2
  have c3 : W0.cell? ⟨w.heap.size, 3, none⟩ = some (.slice p.ss.ea p.ss.el p.ss.ec) := cell_of_cells hXA 3
  have c4 : W0.cell? ⟨w.heap.size, 4, none⟩ = some (.int .i64 x.sk.hb) := cell_of_cells hXA 4
  have c5 : W0.cell? ⟨w.heap.size, 5, none⟩ = some (.string x.sk.hr) := cell_of_cells hXA 5
  have c6 : W0.cell? ⟨w.heap.size, 6, none⟩ = some (.int .i64 x.sk.cr) := cell_of_cells hXA 6
  have c7 : W0.cell? ⟨w.heap.size, 7, none⟩ = some (.int .i64 x.sk.cc) := cell_of_cells hXA 7
  have c8 : W0.cell? ⟨w.heap.size, 8, none⟩ = some (.slice p.ss.ca p.ss.cl p.ss.cc) := cell_of_cells hXA 8
  have c9 : W0.cell? ⟨w.heap.size, 9, none⟩ = some (.int .i64 x.sk.gf) := cell_of_cells hXA 9
  have c10 : W0.cell? ⟨w.heap.size, 10, none⟩ = some (.slice p.ss.ga p.ss.gl p.ss.gc) := cell_of_cells hXA 10
  have c11 : W0.cell? ⟨w.heap.size, 11, none⟩ = some (.int .u64 x.seen) := cell_of_cells hXA 11
  have HT : Hid (Tab W0.heap.size W0 a len cap l) := hT.go hB0
  have HO : Hid (∀ e ∈ l, e.2.Off (· < w.heap.size)) := fun e he => (hT.at_ e he).off
  have HW := Lib.hid hW
  have HP : Hid (p.At W0.heap.size W0 x) := hx.go hB0
  have HQ : Hid (q.At W0.heap.size W0 y) := hy.go hB0
  have HPo : Hid (p.Off (· < w.heap.size)) := hx.off
  have HQo : Hid (q.Off (· < w.heap.size)) := hy.off
  have HFx : Hid (x.cut.fine) := wx.cut
  have HFy : Hid (y.cut.fine) := wy.cut
  have HG : Hid (GW W0) := hG.below hB0
  have HGw := Lib.hid hG
  have hz0 : w.heap.size + 1 < W0.heap.size := by omega
  have hz00 : w.heap.size < W0.heap.size := by omega
  have HXA := Lib.hid hXA
  have HXB := Lib.hid hXB
  have HB0 := Lib.hid hB0
  clear hT hW hx hy wx wy hG hs0 hXA hXB hB0
  go_enter Tryd.func8, Tryd.ntmps8
  go_wp2_with (first
    | (go_at_call 17; refine (shown12_any W0 HG.out).mono ?_; rintro e w1 ⟨rfl, hb1⟩)
    | (go_at_call 18; refine (few12_any l a len cap w1 (HT.out.go hb1)).mono ?_; rintro e w2 ⟨a2, cap2, m, rfl, hT2, hm, hlo2, hla2, hb2⟩; have hb02 := hb1.trans (hb2.mono hb1.size); obtain ⟨hc2, hd2⟩ := bcell hb02))
  have hz1 := hb1.size
  have hz2 := hb2.size
  have HT2 := Lib.hid hT2
  have HM := Lib.hid hm
  have HLO := Lib.hid hlo2
  have HOm : Hid (∀ e ∈ m, e.2.Off (fun b => b < w.heap.size ∨ w1.heap.size ≤ b)) := hla2.2 _ HO.out
  clear hT2 hm hlo2 hla2 c0 c1 c2 c3 c4 c5 c6 c7 c8 c9 c10 c11 hc2 hd2
  refine (one12_any x p w2 (HP.out.go hb02)).mono ?_
  rintro e w3 ⟨pa, rfl, hsa, hata, hloa, hb3⟩
  have HXA3 := known hb3 (Nat.le_refl _) (known hb02 (Nat.le_refl _) HXA.out)
  have HXB3 := known hb3 (Nat.le_refl _) (known hb02 (Nat.le_refl _) HXB.out)
  have hz3 := hb3.size
  generalize hxa : x.cut = xa at *
  obtain ⟨V3, hV3, hXV3, hAp3, hBV3, hs3, ht3⟩ := box12 HXA3 (.slice pa.la pa.ll pa.lc) (.int .i64 xa.sk.kind) (.int .i64 xa.sk.level) (.slice pa.ss.ea pa.ss.el pa.ss.ec) (.int .i64 xa.sk.hb) (.string xa.sk.hr) (.int .i64 xa.sk.cr) (.int .i64 xa.sk.cc) (.slice pa.ss.ca pa.ss.cl pa.ss.cc) (.int .i64 xa.sk.gf) (.slice pa.ss.ga pa.ss.gl pa.ss.gc) (.int .u64 xa.seen)
  have c0 : w3.cell? ⟨w.heap.size, 0, none⟩ = some (.slice p.la p.ll p.lc) := cell_of_cells HXA3 0
  have c1 : w3.cell? ⟨w.heap.size, 1, none⟩ = some (.int .i64 x.sk.kind) := cell_of_cells HXA3 1
  have c2 : w3.cell? ⟨w.heap.size, 2, none⟩ = some (.int .i64 x.sk.level) := cell_of_cells HXA3 2
  have c3 : w3.cell? ⟨w.heap.size, 3, none⟩ = some (.slice p.ss.ea p.ss.el p.ss.ec) := cell_of_cells HXA3 3
  have c4 : w3.cell? ⟨w.heap.size, 4, none⟩ = some (.int .i64 x.sk.hb) := cell_of_cells HXA3 4
  have c5 : w3.cell? ⟨w.heap.size, 5, none⟩ = some (.string x.sk.hr) := cell_of_cells HXA3 5
  have c6 : w3.cell? ⟨w.heap.size, 6, none⟩ = some (.int .i64 x.sk.cr) := cell_of_cells HXA3 6
  have c7 : w3.cell? ⟨w.heap.size, 7, none⟩ = some (.int .i64 x.sk.cc) := cell_of_cells HXA3 7
  have c8 : w3.cell? ⟨w.heap.size, 8, none⟩ = some (.slice p.ss.ca p.ss.cl p.ss.cc) := cell_of_cells HXA3 8
  have c9 : w3.cell? ⟨w.heap.size, 9, none⟩ = some (.int .i64 x.sk.gf) := cell_of_cells HXA3 9
  have c10 : w3.cell? ⟨w.heap.size, 10, none⟩ = some (.slice p.ss.ga p.ss.gl p.ss.gc) := cell_of_cells HXA3 10
  have c11 : w3.cell? ⟨w.heap.size, 11, none⟩ = some (.int .u64 x.seen) := cell_of_cells HXA3 11
  have f0 : w3.frozen? ⟨w.heap.size, 0, none⟩ = false := frozen_of_cells HXA3 0
  have f1 : w3.frozen? ⟨w.heap.size, 1, none⟩ = false := frozen_of_cells HXA3 1
  have f2 : w3.frozen? ⟨w.heap.size, 2, none⟩ = false := frozen_of_cells HXA3 2
  have f3 : w3.frozen? ⟨w.heap.size, 3, none⟩ = false := frozen_of_cells HXA3 3
  have f4 : w3.frozen? ⟨w.heap.size, 4, none⟩ = false := frozen_of_cells HXA3 4
  have f5 : w3.frozen? ⟨w.heap.size, 5, none⟩ = false := frozen_of_cells HXA3 5
  have f6 : w3.frozen? ⟨w.heap.size, 6, none⟩ = false := frozen_of_cells HXA3 6
  have f7 : w3.frozen? ⟨w.heap.size, 7, none⟩ = false := frozen_of_cells HXA3 7
  have f8 : w3.frozen? ⟨w.heap.size, 8, none⟩ = false := frozen_of_cells HXA3 8
  have f9 : w3.frozen? ⟨w.heap.size, 9, none⟩ = false := frozen_of_cells HXA3 9
  have f10 : w3.frozen? ⟨w.heap.size, 10, none⟩ = false := frozen_of_cells HXA3 10
  have f11 : w3.frozen? ⟨w.heap.size, 11, none⟩ = false := frozen_of_cells HXA3 11
  have hXB3 := (hAp3.2 (w.heap.size + 1) (by omega) (by omega)).trans HXB3
  have d0 : V3.cell? ⟨w.heap.size + 1, 0, none⟩ = some (.slice q.la q.ll q.lc) := cell_of_cells hXB3 0
  have d1 : V3.cell? ⟨w.heap.size + 1, 1, none⟩ = some (.int .i64 y.sk.kind) := cell_of_cells hXB3 1
  have d2 : V3.cell? ⟨w.heap.size + 1, 2, none⟩ = some (.int .i64 y.sk.level) := cell_of_cells hXB3 2
  have d3 : V3.cell? ⟨w.heap.size + 1, 3, none⟩ = some (.slice q.ss.ea q.ss.el q.ss.ec) := cell_of_cells hXB3 3
  have d4 : V3.cell? ⟨w.heap.size + 1, 4, none⟩ = some (.int .i64 y.sk.hb) := cell_of_cells hXB3 4
  have d5 : V3.cell? ⟨w.heap.size + 1, 5, none⟩ = some (.string y.sk.hr) := cell_of_cells hXB3 5
  have d6 : V3.cell? ⟨w.heap.size + 1, 6, none⟩ = some (.int .i64 y.sk.cr) := cell_of_cells hXB3 6
  have d7 : V3.cell? ⟨w.heap.size + 1, 7, none⟩ = some (.int .i64 y.sk.cc) := cell_of_cells hXB3 7
  have d8 : V3.cell? ⟨w.heap.size + 1, 8, none⟩ = some (.slice q.ss.ca q.ss.cl q.ss.cc) := cell_of_cells hXB3 8
  have d9 : V3.cell? ⟨w.heap.size + 1, 9, none⟩ = some (.int .i64 y.sk.gf) := cell_of_cells hXB3 9
  have d10 : V3.cell? ⟨w.heap.size + 1, 10, none⟩ = some (.slice q.ss.ga q.ss.gl q.ss.gc) := cell_of_cells hXB3 10
  have d11 : V3.cell? ⟨w.heap.size + 1, 11, none⟩ = some (.int .u64 y.seen) := cell_of_cells hXB3 11
  have HPa : Hid (pa.At V3.heap.size V3 xa) := hata.apart ((cut_off HPo.out hsa hloa).imp fun b hb => by omega) hAp3
  have HPao : Hid (pa.Off (fun b => b < w.heap.size ∨ w2.heap.size ≤ b)) := cut_off HPo.out hsa hloa
  have HQ3 : Hid (q.At V3.heap.size V3 y) := ((HQ.out.go hb02).go hb3).apart (HQo.out.imp fun b hb => by omega) hAp3
  have HT3 : Hid (Tab V3.heap.size V3 a2 m.length cap2 m) := (HT2.out.go hb3).apart (fun z hz _ => by have := HLO.out z hz; omega) (fun e he => (HOm.out e he).imp fun b hb => by omega) hAp3
  have HB3 : Hid (Below w.heap.size w V3) := hBV3 _ _ (Nat.le_refl _) ((HB0.out.trans (hb02.mono (by omega))).trans (hb3.mono (by omega)))
  have HXV3 := Lib.hid hXV3
  have HXB3' := Lib.hid hXB3
  clear hsa hata hloa HXA3 HXB3 hXV3 hXB3 hAp3 hBV3
  unfold serVals
  dsimp only
  go_wp2_with fail
  refine (one12_any y q V3 HQ3.out).mono ?_
  rintro e w4 ⟨pb, rfl, hsb, hatb, hlob, hb4⟩
  have HXA4 := known hb4 (Nat.le_refl _) HXV3.out
  have HXB4 := known hb4 (Nat.le_refl _) HXB3'.out
  have hz4 := hb4.size
  generalize hyb : y.cut = yb at *
  obtain ⟨V4, hV4, hXV4, hAp4, hBV4, hs4, ht4⟩ := box12 HXB4 (.slice pb.la pb.ll pb.lc) (.int .i64 yb.sk.kind) (.int .i64 yb.sk.level) (.slice pb.ss.ea pb.ss.el pb.ss.ec) (.int .i64 yb.sk.hb) (.string yb.sk.hr) (.int .i64 yb.sk.cr) (.int .i64 yb.sk.cc) (.slice pb.ss.ca pb.ss.cl pb.ss.cc) (.int .i64 yb.sk.gf) (.slice pb.ss.ga pb.ss.gl pb.ss.gc) (.int .u64 yb.seen)
  clear hV3 c0 c1 c2 c3 c4 c5 c6 c7 c8 c9 c10 c11 f0 f1 f2 f3 f4 f5 f6 f7 f8 f9 f10 f11 d0 d1 d2 d3 d4 d5 d6 d7 d8 d9 d10 d11
  have c0 : w4.cell? ⟨w.heap.size + 1, 0, none⟩ = some (.slice q.la q.ll q.lc) := cell_of_cells HXB4 0
  have c1 : w4.cell? ⟨w.heap.size + 1, 1, none⟩ = some (.int .i64 y.sk.kind) := cell_of_cells HXB4 1
  have c2 : w4.cell? ⟨w.heap.size + 1, 2, none⟩ = some (.int .i64 y.sk.level) := cell_of_cells HXB4 2
  have c3 : w4.cell? ⟨w.heap.size + 1, 3, none⟩ = some (.slice q.ss.ea q.ss.el q.ss.ec) := cell_of_cells HXB4 3
  have c4 : w4.cell? ⟨w.heap.size + 1, 4, none⟩ = some (.int .i64 y.sk.hb) := cell_of_cells HXB4 4
  have c5 : w4.cell? ⟨w.heap.size + 1, 5, none⟩ = some (.string y.sk.hr) := cell_of_cells HXB4 5
  have c6 : w4.cell? ⟨w.heap.size + 1, 6, none⟩ = some (.int .i64 y.sk.cr) := cell_of_cells HXB4 6
  have c7 : w4.cell? ⟨w.heap.size + 1, 7, none⟩ = some (.int .i64 y.sk.cc) := cell_of_cells HXB4 7
  have c8 : w4.cell? ⟨w.heap.size + 1, 8, none⟩ = some (.slice q.ss.ca q.ss.cl q.ss.cc) := cell_of_cells HXB4 8
  have c9 : w4.cell? ⟨w.heap.size + 1, 9, none⟩ = some (.int .i64 y.sk.gf) := cell_of_cells HXB4 9
  have c10 : w4.cell? ⟨w.heap.size + 1, 10, none⟩ = some (.slice q.ss.ga q.ss.gl q.ss.gc) := cell_of_cells HXB4 10
  have c11 : w4.cell? ⟨w.heap.size + 1, 11, none⟩ = some (.int .u64 y.seen) := cell_of_cells HXB4 11
  have f0 : w4.frozen? ⟨w.heap.size + 1, 0, none⟩ = false := frozen_of_cells HXB4 0
  have f1 : w4.frozen? ⟨w.heap.size + 1, 1, none⟩ = false := frozen_of_cells HXB4 1
  have f2 : w4.frozen? ⟨w.heap.size + 1, 2, none⟩ = false := frozen_of_cells HXB4 2
  have f3 : w4.frozen? ⟨w.heap.size + 1, 3, none⟩ = false := frozen_of_cells HXB4 3
  have f4 : w4.frozen? ⟨w.heap.size + 1, 4, none⟩ = false := frozen_of_cells HXB4 4
  have f5 : w4.frozen? ⟨w.heap.size + 1, 5, none⟩ = false := frozen_of_cells HXB4 5
  have f6 : w4.frozen? ⟨w.heap.size + 1, 6, none⟩ = false := frozen_of_cells HXB4 6
  have f7 : w4.frozen? ⟨w.heap.size + 1, 7, none⟩ = false := frozen_of_cells HXB4 7
  have f8 : w4.frozen? ⟨w.heap.size + 1, 8, none⟩ = false := frozen_of_cells HXB4 8
  have f9 : w4.frozen? ⟨w.heap.size + 1, 9, none⟩ = false := frozen_of_cells HXB4 9
  have f10 : w4.frozen? ⟨w.heap.size + 1, 10, none⟩ = false := frozen_of_cells HXB4 10
  have f11 : w4.frozen? ⟨w.heap.size + 1, 11, none⟩ = false := frozen_of_cells HXB4 11
  have hXA4 := (hAp4.2 w.heap.size (by omega) (by omega)).trans HXA4
  have r0 : V4.cell? ⟨w.heap.size, 0, none⟩ = some (.slice pa.la pa.ll pa.lc) := cell_of_cells hXA4 0
  have r1 : V4.cell? ⟨w.heap.size, 1, none⟩ = some (.int .i64 xa.sk.kind) := cell_of_cells hXA4 1
  have r2 : V4.cell? ⟨w.heap.size, 2, none⟩ = some (.int .i64 xa.sk.level) := cell_of_cells hXA4 2
  have r3 : V4.cell? ⟨w.heap.size, 3, none⟩ = some (.slice pa.ss.ea pa.ss.el pa.ss.ec) := cell_of_cells hXA4 3
  have r4 : V4.cell? ⟨w.heap.size, 4, none⟩ = some (.int .i64 xa.sk.hb) := cell_of_cells hXA4 4
  have r5 : V4.cell? ⟨w.heap.size, 5, none⟩ = some (.string xa.sk.hr) := cell_of_cells hXA4 5
  have r6 : V4.cell? ⟨w.heap.size, 6, none⟩ = some (.int .i64 xa.sk.cr) := cell_of_cells hXA4 6
  have r7 : V4.cell? ⟨w.heap.size, 7, none⟩ = some (.int .i64 xa.sk.cc) := cell_of_cells hXA4 7
  have r8 : V4.cell? ⟨w.heap.size, 8, none⟩ = some (.slice pa.ss.ca pa.ss.cl pa.ss.cc) := cell_of_cells hXA4 8
  have r9 : V4.cell? ⟨w.heap.size, 9, none⟩ = some (.int .i64 xa.sk.gf) := cell_of_cells hXA4 9
  have r10 : V4.cell? ⟨w.heap.size, 10, none⟩ = some (.slice pa.ss.ga pa.ss.gl pa.ss.gc) := cell_of_cells hXA4 10
  have r11 : V4.cell? ⟨w.heap.size, 11, none⟩ = some (.int .u64 xa.seen) := cell_of_cells hXA4 11
  have s0 : V4.cell? ⟨w.heap.size + 1, 0, none⟩ = some (.slice pb.la pb.ll pb.lc) := cell_of_cells hXV4 0
  have s1 : V4.cell? ⟨w.heap.size + 1, 1, none⟩ = some (.int .i64 yb.sk.kind) := cell_of_cells hXV4 1
  have s2 : V4.cell? ⟨w.heap.size + 1, 2, none⟩ = some (.int .i64 yb.sk.level) := cell_of_cells hXV4 2
  have s3 : V4.cell? ⟨w.heap.size + 1, 3, none⟩ = some (.slice pb.ss.ea pb.ss.el pb.ss.ec) := cell_of_cells hXV4 3
  have s4 : V4.cell? ⟨w.heap.size + 1, 4, none⟩ = some (.int .i64 yb.sk.hb) := cell_of_cells hXV4 4
  have s5 : V4.cell? ⟨w.heap.size + 1, 5, none⟩ = some (.string yb.sk.hr) := cell_of_cells hXV4 5
  have s6 : V4.cell? ⟨w.heap.size + 1, 6, none⟩ = some (.int .i64 yb.sk.cr) := cell_of_cells hXV4 6
  have s7 : V4.cell? ⟨w.heap.size + 1, 7, none⟩ = some (.int .i64 yb.sk.cc) := cell_of_cells hXV4 7
  have s8 : V4.cell? ⟨w.heap.size + 1, 8, none⟩ = some (.slice pb.ss.ca pb.ss.cl pb.ss.cc) := cell_of_cells hXV4 8
  have s9 : V4.cell? ⟨w.heap.size + 1, 9, none⟩ = some (.int .i64 yb.sk.gf) := cell_of_cells hXV4 9
  have s10 : V4.cell? ⟨w.heap.size + 1, 10, none⟩ = some (.slice pb.ss.ga pb.ss.gl pb.ss.gc) := cell_of_cells hXV4 10
  have s11 : V4.cell? ⟨w.heap.size + 1, 11, none⟩ = some (.int .u64 yb.seen) := cell_of_cells hXV4 11
  have HPb : Hid (pb.At V4.heap.size V4 yb) := hatb.apart ((cut_off HQo.out hsb hlob).imp fun b hb => by omega) hAp4
  have HPa4 : Hid (pa.At V4.heap.size V4 xa) := (HPa.out.go hb4).apart (HPao.out.imp fun b hb => by omega) hAp4
  have HT4 : Hid (Tab V4.heap.size V4 a2 m.length cap2 m) := (HT3.out.go hb4).apart (fun z hz _ => by have := HLO.out z hz; omega) (fun e he => (HOm.out e he).imp fun b hb => by omega) hAp4
  have HB4 : Hid (Below w.heap.size w V4) := hBV4 _ _ (by omega) (HB3.out.trans (hb4.mono HB3.out.size))
  have HG4 : Hid (GW V4) := HGw.out.below HB4.out
  have HFm : Hid (∀ y ∈ m.map (·.1), Ser.fine y) := by rw [Hid, HM.out]; exact fine_few HW.out
  have hzV : w.heap.size + 1 < V4.heap.size := by omega
  have hzV0 : w.heap.size < V4.heap.size := by omega
  clear hsb hatb hlob HXA4 HXB4 hXV4 hXA4 hAp4 hBV4
  unfold serVals
  dsimp only
  go_wp2_with fail
  refine (series_Put_fn m a2 m.length cap2 xa pa V4 HT4.out HFm.out HPa4.out HFx.out HG4.out).mono ?_
  rintro e w5 ⟨a5, cap5, m5, rfl, hT5, hm5, hb5, -⟩
  clear hV4 c0 c1 c2 c3 c4 c5 c6 c7 c8 c9 c10 c11 f0 f1 f2 f3 f4 f5 f6 f7 f8 f9 f10 f11
  have HT5 := Lib.hid hT5
  have HM5 := Lib.hid hm5
  obtain ⟨hc5, hd5⟩ := bcell hb5
  obtain ⟨eI, HE⟩ : ∃ eI, Hid (eI = putE (m.map (·.1)) xa) := ⟨_, rfl⟩
  rw [← HE.out]
  clear hT5 hm5
  go_wp2_with fail
  refine (series_Put_fn m5 a5 m5.length cap5 yb pb w5 HT5.out (by rw [HM5.out]; exact fine_putR HFm.out HFx.out) (HPb.out.go hb5) HFy.out (HG4.out.below hb5)).mono ?_
  rintro e w6 ⟨a6, cap6, m6, rfl, hT6, hm6, hb6, -⟩
  have HT6 := Lib.hid hT6
  have HM6 : Hid (m6.map (·.1) = putR (putR (m.map (·.1)) xa) yb) := by rw [Hid, hm6, HM5.out]
  have hb46 := hb5.trans (hb6.mono hb5.size)
  obtain ⟨hc6, hd6⟩ := bcell hb46
  obtain ⟨fI, HF⟩ : ∃ fI, Hid (fI = putE (m5.map (·.1)) yb) := ⟨_, rfl⟩
  rw [← HF.out]
  clear hT6 hm6
  go_wp2_with fail
  refine (series_Put_fn m a2 m.length cap2 yb pb w6 (HT4.out.go hb46) HFm.out (HPb.out.go hb46) HFy.out (HG4.out.below hb46)).mono ?_
  rintro e w7 ⟨a7, cap7, m7, rfl, hT7, hm7, hb7, -⟩
  have HT7 := Lib.hid hT7
  have HM7 := Lib.hid hm7
  have hb47 := hb46.trans (hb7.mono hb46.size)
  obtain ⟨hc7, hd7⟩ := bcell hb47
  obtain ⟨gI, HGI⟩ : ∃ gI, Hid (gI = putE (m.map (·.1)) yb) := ⟨_, rfl⟩
  rw [← HGI.out]
  clear hT7 hm7
  go_wp2_with fail
  refine (series_Put_fn m7 a7 m7.length cap7 xa pa w7 HT7.out (by rw [HM7.out]; exact fine_putR HFm.out HFy.out) (HPa4.out.go hb47) HFx.out (HG4.out.below hb47)).mono ?_
  rintro e w8 ⟨a8, cap8, m8, rfl, hT8, hm8, hb8, -⟩
  have HT8 := Lib.hid hT8
  have HM8 : Hid (m8.map (·.1) = putR (putR (m.map (·.1)) yb) xa) := by rw [Hid, hm8, HM7.out]
  have hb48 := hb47.trans (hb8.mono hb47.size)
  obtain ⟨hc8, hd8⟩ := bcell hb48
  obtain ⟨hI, HHI⟩ : ∃ hI, Hid (hI = putE (m7.map (·.1)) xa) := ⟨_, rfl⟩
  rw [← HHI.out]
  clear hT8 hm8
  go_wp2_with fail
  refine (ref04_Same_any pa.la pa.ll pa.lc xa.l pb.la pb.ll pb.lc yb.l w8 (HPa4.out.go hb48).l.1 (HPb.out.go hb48).l.1 (Nat.le_trans HPa4.out.l.2.1 HPa4.out.l.2.2.1)).mono ?_
  rintro e w9 ⟨rfl, hb9⟩
  clear r0 r1 r2 r3 r4 r5 r6 r7 r8 r9 r10 r11 s0 s1 s2 s3 s4 s5 s6 s7 s8 s9 s10 s11 hc5 hc6 hc7 hc8 hd5 hd6 hd7 hd8
  have hb49 := hb48.trans (hb9.mono hb48.size)
  have HB9 : Hid (Below w.heap.size w w9) := HB4.out.trans (hb49.mono HB4.out.size)
  have HT6' : Hid (Tab w9.heap.size w9 a6 m6.length cap6 m6) := ((HT6.out.go hb7).go hb8).go hb9
  have HT7' : Hid (Tab w9.heap.size w9 a7 m7.length cap7 m7) := (HT7.out.go hb8).go hb9
  have HT8' : Hid (Tab w9.heap.size w9 a8 m8.length cap8 m8) := HT8.out.go hb9
  have hF2 : fI = putE (putR (m.map (·.1)) xa) yb := by rw [HF.out, HM5.out]
  have hH2 : hI = putE (putR (m.map (·.1)) yb) xa := by rw [HHI.out, HM7.out]
  have oE : eI = 0 ∨ eI = 120 := by rw [HE.out]; exact putE_or _ _
  have oF : fI = 0 ∨ fI = 120 := by rw [hF2]; exact putE_or _ _
  have oG : gI = 0 ∨ gI = 120 := by rw [HGI.out]; exact putE_or _ _
  have oH : hI = 0 ∨ hI = 120 := by rw [hH2]; exact putE_or _ _
  have K1 : Hid (xa.l = yb.l → eI = 0 → fI = 0 → gI = 0 ∧ m6.map (·.1) = m7.map (·.1)) := fun h h1 h2 => by
    rw [HE.out] at h1; rw [hF2] at h2; rw [HGI.out, HM6.out, HM7.out]; exact orders_same h h1 h2
  have K2 : Hid (xa.l ≠ yb.l → eI = 0 → fI = 0 → gI = 0 ∧ hI = 0 ∧ m6.map (·.1) = m8.map (·.1)) := fun h h1 h2 => by
    rw [HE.out] at h1; rw [hF2] at h2; rw [HGI.out, hH2, HM6.out, HM8.out]; exact orders_swap h h1 h2
  have K3 : Hid (xa.l ≠ yb.l → gI = 0 → hI = 0 → eI = 0 ∧ fI = 0) := fun h h1 h2 => by
    rw [HGI.out] at h1; rw [hH2] at h2; rw [HE.out, hF2]; have := orders_swap h.symm h1 h2; exact ⟨this.1, this.2.1⟩
  have HS : Hid ((xa.l == yb.l) = true → xa.l = yb.l) := fun h => by simpa using h
  have HS' : Hid ((xa.l == yb.l) = false → xa.l ≠ yb.l) := fun h => by simpa using h
  generalize (xa.l == yb.l) = bs at *
  clear hF2 hH2 HE HF HGI HHI
  cases bs with
  | true =>
    have k1 := K1.out (HS.out rfl)
    rcases oE with rfl | rfl
    · rcases oF with rfl | rfl
      · obtain ⟨rfl, hmm⟩ := k1 rfl rfl
        have hSm := series_Same_eq m6 m7 a6 a7 m6.length m7.length cap6 cap7 w9 HT6'.out HT7'.out hmm
        clear k1 hmm oG oH
        go_wp2_with (go_at_call 26; refine hSm.mono ?_; rintro e w10 ⟨rfl, hb10⟩)
        go_ret
        exact ⟨rfl, HB9.out.trans (hb10.mono HB9.out.size)⟩
      · clear k1 oG oH
        go_wp2_with fail
        go_ret
        exact ⟨rfl, HB9.out⟩
    · clear k1 oF oG oH
      go_wp2_with fail
      go_ret
      exact ⟨rfl, HB9.out⟩
  | false =>
    have k2 := K2.out (HS'.out rfl)
    have k3 := K3.out (HS'.out rfl)
    rcases oE with rfl | rfl
    · rcases oF with rfl | rfl
      · obtain ⟨rfl, rfl, hmm⟩ := k2 rfl rfl
        have hSm := series_Same_eq m6 m8 a6 a8 m6.length m8.length cap6 cap8 w9 HT6'.out HT8'.out hmm
        clear k2 k3 hmm oG oH
        go_wp2_with (go_at_call 26; refine hSm.mono ?_; rintro e w10 ⟨rfl, hb10⟩)
        go_ret
        exact ⟨rfl, HB9.out.trans (hb10.mono HB9.out.size)⟩
      · rcases oG with rfl | rfl
        · rcases oH with rfl | rfl
          · exact absurd (k3 rfl rfl).2 (by decide)
          · clear k2 k3
            go_wp2_with fail
            go_ret
            exact ⟨rfl, HB9.out⟩
        · clear k2 k3 oH
          go_wp2_with fail
          go_ret
          exact ⟨rfl, HB9.out⟩
    · rcases oG with rfl | rfl
      · rcases oH with rfl | rfl
        · exact absurd (k3 rfl rfl).1 (by decide)
        · clear k2 k3 oF
          go_wp2_with fail
          go_ret
          exact ⟨rfl, HB9.out⟩
      · clear k2 k3 oF oH
        go_wp2_with fail
        go_ret
        exact ⟨rfl, HB9.out⟩
end Go.Proofs.YtnmgfdkacibinaaDoor
