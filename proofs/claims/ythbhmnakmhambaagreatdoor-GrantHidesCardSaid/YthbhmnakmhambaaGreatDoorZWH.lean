/- aviarylaw15.GrantHides answers true. -/
import Derived.Test.YthbhmnakmhambaaGreatDoorZRKg
import Derived.Test.YthbhmnakmhambaaGreatDoorZRJ
namespace Go.Proofs.YthbhmnakmhambaaGreatDoor
open Go Go.RowKit Go.Shelf
theorem same_at2 {x y : Sk} {s p : SS} {w : World} (e : y = x) (h1 : s.At w.heap.size w x) (h2 : p.At w.heap.size w y) : Calls Tryz.prog 20 #[.agg #[.int .i64 x.kind, .int .i64 x.level, .slice s.ea s.el s.ec, .int .i64 x.hb, .string x.hr, .int .i64 x.cr, .int .i64 x.cc, .slice s.ca s.cl s.cc, .int .i64 x.gf, .slice s.ga s.gl s.gc], .agg #[.int .i64 y.kind, .int .i64 y.level, .slice p.ea p.el p.ec, .int .i64 y.hb, .string y.hr, .int .i64 y.cr, .int .i64 y.cc, .slice p.ca p.cl p.cc, .int .i64 y.gf, .slice p.ga p.gl p.gc]] w fun e w' => e = .returned (.bool true) ∧ Below w.heap.size w w' := by
 subst e
 exact ref10_Same_eq y s p w h1 h2
theorem grs_apart {B : Nat} {A A' : World} {a : Option Addr} {m m' cap : Nat} {cs : List Value} (h : SlAt A.heap.size A (.slice a m cap) m' cs) (hn : ∀ z, a = some z → z.block ≠ B) (ha : Apart B A A') : SlAt A'.heap.size A' (.slice a m cap) m' cs := by
 rcases h with h | ⟨b, o, c, e, hb, hc⟩
 ·exact .inl h
 ·have ea : a = some ⟨b, o, none⟩ := by injection e
  exact .inr ⟨b, o, c, e, Nat.lt_of_lt_of_le hb ha.1, fun j hj => (cell_heap (ha.2 b hb (hn _ ea))).trans (hc j hj)⟩
theorem box2w {W : World} {B : Nat} {x0 x1 : Value} {t : TypeId} (h : W.heap[B]? = some (.cells #[x0, x1] t (0, 0))) (v0 v1 : Value) :
  ∃ V, (W.setCell ⟨B, 0, none⟩ v0).setCell ⟨B, 1, none⟩ v1 = V ∧ V.heap[B]? = some (.cells #[v0, v1] t (0, 0)) ∧ Apart B W V ∧ (∀ n w0, n ≤ B → Below n w0 W → Below n w0 V) ∧ V.heap.size = W.heap.size :=
 ⟨_, rfl, set_cells2 h, (Apart.set 0 v0).trans (Apart.set 1 v1), fun n w0 hn hb => (hb.setCell (p := ⟨B, 0, none⟩) hn _).setCell (p := ⟨B, 1, none⟩) hn _, by simp [World.setCell]⟩
theorem good_cut {x : Ser} (h : x.wn) (hr : serRight x.cut = true) : x.cut.good := by
 refine ⟨h.wf.cut, ?_⟩
 simp only [serRight, Bool.and_eq_true] at hr
 have h2 := h.1
 exact .of hr.2 (fun n hn => h2.e n (List.mem_of_mem_take hn)) (fun n hn => h2.c n (List.mem_of_mem_take hn)) (fun z hz => (h2.g z (List.mem_of_mem_take hz)).2)
theorem hides_post {g : Grants} {tn : Int} {L : List Ser} {x : Ser} {s : StrK} {kind : Int} {w : World} {e : Ending} {w' : World} (hp : putOk L x = true) (hm : mayS g tn x.l = false)
  (h : SumPost kind (lentE g (putL L x) s) (pickAt (putL L x) kind (lentR g tn (putL L x) s)) w e w') : SumPost kind (lentE g L s) (pickAt L kind (lentR g tn L s)) w e w' := by
 obtain ⟨h1, h2⟩ := hides_plain g tn s kind hp hm
 rw [h1] at h
 obtain ⟨y, p, rfl, h3⟩ := h
 refine ⟨_, p, ?_, h3⟩
 by_cases h0 : lentE g L s = 0
 ·rw [h2 h0]
 ·have h4 : sumE (lentE g L s) kind ≠ 0 := fun hc => h0 (sumE_0 hc).1
  rw [sumSk_no h4, sumSk_no h4]
set_option maxRecDepth 100000 in
set_option maxHeartbeats 24000000 in
theorem grantHides_any (next : Int) (lg : List RGr) (ga : Option Addr) (glen gcap : Nat) (tn : Int) (l : List (Ser × SerP)) (a : Option Addr) (len cap : Nat) (x : Ser) (p : SerP) (sc : ByteArray) (kind : Int) (w : World)
  (hLg : RGrs w.heap.size w (.slice ga glen gcap) lg) (_h1 : U64 tn) (hT : Tab w.heap.size w a len cap l) (hU : ∀ x ∈ l.map (·.1), Ser.wn x) (hx : p.At w.heap.size w x) (wx : x.wn) (_h5 : I64 kind) (hG : GW w) (hg : GT w) :
  Calls Tryz.prog 5 #[.agg #[.int .u64 next, .slice ga glen gcap], .int .u64 tn, .slice a len cap, .agg #[.slice p.la p.ll p.lc, .int .i64 x.sk.kind, .int .i64 x.sk.level, .slice p.ss.ea p.ss.el p.ss.ec, .int .i64 x.sk.hb, .string x.sk.hr, .int .i64 x.sk.cr, .int .i64 x.sk.cc, .slice p.ss.ca p.ss.cl p.ss.cc, .int .i64 x.sk.gf, .slice p.ss.ga p.ss.gl p.ss.gc, .int .u64 x.seen], .string sc, .int .i64 kind] w fun e w' => e = .returned (.bool true) ∧ Below w.heap.size w w' := by
 obtain ⟨W0, hW0, hXA, hXB, hB0, hs0⟩ := boxes2 w #[.int .u64 next, .slice ga glen gcap] 49 #[.slice p.la p.ll p.lc, .int .i64 x.sk.kind, .int .i64 x.sk.level, .slice p.ss.ea p.ss.el p.ss.ec, .int .i64 x.sk.hb, .string x.sk.hr, .int .i64 x.sk.cr, .int .i64 x.sk.cc, .slice p.ss.ca p.ss.cl p.ss.cc, .int .i64 x.sk.gf, .slice p.ss.ga p.ss.gl p.ss.gc, .int .u64 x.seen] 43
 have HT : Hid (Tab W0.heap.size W0 a len cap l) := hT.go hB0
 have HO : Hid (∀ e ∈ l, e.2.Off (· < w.heap.size)) := fun e he => (hT.at_ e he).off
 have HP : Hid (p.At W0.heap.size W0 x) := hx.go hB0
 have HPo : Hid (p.Off (· < w.heap.size)) := hx.off
 have HRo : Hid (∀ z, a = some z → 0 < cap → z.block < w.heap.size) := fun z h1 h2 => (hT.row.2.2.2.2 z h1 h2).2
 have HLg : Hid (RGrs W0.heap.size W0 (.slice ga glen gcap) lg) := (SlAt.below hB0 hLg).mono hB0.size
 have HG : Hid (GW W0) := hG.below hB0
 have HBG0 : Hid (∀ W, Below w.heap.size w W → GW W ∧ GT W) := fun W hb => ⟨hG.below hb, hg.go hb⟩
 obtain ⟨L, hL⟩ : ∃ L, few12 (l.map (·.1)) = L := ⟨_, rfl⟩
 have HQ : Hid (tabRight L = true → QT L) := by rw [← hL]; exact qt_few hU
 have HFi : Hid (∀ x ∈ L, x.fine) := by rw [← hL]; exact fine_few (fun y hy => (hU y hy).wf)
 have HL := Lib.hid hL
 have HFx : Hid (x.cut.fine) := wx.wf.cut
 have HGx : Hid (serRight x.cut = true → x.cut.good) := good_cut wx
 obtain ⟨sk, hsk⟩ : ∃ sk : StrK, sk.1 = cutN 200 sc := ⟨⟨cutN 200 sc, cutN_lt 200 (by decide) sc⟩, rfl⟩
 have HSK := Lib.hid hsk
 have hz0 : w.heap.size + 1 < W0.heap.size := by omega
 have hz00 : w.heap.size < W0.heap.size := by omega
 have HXA := Lib.hid hXA
 have HXB := Lib.hid hXB
 have HB0 := Lib.hid hB0
 clear hLg hT hU hx wx hG hg hL hsk hs0 hXA hXB hB0
 go_enter Tryz.func5, Tryz.ntmps5
 go_wp2_with (go_at_call 14; refine (shown15_any W0 HG.out).mono ?_; rintro e w1 ⟨rfl, hb1⟩; have hXA1 := known hb1 (Nat.le_refl _) HXA.out; have c0 := cCc hXA1 0; have c1 := cCc hXA1 1; simp at c0 c1)
 refine (few15_any next lg ga glen gcap w1 ((SlAt.below hb1 HLg.out).mono hb1.size)).mono ?_
 rintro e w2 ⟨v2, rfl, ⟨a1, l1, cc1, rfl, hg2, hlo2⟩, hb2⟩
 have hb02 := hb1.trans (hb2.mono hb1.size)
 have hz1 := hb1.size
 have hz2 := hb2.size
 have hXA2 := known hb2 (Nat.le_refl _) hXA1
 have hgn : (few15 next lg).next = next := rfl
 generalize few15 next lg = G at hg2 hgn ⊢
 subst hgn
 obtain ⟨W3, hW3, hXA3, hAp3, hBV3, hs3⟩ := box2w hXA2 (.int .u64 G.next) (.slice a1 l1 cc1)
 have hg3 := grs_apart hg2 (fun z hz => by have := hlo2 z hz; omega) hAp3
 have hXB3 := (hAp3.2 (w.heap.size + 1) (by omega) (by omega)).trans (known hb02 (Nat.le_refl _) HXB.out)
 have HT3 : Hid (Tab W3.heap.size W3 a len cap l) := (HT.out.go hb02).apart (fun z hz hc => by have := HRo.out z hz hc; omega) (fun e he => (HO.out e he).imp fun b hb => by omega) hAp3
 have HP3 : Hid (p.At W3.heap.size W3 x) := (HP.out.go hb02).apart (HPo.out.imp fun b hb => by omega) hAp3
 have HB3 : Hid (Below w.heap.size w W3) := hBV3 _ _ (Nat.le_refl _) (HB0.out.trans (hb02.mono (by omega)))
 have HG3 := Lib.hid hg3
 have HA1 : Hid (∀ z, a1 = some z → w1.heap.size ≤ z.block) := hlo2
 have HXA3 := Lib.hid hXA3
 have HXB3 := Lib.hid hXB3
 have HW0 : Hid (w.heap.size + 2 ≤ w1.heap.size) := by show w.heap.size + 2 ≤ w1.heap.size; omega
 clear hg2 hlo2 hb1 hb2 hb02 hXA1 hXA3 hXB3 hAp3 hBV3 hg3
 have f0 : w2.frozen? ⟨w.heap.size, 0, none⟩ = false := cFz hXA2 0
 have f1 : w2.frozen? ⟨w.heap.size, 1, none⟩ = false := cFz hXA2 1
 have d0 : w2.cell? ⟨w.heap.size, 0, none⟩ = some (.int .u64 G.next) := cCc hXA2 0
 have d1 : w2.cell? ⟨w.heap.size, 1, none⟩ = some (.slice ga glen gcap) := cCc hXA2 1
 clear hXA2
 go_wp2_with fail
 refine (few12_any l a len cap W3 HT3.out).mono ?_
 rintro e w4 ⟨a2, cap2, m, rfl, hT4, hm, hlo4, hla4, hb4⟩
 clear hW3 f0 f1 d0 d1 c0 c1
 have hz4 := hb4.size
 have HM : Hid (m.map (·.1) = L) := hm.trans HL.out
 have HLO : Hid (∀ z, a2 = some z → W3.heap.size ≤ z.block) := hlo4
 have HOm : Hid (∀ e ∈ m, e.2.Off (fun b => b < w.heap.size ∨ W3.heap.size ≤ b)) := hla4.2 _ HO.out
 have HT4 := Lib.hid hT4
 have HP4 : Hid (p.At w4.heap.size w4 x) := HP3.out.go hb4
 have hXA4 := known hb4 (Nat.le_refl _) HXA3.out
 have hXB4 := known hb4 (Nat.le_refl _) HXB3.out
 have HXA4 := Lib.hid hXA4
 have HXB4 := Lib.hid hXB4
 have HG4 : Hid (Grs w4.heap.size w4 (.slice a1 l1 cc1) G.l) := (SlAt.below hb4 HG3.out).mono hb4.size
 have HB4 : Hid (Below w.heap.size w w4) := HB3.out.trans (hb4.mono HB3.out.size)
 have c0 : w4.cell? ⟨w.heap.size + 1, 0, none⟩ = some (.slice p.la p.ll p.lc) := cCc hXB4 0
 have c1 : w4.cell? ⟨w.heap.size + 1, 1, none⟩ = some (.int .i64 x.sk.kind) := cCc hXB4 1
 have c2 : w4.cell? ⟨w.heap.size + 1, 2, none⟩ = some (.int .i64 x.sk.level) := cCc hXB4 2
 have c3 : w4.cell? ⟨w.heap.size + 1, 3, none⟩ = some (.slice p.ss.ea p.ss.el p.ss.ec) := cCc hXB4 3
 have c4 : w4.cell? ⟨w.heap.size + 1, 4, none⟩ = some (.int .i64 x.sk.hb) := cCc hXB4 4
 have c5 : w4.cell? ⟨w.heap.size + 1, 5, none⟩ = some (.string x.sk.hr) := cCc hXB4 5
 have c6 : w4.cell? ⟨w.heap.size + 1, 6, none⟩ = some (.int .i64 x.sk.cr) := cCc hXB4 6
 have c7 : w4.cell? ⟨w.heap.size + 1, 7, none⟩ = some (.int .i64 x.sk.cc) := cCc hXB4 7
 have c8 : w4.cell? ⟨w.heap.size + 1, 8, none⟩ = some (.slice p.ss.ca p.ss.cl p.ss.cc) := cCc hXB4 8
 have c9 : w4.cell? ⟨w.heap.size + 1, 9, none⟩ = some (.int .i64 x.sk.gf) := cCc hXB4 9
 have c10 : w4.cell? ⟨w.heap.size + 1, 10, none⟩ = some (.slice p.ss.ga p.ss.gl p.ss.gc) := cCc hXB4 10
 have c11 : w4.cell? ⟨w.heap.size + 1, 11, none⟩ = some (.int .u64 x.seen) := cCc hXB4 11
 clear hT4 hm hlo4 hla4 hXA4 hXB4 hb4
 go_wp2_with fail
 refine (one12_any x p w4 HP4.out).mono ?_
 rintro e w5 ⟨pa, rfl, hsa, hata, hloa, hb5⟩
 have hXB5 := known hb5 (Nat.le_refl _) HXB4.out
 have hz5 := hb5.size
 generalize hxa : x.cut = xa at *
 obtain ⟨V5, hV5, hXV5, hAp5, hBV5, hs5, ht5⟩ := box12 hXB5 (.slice pa.la pa.ll pa.lc) (.int .i64 xa.sk.kind) (.int .i64 xa.sk.level) (.slice pa.ss.ea pa.ss.el pa.ss.ec) (.int .i64 xa.sk.hb) (.string xa.sk.hr) (.int .i64 xa.sk.cr) (.int .i64 xa.sk.cc) (.slice pa.ss.ca pa.ss.cl pa.ss.cc) (.int .i64 xa.sk.gf) (.slice pa.ss.ga pa.ss.gl pa.ss.gc) (.int .u64 xa.seen)
 clear c0 c1 c2 c3 c4 c5 c6 c7 c8 c9 c10 c11
 have c0 : w5.cell? ⟨w.heap.size + 1, 0, none⟩ = some (.slice p.la p.ll p.lc) := cCc hXB5 0
 have c1 : w5.cell? ⟨w.heap.size + 1, 1, none⟩ = some (.int .i64 x.sk.kind) := cCc hXB5 1
 have c2 : w5.cell? ⟨w.heap.size + 1, 2, none⟩ = some (.int .i64 x.sk.level) := cCc hXB5 2
 have c3 : w5.cell? ⟨w.heap.size + 1, 3, none⟩ = some (.slice p.ss.ea p.ss.el p.ss.ec) := cCc hXB5 3
 have c4 : w5.cell? ⟨w.heap.size + 1, 4, none⟩ = some (.int .i64 x.sk.hb) := cCc hXB5 4
 have c5 : w5.cell? ⟨w.heap.size + 1, 5, none⟩ = some (.string x.sk.hr) := cCc hXB5 5
 have c6 : w5.cell? ⟨w.heap.size + 1, 6, none⟩ = some (.int .i64 x.sk.cr) := cCc hXB5 6
 have c7 : w5.cell? ⟨w.heap.size + 1, 7, none⟩ = some (.int .i64 x.sk.cc) := cCc hXB5 7
 have c8 : w5.cell? ⟨w.heap.size + 1, 8, none⟩ = some (.slice p.ss.ca p.ss.cl p.ss.cc) := cCc hXB5 8
 have c9 : w5.cell? ⟨w.heap.size + 1, 9, none⟩ = some (.int .i64 x.sk.gf) := cCc hXB5 9
 have c10 : w5.cell? ⟨w.heap.size + 1, 10, none⟩ = some (.slice p.ss.ga p.ss.gl p.ss.gc) := cCc hXB5 10
 have c11 : w5.cell? ⟨w.heap.size + 1, 11, none⟩ = some (.int .u64 x.seen) := cCc hXB5 11
 have f0 : w5.frozen? ⟨w.heap.size + 1, 0, none⟩ = false := cFz hXB5 0
 have f1 : w5.frozen? ⟨w.heap.size + 1, 1, none⟩ = false := cFz hXB5 1
 have f2 : w5.frozen? ⟨w.heap.size + 1, 2, none⟩ = false := cFz hXB5 2
 have f3 : w5.frozen? ⟨w.heap.size + 1, 3, none⟩ = false := cFz hXB5 3
 have f4 : w5.frozen? ⟨w.heap.size + 1, 4, none⟩ = false := cFz hXB5 4
 have f5 : w5.frozen? ⟨w.heap.size + 1, 5, none⟩ = false := cFz hXB5 5
 have f6 : w5.frozen? ⟨w.heap.size + 1, 6, none⟩ = false := cFz hXB5 6
 have f7 : w5.frozen? ⟨w.heap.size + 1, 7, none⟩ = false := cFz hXB5 7
 have f8 : w5.frozen? ⟨w.heap.size + 1, 8, none⟩ = false := cFz hXB5 8
 have f9 : w5.frozen? ⟨w.heap.size + 1, 9, none⟩ = false := cFz hXB5 9
 have f10 : w5.frozen? ⟨w.heap.size + 1, 10, none⟩ = false := cFz hXB5 10
 have f11 : w5.frozen? ⟨w.heap.size + 1, 11, none⟩ = false := cFz hXB5 11
 have r0 : V5.cell? ⟨w.heap.size + 1, 0, none⟩ = some (.slice pa.la pa.ll pa.lc) := cCc hXV5 0
 have r1 : V5.cell? ⟨w.heap.size + 1, 1, none⟩ = some (.int .i64 xa.sk.kind) := cCc hXV5 1
 have r2 : V5.cell? ⟨w.heap.size + 1, 2, none⟩ = some (.int .i64 xa.sk.level) := cCc hXV5 2
 have r3 : V5.cell? ⟨w.heap.size + 1, 3, none⟩ = some (.slice pa.ss.ea pa.ss.el pa.ss.ec) := cCc hXV5 3
 have r4 : V5.cell? ⟨w.heap.size + 1, 4, none⟩ = some (.int .i64 xa.sk.hb) := cCc hXV5 4
 have r5 : V5.cell? ⟨w.heap.size + 1, 5, none⟩ = some (.string xa.sk.hr) := cCc hXV5 5
 have r6 : V5.cell? ⟨w.heap.size + 1, 6, none⟩ = some (.int .i64 xa.sk.cr) := cCc hXV5 6
 have r7 : V5.cell? ⟨w.heap.size + 1, 7, none⟩ = some (.int .i64 xa.sk.cc) := cCc hXV5 7
 have r8 : V5.cell? ⟨w.heap.size + 1, 8, none⟩ = some (.slice pa.ss.ca pa.ss.cl pa.ss.cc) := cCc hXV5 8
 have r9 : V5.cell? ⟨w.heap.size + 1, 9, none⟩ = some (.int .i64 xa.sk.gf) := cCc hXV5 9
 have r10 : V5.cell? ⟨w.heap.size + 1, 10, none⟩ = some (.slice pa.ss.ga pa.ss.gl pa.ss.gc) := cCc hXV5 10
 have r11 : V5.cell? ⟨w.heap.size + 1, 11, none⟩ = some (.int .u64 xa.seen) := cCc hXV5 11
 have HPa : Hid (pa.At V5.heap.size V5 xa) := hata.apart ((cut_off HPo.out hsa hloa).imp fun b hb => by omega) hAp5
 have HT5 : Hid (Tab V5.heap.size V5 a2 m.length cap2 m) := (HT4.out.go hb5).apart (fun z hz _ => by have := HLO.out z hz; omega) (fun e he => (HOm.out e he).imp fun b hb => by omega) hAp5
 have HG5 : Hid (Grs V5.heap.size V5 (.slice a1 l1 cc1) G.l) := grs_apart ((SlAt.below hb5 HG4.out).mono hb5.size) (fun z hz => by have := HA1.out z hz; have := HW0.out; omega) hAp5
 have HB5 : Hid (Below w.heap.size w V5) := hBV5 _ _ (by omega) (HB4.out.trans (hb5.mono HB4.out.size))
 have HXA5 : Hid (V5.heap[w.heap.size]? = some (.cells #[.int .u64 G.next, .slice a1 l1 cc1] 49 (0, 0))) := (hAp5.2 w.heap.size (by omega) (by omega)).trans (known hb5 (Nat.le_refl _) HXA4.out)
 have HXB5' := Lib.hid hXV5
 have HF : Hid (TabFit m) := tabFit_of HT5.out (by rw [HM.out]; exact HFi.out)
 have HSF : Hid (SerFit xa pa) := HFx.out.serFit HPa.out
 clear hsa hata hloa hXB5 hXV5 hAp5 hBV5 hb5
 unfold serVals
 dsimp only
 go_wp2_with fail
 refine (series_Put_any m a2 m.length cap2 xa pa V5 HT5.out HF.out HPa.out HSF.out (HBG0.out V5 HB5.out).1).mono ?_
 clear hV5 c0 c1 c2 c3 c4 c5 c6 c7 c8 c9 c10 c11 f0 f1 f2 f3 f4 f5 f6 f7 f8 f9 f10 f11 r0 r1 r2 r3 r4 r5 r6 r7 r8 r9 r10 r11
 rintro e w6 ⟨hb6, ⟨-, rfl⟩ | ⟨hp, a6, cap6, m6, rfl, hT6, hm6, -, -, -, -⟩⟩
 ·go_wp2_with fail
  go_ret
  exact ⟨rfl, HB5.out.trans (hb6.mono HB5.out.size)⟩
 have hXA6 := known hb6 (Nat.le_refl _) HXA5.out
 have hXB6 := known hb6 (Nat.le_refl _) HXB5'.out
 rw [HM.out] at hp hm6
 have hpk : tabRight L = true ∧ serRight xa = true := by
  unfold putOk at hp
  simp only [Bool.and_eq_true] at hp
  exact ⟨hp.1.1, hp.1.2⟩
 have hlr : labRight xa.l = true := by
  have := hpk.2
  simp only [serRight, Bool.and_eq_true] at this
  exact this.1
 have HPK := Lib.hid hp
 have HM6 := Lib.hid hm6
 have HQL : Hid (∀ y ∈ L, SkGood y.sk) := fun y hy => ((HQ.out hpk.1).good y hy).sk
 have HQU : Hid (∀ y ∈ putL L xa, SkGood y.sk) := fun y hy => by
  simp only [putL, List.mem_append, List.mem_cons] at hy
  rcases hy with hy | rfl | hy
  ·exact HQL.out y (List.mem_of_mem_take hy)
  ·exact (HGx.out hpk.2).sk
  ·exact HQL.out y (List.mem_of_mem_drop hy)
 have HF6 : Hid (TabFit m6) := tabFit_of hT6 (by rw [hm6]; exact fine_put HFi.out HFx.out)
 have HT6 := Lib.hid hT6
 have HB6 : Hid (Below w.heap.size w w6) := HB5.out.trans (hb6.mono HB5.out.size)
 have hMy := May_E G a1 l1 cc1 tn pa.la pa.ll pa.lc xa.l w6 ((SlAt.below hb6 HG5.out).mono hb6.size) (HPa.out.go hb6).l.1 HSF.out.lab hlr (HBG0.out w6 HB6.out).1 HSF.out.ll
 have n0 : w6.cell? ⟨w.heap.size, 0, none⟩ = some (.int .u64 G.next) := cCc hXA6 0
 have n1 : w6.cell? ⟨w.heap.size, 1, none⟩ = some (.slice a1 l1 cc1) := cCc hXA6 1
 have r0 : w6.cell? ⟨w.heap.size + 1, 0, none⟩ = some (.slice pa.la pa.ll pa.lc) := cCc hXB6 0
 have r1 : w6.cell? ⟨w.heap.size + 1, 1, none⟩ = some (.int .i64 xa.sk.kind) := cCc hXB6 1
 have r2 : w6.cell? ⟨w.heap.size + 1, 2, none⟩ = some (.int .i64 xa.sk.level) := cCc hXB6 2
 have r3 : w6.cell? ⟨w.heap.size + 1, 3, none⟩ = some (.slice pa.ss.ea pa.ss.el pa.ss.ec) := cCc hXB6 3
 have r4 : w6.cell? ⟨w.heap.size + 1, 4, none⟩ = some (.int .i64 xa.sk.hb) := cCc hXB6 4
 have r5 : w6.cell? ⟨w.heap.size + 1, 5, none⟩ = some (.string xa.sk.hr) := cCc hXB6 5
 have r6 : w6.cell? ⟨w.heap.size + 1, 6, none⟩ = some (.int .i64 xa.sk.cr) := cCc hXB6 6
 have r7 : w6.cell? ⟨w.heap.size + 1, 7, none⟩ = some (.int .i64 xa.sk.cc) := cCc hXB6 7
 have r8 : w6.cell? ⟨w.heap.size + 1, 8, none⟩ = some (.slice pa.ss.ca pa.ss.cl pa.ss.cc) := cCc hXB6 8
 have r9 : w6.cell? ⟨w.heap.size + 1, 9, none⟩ = some (.int .i64 xa.sk.gf) := cCc hXB6 9
 have r10 : w6.cell? ⟨w.heap.size + 1, 10, none⟩ = some (.slice pa.ss.ga pa.ss.gl pa.ss.gc) := cCc hXB6 10
 have r11 : w6.cell? ⟨w.heap.size + 1, 11, none⟩ = some (.int .u64 xa.seen) := cCc hXB6 11
 have HXA6 := Lib.hid hXA6
 have HB56 := Lib.hid hb6
 clear hT6 hm6 hp hpk hlr hXA6 hXB6 hb6 HQ HGx
 clear r1 r2 r3 r4 r5 r6 r7 r8 r9 r10 r11
 go_wp2_with fail
 refine hMy.mono ?_
 rintro e w7 ⟨rfl, hb7⟩
 cases hmay : mayS G tn xa.l
 case true =>
  go_wp2_with fail
  go_ret
  exact ⟨rfl, HB6.out.trans (hb7.mono HB6.out.size)⟩
 have HMY := Lib.hid hmay
 have HX7 : Hid (w7.heap[w.heap.size]? = some (.cells #[.int .u64 G.next, .slice a1 l1 cc1] 49 (0, 0))) := known hb7 (Nat.le_refl _) HXA6.out
 have hb57 := HB56.out.trans (hb7.mono HB56.out.size)
 have HB7 : Hid (Below w.heap.size w w7) := HB5.out.trans (hb57.mono HB5.out.size)
 have HTa : Hid (Tab w7.heap.size w7 a2 m.length cap2 m) := HT5.out.go hb57
 have HTb : Hid (Tab w7.heap.size w7 a6 m6.length cap6 m6) := HT6.out.go hb7
 have HGr : Hid (∀ W, Below w7.heap.size w7 W → Grs W.heap.size W (.slice a1 l1 cc1) G.l) := fun W hb => (SlAt.below (hb57.trans (hb.mono hb57.size)) HG5.out).mono (hb57.trans (hb.mono hb57.size)).size
 have HG7 : Hid (∀ W, Below w7.heap.size w7 W → GW W ∧ GT W) := fun W hb => HBG0.out W (HB7.out.trans (hb.mono HB7.out.size))
 have HQW : Hid (∀ W, Below w7.heap.size w7 W → Below w7.heap.size w7 W) := fun W h => h
 have HRA : Hid (∀ W, Below w7.heap.size w7 W → Calls Tryz.prog 17 #[.agg #[.int .u64 G.next, .slice a1 l1 cc1], .int .u64 tn, .slice a2 m.length cap2, .string (cutN 200 sc), .int .i64 kind] W (SumPost kind (lentE G L sk) (pickAt L kind (lentR G tn L sk)) W)) := fun W hb => by
  have h := Rollup_any G a1 l1 cc1 tn sk kind m a2 m.length cap2 W (HGr.out W hb) (HTa.out.go hb) HF.out (fun _ y hy => HQL.out y (by rwa [HM.out] at hy)) (HG7.out W hb).1 (HG7.out W hb).2
  rw [HM.out, HSK.out] at h
  exact h
 have HRB : Hid (∀ W, Below w7.heap.size w7 W → Calls Tryz.prog 17 #[.agg #[.int .u64 G.next, .slice a1 l1 cc1], .int .u64 tn, .slice a6 m6.length cap6, .string (cutN 200 sc), .int .i64 kind] W (SumPost kind (lentE G L sk) (pickAt L kind (lentR G tn L sk)) W)) := fun W hb => by
  have h := Rollup_any G a1 l1 cc1 tn sk kind m6 a6 m6.length cap6 W (HGr.out W hb) (HTb.out.go hb) HF6.out (fun _ y hy => HQU.out y (by rwa [HM6.out] at hy)) (HG7.out W hb).1 (HG7.out W hb).2
  rw [HM6.out, HSK.out] at h
  exact h.mono fun e w' h => hides_post HPK.out HMY.out h
 obtain ⟨er, her⟩ : ∃ er, sumE (lentE G L sk) kind = er := ⟨_, rfl⟩
 have HER := Lib.hid her
 clear n0 n1 r0 hMy hmay hb7 hb57 her
 clear HT HT3 HT4 HT5 HT6 HP HP3 HP4 HPa HG3 HG4 HG5 HXA3 HXB3 HXA4 HXB4 HXA5 HXB5' HXA HXB HXA6 HO HRo HLg HLO HOm HTa HTb
 generalize m.length = ml at *
 generalize m6.length = mu at *
 go_wp2_with fail
 go_cut [16, 17] (fun s12 s13 wx => ∃ (b : Nat) (y : Sk) (s : SS), s12 = .pointer (some ⟨b, 0, none⟩) ∧ s13 = .int .i64 (sumE (lentE G L sk) kind) ∧ Hid (y = sumSk kind (lentE G L sk) (pickAt L kind (lentR G tn L sk))) ∧ Hid (wx.heap[b]? = some (.cells #[.int .i64 y.kind, .int .i64 y.level, .slice s.ea s.el s.ec, .int .i64 y.hb, .string y.hr, .int .i64 y.cr, .int .i64 y.cc, .slice s.ca s.cl s.cc, .int .i64 y.gf, .slice s.ga s.gl s.gc] 39 (0, 0))) ∧ Hid (s.At wx.heap.size wx y) ∧ Hid (Below w7.heap.size w7 wx))
 case first =>
  refine wp_region_any (by kernel_rfl) ?_
  change wpAny _ _ _ _ _ _ _ (World.drew _)
  have hXk0 : (w7.drew).heap[w.heap.size]? = some (.cells #[.int .u64 G.next, .slice a1 l1 cc1] 49 (0, 0)) := HX7.out
  refine wpAny_take (i := 1) (v := ?_) rfl (by kernel_rfl) (by kernel_rfl) (by kernel_rfl) (fun _ _ _ h => h) (Or.inl ⟨by rfl, ?_⟩) ?_
  rotate_left
  ·intro w; go_simp; with_reducible rfl
  refine wpAny_take (i := 2) (v := ?_) rfl (by kernel_rfl) (by kernel_rfl) (by kernel_rfl) (fun _ _ _ h => h) (Or.inl ⟨by rfl, ?_⟩) ?_
  rotate_left
  ·intro w; go_simp; with_reducible rfl
  refine wpAny_take (i := 3) (v := ?_) rfl (by kernel_rfl) (by kernel_rfl) (by kernel_rfl) (fun _ _ _ h => h) (Or.inl ⟨by rfl, ?_⟩) ?_
  rotate_left
  ·intro w; go_simp; with_reducible rfl
  refine wpAny_take (i := 5) (v := ?_) rfl (by kernel_rfl) (by kernel_rfl) (by kernel_rfl) (fun _ _ _ h => h) (Or.inl ⟨by rfl, ?_⟩) ?_
  rotate_left
  ·intro w; go_simp; with_reducible rfl
  refine wpAny_ready (rs := [0, 4, 10]) (by kernel_rfl) (by simp) ?_
  refine AllReady.cons rfl (fun K_ hK_ => ?_) ?_
  ·skip
   have n0 : w7.drew.cell? ⟨w.heap.size, 0, none⟩ = some (.int .u64 G.next) := cCc hXk0 0
   have n1 : w7.drew.cell? ⟨w.heap.size, 1, none⟩ = some (.slice a1 l1 cc1) := cCc hXk0 1
   go_simp
   refine hK_ _ _ ?_
   clear hK_ K_
   refine wpAny_ready (rs := [4, 10]) (by kernel_rfl) (by simp) ?_
   refine AllReady.cons rfl (fun K_ hK_ => ?_) ?_
   ·go_simp
    refine (cut_any sc _).mono ?_
    rintro e wc4 ⟨rfl, hb4⟩
    have hq4 : Below w7.heap.size w7 wc4 := ((Below.refl w7.heap.size w7).drew).trans (hb4.mono ((Below.refl w7.heap.size w7).drew).size)
    have hXk4 := known hb4 (Nat.le_refl _) hXk0
    refine hK_ _ _ ?_
    clear hK_ K_
    refine wpAny_ready (rs := [6, 10]) (by kernel_rfl) (by simp) ?_
    refine AllReady.cons rfl (fun K_ hK_ => ?_) ?_
    ·go_simp
     refine (HRA.out _ (HQW.out _ (hq4))).mono ?_
     rintro e wc6 ⟨y, s, hy, rfl, hsA, hb6⟩
     have HYa := Lib.hid hy
     clear hy
     have hq6 : Below w7.heap.size w7 wc6 := (hq4).trans (hb6.mono (hq4).size)
     have hXk6 := known hb6 (Nat.le_refl _) hXk4
     refine hK_ _ _ ?_
     clear hK_ K_
     refine wpAny_take (i := 7) (v := ?_) rfl (by kernel_rfl) (by kernel_rfl) (by kernel_rfl) (fun _ _ _ h => h) (Or.inl ⟨by rfl, ?_⟩) ?_
     rotate_left
     ·intro w; go_simp; with_reducible rfl
     refine wpAny_take (i := 8) (v := ?_) rfl (by kernel_rfl) (by kernel_rfl) (by kernel_rfl) (fun _ _ _ h => h) (Or.inl ⟨by rfl, ?_⟩) ?_
     rotate_left
     ·intro w; go_simp; with_reducible rfl
     refine wpAny_take (i := 9) (v := ?_) rfl (by kernel_rfl) (by kernel_rfl) (by kernel_rfl) (fun _ _ _ h => h) (Or.inl ⟨by rfl, ?_⟩) ?_
     rotate_left
     ·intro w; go_simp; with_reducible rfl
     refine wpAny_ready (rs := [10]) (by kernel_rfl) (by simp) ?_
     refine AllReady.cons rfl (fun K_ hK_ => ?_) ?_
     ·obtain ⟨Wb, hWb, hXb, hBb, hsb⟩ := boxes1 (wc6) #[.int .i64 0, .int .i64 0, .slice none 0 0, .int .i64 0, .string ⟨#[]⟩, .int .i64 0, .int .i64 0, .slice none 0 0, .int .i64 0, .slice none 0 0] 39
      have hqb : Below w7.heap.size w7 Wb := (hq6).trans (hBb.mono (hq6).size)
      have hXkb := known hBb (Nat.le_refl _) hXk6
      replace hsA := hsA.go hBb
      go_simp
      refine hK_ _ _ ?_
      clear hK_ K_
      refine wpAny_ready (rs := [11]) (by kernel_rfl) (by simp) ?_
      refine AllReady.cons rfl (fun K_ hK_ => ?_) ?_
      ·obtain ⟨bB, hbB⟩ : ∃ bB, (wc6).heap.size = bB := ⟨_, rfl⟩
       rw [hbB] at hXb
       have hbl : w7.heap.size ≤ bB := by rw [← hbB]; exact (hq6).size
       have f0 : Wb.cell? ⟨bB, 0, none⟩ = some (.int .i64 0) := cCc hXb 0
       have f1 : Wb.cell? ⟨bB, 1, none⟩ = some (.int .i64 0) := cCc hXb 1
       have f2 : Wb.cell? ⟨bB, 2, none⟩ = some (.slice none 0 0) := cCc hXb 2
       have f3 : Wb.cell? ⟨bB, 3, none⟩ = some (.int .i64 0) := cCc hXb 3
       have f4 : Wb.cell? ⟨bB, 4, none⟩ = some (.string ⟨#[]⟩) := cCc hXb 4
       have f5 : Wb.cell? ⟨bB, 5, none⟩ = some (.int .i64 0) := cCc hXb 5
       have f6 : Wb.cell? ⟨bB, 6, none⟩ = some (.int .i64 0) := cCc hXb 6
       have f7 : Wb.cell? ⟨bB, 7, none⟩ = some (.slice none 0 0) := cCc hXb 7
       have f8 : Wb.cell? ⟨bB, 8, none⟩ = some (.int .i64 0) := cCc hXb 8
       have f9 : Wb.cell? ⟨bB, 9, none⟩ = some (.slice none 0 0) := cCc hXb 9
       have g'0 : Wb.frozen? ⟨bB, 0, none⟩ = false := cFz hXb 0
       have g'1 : Wb.frozen? ⟨bB, 1, none⟩ = false := cFz hXb 1
       have g'2 : Wb.frozen? ⟨bB, 2, none⟩ = false := cFz hXb 2
       have g'3 : Wb.frozen? ⟨bB, 3, none⟩ = false := cFz hXb 3
       have g'4 : Wb.frozen? ⟨bB, 4, none⟩ = false := cFz hXb 4
       have g'5 : Wb.frozen? ⟨bB, 5, none⟩ = false := cFz hXb 5
       have g'6 : Wb.frozen? ⟨bB, 6, none⟩ = false := cFz hXb 6
       have g'7 : Wb.frozen? ⟨bB, 7, none⟩ = false := cFz hXb 7
       have g'8 : Wb.frozen? ⟨bB, 8, none⟩ = false := cFz hXb 8
       have g'9 : Wb.frozen? ⟨bB, 9, none⟩ = false := cFz hXb 9
       obtain ⟨V, hV, hVX, hVO, hVB⟩ := store10 (.int .i64 y.kind) (.int .i64 y.level) (.slice s.ea s.el s.ec) (.int .i64 y.hb) (.string y.hr) (.int .i64 y.cr) (.int .i64 y.cc) (.slice s.ca s.cl s.cc) (.int .i64 y.gf) (.slice s.ga s.gl s.gc) hXb
       have HO : Hid (V.heap[bB]? = some (.cells #[.int .i64 y.kind, .int .i64 y.level, .slice s.ea s.el s.ec, .int .i64 y.hb, .string y.hr, .int .i64 y.cr, .int .i64 y.cc, .slice s.ca s.cl s.cc, .int .i64 y.gf, .slice s.ga s.gl s.gc] 39 (0, 0)) ∧ s.At V.heap.size V y ∧ Below w7.heap.size w7 V) := ⟨hVX, at_apart hsA hXb (fun i u => noU_zero u) hVO, hVB _ _ (hqb) hbl⟩
       clear hVX hVO hVB
       rw [hbB]
       go_simp
       refine hK_ _ _ ?_
       clear hK_ K_
       refine wpAny_take (i := 12) (v := ?_) rfl (by kernel_rfl) (by kernel_rfl) (by kernel_rfl) (fun _ _ _ h => h) (Or.inl ⟨by rfl, ?_⟩) ?_
       rotate_left
       ·intro w; go_simp; with_reducible rfl
       refine wpAny_done (by kernel_rfl) ?_ _
       go_wp2_with fail
       go_meet
       exact ⟨bB, y, s, rfl, rfl, HYa, HO.out.1, HO.out.2.1, HO.out.2.2⟩
      exact AllReady.nil
     exact AllReady.nil
    refine AllReady.cons rfl (fun K_ hK_ => ?_) ?_
    ·obtain ⟨Wb, hWb, hXb, hBb, hsb⟩ := boxes1 (wc4) #[.int .i64 0, .int .i64 0, .slice none 0 0, .int .i64 0, .string ⟨#[]⟩, .int .i64 0, .int .i64 0, .slice none 0 0, .int .i64 0, .slice none 0 0] 39
     have hqb : Below w7.heap.size w7 Wb := (hq4).trans (hBb.mono (hq4).size)
     have hXkb := known hBb (Nat.le_refl _) hXk4
     go_simp
     refine hK_ _ _ ?_
     clear hK_ K_
     refine wpAny_ready (rs := [6]) (by kernel_rfl) (by simp) ?_
     refine AllReady.cons rfl (fun K_ hK_ => ?_) ?_
     ·go_simp
      refine (HRA.out _ (HQW.out _ (hqb))).mono ?_
      rintro e wc6 ⟨y, s, hy, rfl, hsA, hb6⟩
      have HYa := Lib.hid hy
      clear hy
      have hq6 : Below w7.heap.size w7 wc6 := (hqb).trans (hb6.mono (hqb).size)
      have hXb := known hb6 (Nat.le_refl _) hXb
      have hXk6 := known hb6 (Nat.le_refl _) hXkb
      refine hK_ _ _ ?_
      clear hK_ K_
      refine wpAny_take (i := 7) (v := ?_) rfl (by kernel_rfl) (by kernel_rfl) (by kernel_rfl) (fun _ _ _ h => h) (Or.inl ⟨by rfl, ?_⟩) ?_
      rotate_left
      ·intro w; go_simp; with_reducible rfl
      refine wpAny_take (i := 8) (v := ?_) rfl (by kernel_rfl) (by kernel_rfl) (by kernel_rfl) (fun _ _ _ h => h) (Or.inl ⟨by rfl, ?_⟩) ?_
      rotate_left
      ·intro w; go_simp; with_reducible rfl
      refine wpAny_take (i := 9) (v := ?_) rfl (by kernel_rfl) (by kernel_rfl) (by kernel_rfl) (fun _ _ _ h => h) (Or.inl ⟨by rfl, ?_⟩) ?_
      rotate_left
      ·intro w; go_simp; with_reducible rfl
      refine wpAny_ready (rs := [11]) (by kernel_rfl) (by simp) ?_
      refine AllReady.cons rfl (fun K_ hK_ => ?_) ?_
      ·obtain ⟨bB, hbB⟩ : ∃ bB, (wc4).heap.size = bB := ⟨_, rfl⟩
       rw [hbB] at hXb
       have hbl : w7.heap.size ≤ bB := by rw [← hbB]; exact (hq4).size
       have f0 : wc6.cell? ⟨bB, 0, none⟩ = some (.int .i64 0) := cCc hXb 0
       have f1 : wc6.cell? ⟨bB, 1, none⟩ = some (.int .i64 0) := cCc hXb 1
       have f2 : wc6.cell? ⟨bB, 2, none⟩ = some (.slice none 0 0) := cCc hXb 2
       have f3 : wc6.cell? ⟨bB, 3, none⟩ = some (.int .i64 0) := cCc hXb 3
       have f4 : wc6.cell? ⟨bB, 4, none⟩ = some (.string ⟨#[]⟩) := cCc hXb 4
       have f5 : wc6.cell? ⟨bB, 5, none⟩ = some (.int .i64 0) := cCc hXb 5
       have f6 : wc6.cell? ⟨bB, 6, none⟩ = some (.int .i64 0) := cCc hXb 6
       have f7 : wc6.cell? ⟨bB, 7, none⟩ = some (.slice none 0 0) := cCc hXb 7
       have f8 : wc6.cell? ⟨bB, 8, none⟩ = some (.int .i64 0) := cCc hXb 8
       have f9 : wc6.cell? ⟨bB, 9, none⟩ = some (.slice none 0 0) := cCc hXb 9
       have g'0 : wc6.frozen? ⟨bB, 0, none⟩ = false := cFz hXb 0
       have g'1 : wc6.frozen? ⟨bB, 1, none⟩ = false := cFz hXb 1
       have g'2 : wc6.frozen? ⟨bB, 2, none⟩ = false := cFz hXb 2
       have g'3 : wc6.frozen? ⟨bB, 3, none⟩ = false := cFz hXb 3
       have g'4 : wc6.frozen? ⟨bB, 4, none⟩ = false := cFz hXb 4
       have g'5 : wc6.frozen? ⟨bB, 5, none⟩ = false := cFz hXb 5
       have g'6 : wc6.frozen? ⟨bB, 6, none⟩ = false := cFz hXb 6
       have g'7 : wc6.frozen? ⟨bB, 7, none⟩ = false := cFz hXb 7
       have g'8 : wc6.frozen? ⟨bB, 8, none⟩ = false := cFz hXb 8
       have g'9 : wc6.frozen? ⟨bB, 9, none⟩ = false := cFz hXb 9
       obtain ⟨V, hV, hVX, hVO, hVB⟩ := store10 (.int .i64 y.kind) (.int .i64 y.level) (.slice s.ea s.el s.ec) (.int .i64 y.hb) (.string y.hr) (.int .i64 y.cr) (.int .i64 y.cc) (.slice s.ca s.cl s.cc) (.int .i64 y.gf) (.slice s.ga s.gl s.gc) hXb
       have HO : Hid (V.heap[bB]? = some (.cells #[.int .i64 y.kind, .int .i64 y.level, .slice s.ea s.el s.ec, .int .i64 y.hb, .string y.hr, .int .i64 y.cr, .int .i64 y.cc, .slice s.ca s.cl s.cc, .int .i64 y.gf, .slice s.ga s.gl s.gc] 39 (0, 0)) ∧ s.At V.heap.size V y ∧ Below w7.heap.size w7 V) := ⟨hVX, at_apart hsA hXb (fun i u => noU_zero u) hVO, hVB _ _ (hq6) hbl⟩
       clear hVX hVO hVB
       rw [hbB]
       go_simp
       refine hK_ _ _ ?_
       clear hK_ K_
       refine wpAny_take (i := 12) (v := ?_) rfl (by kernel_rfl) (by kernel_rfl) (by kernel_rfl) (fun _ _ _ h => h) (Or.inl ⟨by rfl, ?_⟩) ?_
       rotate_left
       ·intro w; go_simp; with_reducible rfl
       refine wpAny_done (by kernel_rfl) ?_ _
       go_wp2_with fail
       go_meet
       exact ⟨bB, y, s, rfl, rfl, HYa, HO.out.1, HO.out.2.1, HO.out.2.2⟩
      exact AllReady.nil
     exact AllReady.nil
    exact AllReady.nil
   refine AllReady.cons rfl (fun K_ hK_ => ?_) ?_
   ·obtain ⟨Wb, hWb, hXb, hBb, hsb⟩ := boxes1 (w7.drew) #[.int .i64 0, .int .i64 0, .slice none 0 0, .int .i64 0, .string ⟨#[]⟩, .int .i64 0, .int .i64 0, .slice none 0 0, .int .i64 0, .slice none 0 0] 39
    have hqb : Below w7.heap.size w7 Wb := ((Below.refl w7.heap.size w7).drew).trans (hBb.mono ((Below.refl w7.heap.size w7).drew).size)
    have hXkb := known hBb (Nat.le_refl _) hXk0
    go_simp
    refine hK_ _ _ ?_
    clear hK_ K_
    refine wpAny_ready (rs := [4]) (by kernel_rfl) (by simp) ?_
    refine AllReady.cons rfl (fun K_ hK_ => ?_) ?_
    ·go_simp
     refine (cut_any sc _).mono ?_
     rintro e wc4 ⟨rfl, hb4⟩
     have hq4 : Below w7.heap.size w7 wc4 := (hqb).trans (hb4.mono (hqb).size)
     have hXb := known hb4 (Nat.le_refl _) hXb
     have hXk4 := known hb4 (Nat.le_refl _) hXkb
     refine hK_ _ _ ?_
     clear hK_ K_
     refine wpAny_ready (rs := [6]) (by kernel_rfl) (by simp) ?_
     refine AllReady.cons rfl (fun K_ hK_ => ?_) ?_
     ·go_simp
      refine (HRA.out _ (HQW.out _ (hq4))).mono ?_
      rintro e wc6 ⟨y, s, hy, rfl, hsA, hb6⟩
      have HYa := Lib.hid hy
      clear hy
      have hq6 : Below w7.heap.size w7 wc6 := (hq4).trans (hb6.mono (hq4).size)
      have hXb := known hb6 (Nat.le_refl _) hXb
      have hXk6 := known hb6 (Nat.le_refl _) hXk4
      refine hK_ _ _ ?_
      clear hK_ K_
      refine wpAny_take (i := 7) (v := ?_) rfl (by kernel_rfl) (by kernel_rfl) (by kernel_rfl) (fun _ _ _ h => h) (Or.inl ⟨by rfl, ?_⟩) ?_
      rotate_left
      ·intro w; go_simp; with_reducible rfl
      refine wpAny_take (i := 8) (v := ?_) rfl (by kernel_rfl) (by kernel_rfl) (by kernel_rfl) (fun _ _ _ h => h) (Or.inl ⟨by rfl, ?_⟩) ?_
      rotate_left
      ·intro w; go_simp; with_reducible rfl
      refine wpAny_take (i := 9) (v := ?_) rfl (by kernel_rfl) (by kernel_rfl) (by kernel_rfl) (fun _ _ _ h => h) (Or.inl ⟨by rfl, ?_⟩) ?_
      rotate_left
      ·intro w; go_simp; with_reducible rfl
      refine wpAny_ready (rs := [11]) (by kernel_rfl) (by simp) ?_
      refine AllReady.cons rfl (fun K_ hK_ => ?_) ?_
      ·obtain ⟨bB, hbB⟩ : ∃ bB, (w7.drew).heap.size = bB := ⟨_, rfl⟩
       rw [hbB] at hXb
       have hbl : w7.heap.size ≤ bB := by rw [← hbB]; exact ((Below.refl w7.heap.size w7).drew).size
       have f0 : wc6.cell? ⟨bB, 0, none⟩ = some (.int .i64 0) := cCc hXb 0
       have f1 : wc6.cell? ⟨bB, 1, none⟩ = some (.int .i64 0) := cCc hXb 1
       have f2 : wc6.cell? ⟨bB, 2, none⟩ = some (.slice none 0 0) := cCc hXb 2
       have f3 : wc6.cell? ⟨bB, 3, none⟩ = some (.int .i64 0) := cCc hXb 3
       have f4 : wc6.cell? ⟨bB, 4, none⟩ = some (.string ⟨#[]⟩) := cCc hXb 4
       have f5 : wc6.cell? ⟨bB, 5, none⟩ = some (.int .i64 0) := cCc hXb 5
       have f6 : wc6.cell? ⟨bB, 6, none⟩ = some (.int .i64 0) := cCc hXb 6
       have f7 : wc6.cell? ⟨bB, 7, none⟩ = some (.slice none 0 0) := cCc hXb 7
       have f8 : wc6.cell? ⟨bB, 8, none⟩ = some (.int .i64 0) := cCc hXb 8
       have f9 : wc6.cell? ⟨bB, 9, none⟩ = some (.slice none 0 0) := cCc hXb 9
       have g'0 : wc6.frozen? ⟨bB, 0, none⟩ = false := cFz hXb 0
       have g'1 : wc6.frozen? ⟨bB, 1, none⟩ = false := cFz hXb 1
       have g'2 : wc6.frozen? ⟨bB, 2, none⟩ = false := cFz hXb 2
       have g'3 : wc6.frozen? ⟨bB, 3, none⟩ = false := cFz hXb 3
       have g'4 : wc6.frozen? ⟨bB, 4, none⟩ = false := cFz hXb 4
       have g'5 : wc6.frozen? ⟨bB, 5, none⟩ = false := cFz hXb 5
       have g'6 : wc6.frozen? ⟨bB, 6, none⟩ = false := cFz hXb 6
       have g'7 : wc6.frozen? ⟨bB, 7, none⟩ = false := cFz hXb 7
       have g'8 : wc6.frozen? ⟨bB, 8, none⟩ = false := cFz hXb 8
       have g'9 : wc6.frozen? ⟨bB, 9, none⟩ = false := cFz hXb 9
       obtain ⟨V, hV, hVX, hVO, hVB⟩ := store10 (.int .i64 y.kind) (.int .i64 y.level) (.slice s.ea s.el s.ec) (.int .i64 y.hb) (.string y.hr) (.int .i64 y.cr) (.int .i64 y.cc) (.slice s.ca s.cl s.cc) (.int .i64 y.gf) (.slice s.ga s.gl s.gc) hXb
       have HO : Hid (V.heap[bB]? = some (.cells #[.int .i64 y.kind, .int .i64 y.level, .slice s.ea s.el s.ec, .int .i64 y.hb, .string y.hr, .int .i64 y.cr, .int .i64 y.cc, .slice s.ca s.cl s.cc, .int .i64 y.gf, .slice s.ga s.gl s.gc] 39 (0, 0)) ∧ s.At V.heap.size V y ∧ Below w7.heap.size w7 V) := ⟨hVX, at_apart hsA hXb (fun i u => noU_zero u) hVO, hVB _ _ (hq6) hbl⟩
       clear hVX hVO hVB
       first | rw [hbB] | rw [show w7.heap.size = bB from hbB]
       go_simp
       refine hK_ _ _ ?_
       clear hK_ K_
       refine wpAny_take (i := 12) (v := ?_) rfl (by kernel_rfl) (by kernel_rfl) (by kernel_rfl) (fun _ _ _ h => h) (Or.inl ⟨by rfl, ?_⟩) ?_
       rotate_left
       ·intro w; go_simp; with_reducible rfl
       refine wpAny_done (by kernel_rfl) ?_ _
       go_wp2_with fail
       go_meet
       exact ⟨bB, y, s, rfl, rfl, HYa, HO.out.1, HO.out.2.1, HO.out.2.2⟩
      exact AllReady.nil
     exact AllReady.nil
    exact AllReady.nil
   exact AllReady.nil
  refine AllReady.cons rfl (fun K_ hK_ => ?_) ?_
  ·go_simp
   refine (cut_any sc _).mono ?_
   rintro e wc4 ⟨rfl, hb4⟩
   have hq4 : Below w7.heap.size w7 wc4 := ((Below.refl w7.heap.size w7).drew).trans (hb4.mono ((Below.refl w7.heap.size w7).drew).size)
   have hXk4 := known hb4 (Nat.le_refl _) hXk0
   refine hK_ _ _ ?_
   clear hK_ K_
   refine wpAny_ready (rs := [0, 10]) (by kernel_rfl) (by simp) ?_
   refine AllReady.cons rfl (fun K_ hK_ => ?_) ?_
   ·skip
    have n0 : wc4.cell? ⟨w.heap.size, 0, none⟩ = some (.int .u64 G.next) := cCc hXk4 0
    have n1 : wc4.cell? ⟨w.heap.size, 1, none⟩ = some (.slice a1 l1 cc1) := cCc hXk4 1
    go_simp
    refine hK_ _ _ ?_
    clear hK_ K_
    refine wpAny_ready (rs := [6, 10]) (by kernel_rfl) (by simp) ?_
    refine AllReady.cons rfl (fun K_ hK_ => ?_) ?_
    ·go_simp
     refine (HRA.out _ (HQW.out _ (hq4))).mono ?_
     rintro e wc6 ⟨y, s, hy, rfl, hsA, hb6⟩
     have HYa := Lib.hid hy
     clear hy
     have hq6 : Below w7.heap.size w7 wc6 := (hq4).trans (hb6.mono (hq4).size)
     have hXk6 := known hb6 (Nat.le_refl _) hXk4
     refine hK_ _ _ ?_
     clear hK_ K_
     refine wpAny_take (i := 7) (v := ?_) rfl (by kernel_rfl) (by kernel_rfl) (by kernel_rfl) (fun _ _ _ h => h) (Or.inl ⟨by rfl, ?_⟩) ?_
     rotate_left
     ·intro w; go_simp; with_reducible rfl
     refine wpAny_take (i := 8) (v := ?_) rfl (by kernel_rfl) (by kernel_rfl) (by kernel_rfl) (fun _ _ _ h => h) (Or.inl ⟨by rfl, ?_⟩) ?_
     rotate_left
     ·intro w; go_simp; with_reducible rfl
     refine wpAny_take (i := 9) (v := ?_) rfl (by kernel_rfl) (by kernel_rfl) (by kernel_rfl) (fun _ _ _ h => h) (Or.inl ⟨by rfl, ?_⟩) ?_
     rotate_left
     ·intro w; go_simp; with_reducible rfl
     refine wpAny_ready (rs := [10]) (by kernel_rfl) (by simp) ?_
     refine AllReady.cons rfl (fun K_ hK_ => ?_) ?_
     ·obtain ⟨Wb, hWb, hXb, hBb, hsb⟩ := boxes1 (wc6) #[.int .i64 0, .int .i64 0, .slice none 0 0, .int .i64 0, .string ⟨#[]⟩, .int .i64 0, .int .i64 0, .slice none 0 0, .int .i64 0, .slice none 0 0] 39
      have hqb : Below w7.heap.size w7 Wb := (hq6).trans (hBb.mono (hq6).size)
      have hXkb := known hBb (Nat.le_refl _) hXk6
      replace hsA := hsA.go hBb
      go_simp
      refine hK_ _ _ ?_
      clear hK_ K_
      refine wpAny_ready (rs := [11]) (by kernel_rfl) (by simp) ?_
      refine AllReady.cons rfl (fun K_ hK_ => ?_) ?_
      ·obtain ⟨bB, hbB⟩ : ∃ bB, (wc6).heap.size = bB := ⟨_, rfl⟩
       rw [hbB] at hXb
       have hbl : w7.heap.size ≤ bB := by rw [← hbB]; exact (hq6).size
       have f0 : Wb.cell? ⟨bB, 0, none⟩ = some (.int .i64 0) := cCc hXb 0
       have f1 : Wb.cell? ⟨bB, 1, none⟩ = some (.int .i64 0) := cCc hXb 1
       have f2 : Wb.cell? ⟨bB, 2, none⟩ = some (.slice none 0 0) := cCc hXb 2
       have f3 : Wb.cell? ⟨bB, 3, none⟩ = some (.int .i64 0) := cCc hXb 3
       have f4 : Wb.cell? ⟨bB, 4, none⟩ = some (.string ⟨#[]⟩) := cCc hXb 4
       have f5 : Wb.cell? ⟨bB, 5, none⟩ = some (.int .i64 0) := cCc hXb 5
       have f6 : Wb.cell? ⟨bB, 6, none⟩ = some (.int .i64 0) := cCc hXb 6
       have f7 : Wb.cell? ⟨bB, 7, none⟩ = some (.slice none 0 0) := cCc hXb 7
       have f8 : Wb.cell? ⟨bB, 8, none⟩ = some (.int .i64 0) := cCc hXb 8
       have f9 : Wb.cell? ⟨bB, 9, none⟩ = some (.slice none 0 0) := cCc hXb 9
       have g'0 : Wb.frozen? ⟨bB, 0, none⟩ = false := cFz hXb 0
       have g'1 : Wb.frozen? ⟨bB, 1, none⟩ = false := cFz hXb 1
       have g'2 : Wb.frozen? ⟨bB, 2, none⟩ = false := cFz hXb 2
       have g'3 : Wb.frozen? ⟨bB, 3, none⟩ = false := cFz hXb 3
       have g'4 : Wb.frozen? ⟨bB, 4, none⟩ = false := cFz hXb 4
       have g'5 : Wb.frozen? ⟨bB, 5, none⟩ = false := cFz hXb 5
       have g'6 : Wb.frozen? ⟨bB, 6, none⟩ = false := cFz hXb 6
       have g'7 : Wb.frozen? ⟨bB, 7, none⟩ = false := cFz hXb 7
       have g'8 : Wb.frozen? ⟨bB, 8, none⟩ = false := cFz hXb 8
       have g'9 : Wb.frozen? ⟨bB, 9, none⟩ = false := cFz hXb 9
       obtain ⟨V, hV, hVX, hVO, hVB⟩ := store10 (.int .i64 y.kind) (.int .i64 y.level) (.slice s.ea s.el s.ec) (.int .i64 y.hb) (.string y.hr) (.int .i64 y.cr) (.int .i64 y.cc) (.slice s.ca s.cl s.cc) (.int .i64 y.gf) (.slice s.ga s.gl s.gc) hXb
       have HO : Hid (V.heap[bB]? = some (.cells #[.int .i64 y.kind, .int .i64 y.level, .slice s.ea s.el s.ec, .int .i64 y.hb, .string y.hr, .int .i64 y.cr, .int .i64 y.cc, .slice s.ca s.cl s.cc, .int .i64 y.gf, .slice s.ga s.gl s.gc] 39 (0, 0)) ∧ s.At V.heap.size V y ∧ Below w7.heap.size w7 V) := ⟨hVX, at_apart hsA hXb (fun i u => noU_zero u) hVO, hVB _ _ (hqb) hbl⟩
       clear hVX hVO hVB
       rw [hbB]
       go_simp
       refine hK_ _ _ ?_
       clear hK_ K_
       refine wpAny_take (i := 12) (v := ?_) rfl (by kernel_rfl) (by kernel_rfl) (by kernel_rfl) (fun _ _ _ h => h) (Or.inl ⟨by rfl, ?_⟩) ?_
       rotate_left
       ·intro w; go_simp; with_reducible rfl
       refine wpAny_done (by kernel_rfl) ?_ _
       go_wp2_with fail
       go_meet
       exact ⟨bB, y, s, rfl, rfl, HYa, HO.out.1, HO.out.2.1, HO.out.2.2⟩
      exact AllReady.nil
     exact AllReady.nil
    refine AllReady.cons rfl (fun K_ hK_ => ?_) ?_
    ·obtain ⟨Wb, hWb, hXb, hBb, hsb⟩ := boxes1 (wc4) #[.int .i64 0, .int .i64 0, .slice none 0 0, .int .i64 0, .string ⟨#[]⟩, .int .i64 0, .int .i64 0, .slice none 0 0, .int .i64 0, .slice none 0 0] 39
     have hqb : Below w7.heap.size w7 Wb := (hq4).trans (hBb.mono (hq4).size)
     have hXkb := known hBb (Nat.le_refl _) hXk4
     go_simp
     refine hK_ _ _ ?_
     clear hK_ K_
     refine wpAny_ready (rs := [6]) (by kernel_rfl) (by simp) ?_
     refine AllReady.cons rfl (fun K_ hK_ => ?_) ?_
     ·go_simp
      refine (HRA.out _ (HQW.out _ (hqb))).mono ?_
      rintro e wc6 ⟨y, s, hy, rfl, hsA, hb6⟩
      have HYa := Lib.hid hy
      clear hy
      have hq6 : Below w7.heap.size w7 wc6 := (hqb).trans (hb6.mono (hqb).size)
      have hXb := known hb6 (Nat.le_refl _) hXb
      have hXk6 := known hb6 (Nat.le_refl _) hXkb
      refine hK_ _ _ ?_
      clear hK_ K_
      refine wpAny_take (i := 7) (v := ?_) rfl (by kernel_rfl) (by kernel_rfl) (by kernel_rfl) (fun _ _ _ h => h) (Or.inl ⟨by rfl, ?_⟩) ?_
      rotate_left
      ·intro w; go_simp; with_reducible rfl
      refine wpAny_take (i := 8) (v := ?_) rfl (by kernel_rfl) (by kernel_rfl) (by kernel_rfl) (fun _ _ _ h => h) (Or.inl ⟨by rfl, ?_⟩) ?_
      rotate_left
      ·intro w; go_simp; with_reducible rfl
      refine wpAny_take (i := 9) (v := ?_) rfl (by kernel_rfl) (by kernel_rfl) (by kernel_rfl) (fun _ _ _ h => h) (Or.inl ⟨by rfl, ?_⟩) ?_
      rotate_left
      ·intro w; go_simp; with_reducible rfl
      refine wpAny_ready (rs := [11]) (by kernel_rfl) (by simp) ?_
      refine AllReady.cons rfl (fun K_ hK_ => ?_) ?_
      ·obtain ⟨bB, hbB⟩ : ∃ bB, (wc4).heap.size = bB := ⟨_, rfl⟩
       rw [hbB] at hXb
       have hbl : w7.heap.size ≤ bB := by rw [← hbB]; exact (hq4).size
       have f0 : wc6.cell? ⟨bB, 0, none⟩ = some (.int .i64 0) := cCc hXb 0
       have f1 : wc6.cell? ⟨bB, 1, none⟩ = some (.int .i64 0) := cCc hXb 1
       have f2 : wc6.cell? ⟨bB, 2, none⟩ = some (.slice none 0 0) := cCc hXb 2
       have f3 : wc6.cell? ⟨bB, 3, none⟩ = some (.int .i64 0) := cCc hXb 3
       have f4 : wc6.cell? ⟨bB, 4, none⟩ = some (.string ⟨#[]⟩) := cCc hXb 4
       have f5 : wc6.cell? ⟨bB, 5, none⟩ = some (.int .i64 0) := cCc hXb 5
       have f6 : wc6.cell? ⟨bB, 6, none⟩ = some (.int .i64 0) := cCc hXb 6
       have f7 : wc6.cell? ⟨bB, 7, none⟩ = some (.slice none 0 0) := cCc hXb 7
       have f8 : wc6.cell? ⟨bB, 8, none⟩ = some (.int .i64 0) := cCc hXb 8
       have f9 : wc6.cell? ⟨bB, 9, none⟩ = some (.slice none 0 0) := cCc hXb 9
       have g'0 : wc6.frozen? ⟨bB, 0, none⟩ = false := cFz hXb 0
       have g'1 : wc6.frozen? ⟨bB, 1, none⟩ = false := cFz hXb 1
       have g'2 : wc6.frozen? ⟨bB, 2, none⟩ = false := cFz hXb 2
       have g'3 : wc6.frozen? ⟨bB, 3, none⟩ = false := cFz hXb 3
       have g'4 : wc6.frozen? ⟨bB, 4, none⟩ = false := cFz hXb 4
       have g'5 : wc6.frozen? ⟨bB, 5, none⟩ = false := cFz hXb 5
       have g'6 : wc6.frozen? ⟨bB, 6, none⟩ = false := cFz hXb 6
       have g'7 : wc6.frozen? ⟨bB, 7, none⟩ = false := cFz hXb 7
       have g'8 : wc6.frozen? ⟨bB, 8, none⟩ = false := cFz hXb 8
       have g'9 : wc6.frozen? ⟨bB, 9, none⟩ = false := cFz hXb 9
       obtain ⟨V, hV, hVX, hVO, hVB⟩ := store10 (.int .i64 y.kind) (.int .i64 y.level) (.slice s.ea s.el s.ec) (.int .i64 y.hb) (.string y.hr) (.int .i64 y.cr) (.int .i64 y.cc) (.slice s.ca s.cl s.cc) (.int .i64 y.gf) (.slice s.ga s.gl s.gc) hXb
       have HO : Hid (V.heap[bB]? = some (.cells #[.int .i64 y.kind, .int .i64 y.level, .slice s.ea s.el s.ec, .int .i64 y.hb, .string y.hr, .int .i64 y.cr, .int .i64 y.cc, .slice s.ca s.cl s.cc, .int .i64 y.gf, .slice s.ga s.gl s.gc] 39 (0, 0)) ∧ s.At V.heap.size V y ∧ Below w7.heap.size w7 V) := ⟨hVX, at_apart hsA hXb (fun i u => noU_zero u) hVO, hVB _ _ (hq6) hbl⟩
       clear hVX hVO hVB
       rw [hbB]
       go_simp
       refine hK_ _ _ ?_
       clear hK_ K_
       refine wpAny_take (i := 12) (v := ?_) rfl (by kernel_rfl) (by kernel_rfl) (by kernel_rfl) (fun _ _ _ h => h) (Or.inl ⟨by rfl, ?_⟩) ?_
       rotate_left
       ·intro w; go_simp; with_reducible rfl
       refine wpAny_done (by kernel_rfl) ?_ _
       go_wp2_with fail
       go_meet
       exact ⟨bB, y, s, rfl, rfl, HYa, HO.out.1, HO.out.2.1, HO.out.2.2⟩
      exact AllReady.nil
     exact AllReady.nil
    exact AllReady.nil
   refine AllReady.cons rfl (fun K_ hK_ => ?_) ?_
   ·obtain ⟨Wb, hWb, hXb, hBb, hsb⟩ := boxes1 (wc4) #[.int .i64 0, .int .i64 0, .slice none 0 0, .int .i64 0, .string ⟨#[]⟩, .int .i64 0, .int .i64 0, .slice none 0 0, .int .i64 0, .slice none 0 0] 39
    have hqb : Below w7.heap.size w7 Wb := (hq4).trans (hBb.mono (hq4).size)
    have hXkb := known hBb (Nat.le_refl _) hXk4
    go_simp
    refine hK_ _ _ ?_
    clear hK_ K_
    refine wpAny_ready (rs := [0]) (by kernel_rfl) (by simp) ?_
    refine AllReady.cons rfl (fun K_ hK_ => ?_) ?_
    ·skip
     have n0 : Wb.cell? ⟨w.heap.size, 0, none⟩ = some (.int .u64 G.next) := cCc hXkb 0
     have n1 : Wb.cell? ⟨w.heap.size, 1, none⟩ = some (.slice a1 l1 cc1) := cCc hXkb 1
     go_simp
     refine hK_ _ _ ?_
     clear hK_ K_
     refine wpAny_ready (rs := [6]) (by kernel_rfl) (by simp) ?_
     refine AllReady.cons rfl (fun K_ hK_ => ?_) ?_
     ·go_simp
      refine (HRA.out _ (HQW.out _ (hqb))).mono ?_
      rintro e wc6 ⟨y, s, hy, rfl, hsA, hb6⟩
      have HYa := Lib.hid hy
      clear hy
      have hq6 : Below w7.heap.size w7 wc6 := (hqb).trans (hb6.mono (hqb).size)
      have hXb := known hb6 (Nat.le_refl _) hXb
      have hXk6 := known hb6 (Nat.le_refl _) hXkb
      refine hK_ _ _ ?_
      clear hK_ K_
      refine wpAny_take (i := 7) (v := ?_) rfl (by kernel_rfl) (by kernel_rfl) (by kernel_rfl) (fun _ _ _ h => h) (Or.inl ⟨by rfl, ?_⟩) ?_
      rotate_left
      ·intro w; go_simp; with_reducible rfl
      refine wpAny_take (i := 8) (v := ?_) rfl (by kernel_rfl) (by kernel_rfl) (by kernel_rfl) (fun _ _ _ h => h) (Or.inl ⟨by rfl, ?_⟩) ?_
      rotate_left
      ·intro w; go_simp; with_reducible rfl
      refine wpAny_take (i := 9) (v := ?_) rfl (by kernel_rfl) (by kernel_rfl) (by kernel_rfl) (fun _ _ _ h => h) (Or.inl ⟨by rfl, ?_⟩) ?_
      rotate_left
      ·intro w; go_simp; with_reducible rfl
      refine wpAny_ready (rs := [11]) (by kernel_rfl) (by simp) ?_
      refine AllReady.cons rfl (fun K_ hK_ => ?_) ?_
      ·obtain ⟨bB, hbB⟩ : ∃ bB, (wc4).heap.size = bB := ⟨_, rfl⟩
       rw [hbB] at hXb
       have hbl : w7.heap.size ≤ bB := by rw [← hbB]; exact (hq4).size
       have f0 : wc6.cell? ⟨bB, 0, none⟩ = some (.int .i64 0) := cCc hXb 0
       have f1 : wc6.cell? ⟨bB, 1, none⟩ = some (.int .i64 0) := cCc hXb 1
       have f2 : wc6.cell? ⟨bB, 2, none⟩ = some (.slice none 0 0) := cCc hXb 2
       have f3 : wc6.cell? ⟨bB, 3, none⟩ = some (.int .i64 0) := cCc hXb 3
       have f4 : wc6.cell? ⟨bB, 4, none⟩ = some (.string ⟨#[]⟩) := cCc hXb 4
       have f5 : wc6.cell? ⟨bB, 5, none⟩ = some (.int .i64 0) := cCc hXb 5
       have f6 : wc6.cell? ⟨bB, 6, none⟩ = some (.int .i64 0) := cCc hXb 6
       have f7 : wc6.cell? ⟨bB, 7, none⟩ = some (.slice none 0 0) := cCc hXb 7
       have f8 : wc6.cell? ⟨bB, 8, none⟩ = some (.int .i64 0) := cCc hXb 8
       have f9 : wc6.cell? ⟨bB, 9, none⟩ = some (.slice none 0 0) := cCc hXb 9
       have g'0 : wc6.frozen? ⟨bB, 0, none⟩ = false := cFz hXb 0
       have g'1 : wc6.frozen? ⟨bB, 1, none⟩ = false := cFz hXb 1
       have g'2 : wc6.frozen? ⟨bB, 2, none⟩ = false := cFz hXb 2
       have g'3 : wc6.frozen? ⟨bB, 3, none⟩ = false := cFz hXb 3
       have g'4 : wc6.frozen? ⟨bB, 4, none⟩ = false := cFz hXb 4
       have g'5 : wc6.frozen? ⟨bB, 5, none⟩ = false := cFz hXb 5
       have g'6 : wc6.frozen? ⟨bB, 6, none⟩ = false := cFz hXb 6
       have g'7 : wc6.frozen? ⟨bB, 7, none⟩ = false := cFz hXb 7
       have g'8 : wc6.frozen? ⟨bB, 8, none⟩ = false := cFz hXb 8
       have g'9 : wc6.frozen? ⟨bB, 9, none⟩ = false := cFz hXb 9
       obtain ⟨V, hV, hVX, hVO, hVB⟩ := store10 (.int .i64 y.kind) (.int .i64 y.level) (.slice s.ea s.el s.ec) (.int .i64 y.hb) (.string y.hr) (.int .i64 y.cr) (.int .i64 y.cc) (.slice s.ca s.cl s.cc) (.int .i64 y.gf) (.slice s.ga s.gl s.gc) hXb
       have HO : Hid (V.heap[bB]? = some (.cells #[.int .i64 y.kind, .int .i64 y.level, .slice s.ea s.el s.ec, .int .i64 y.hb, .string y.hr, .int .i64 y.cr, .int .i64 y.cc, .slice s.ca s.cl s.cc, .int .i64 y.gf, .slice s.ga s.gl s.gc] 39 (0, 0)) ∧ s.At V.heap.size V y ∧ Below w7.heap.size w7 V) := ⟨hVX, at_apart hsA hXb (fun i u => noU_zero u) hVO, hVB _ _ (hq6) hbl⟩
       clear hVX hVO hVB
       rw [hbB]
       go_simp
       refine hK_ _ _ ?_
       clear hK_ K_
       refine wpAny_take (i := 12) (v := ?_) rfl (by kernel_rfl) (by kernel_rfl) (by kernel_rfl) (fun _ _ _ h => h) (Or.inl ⟨by rfl, ?_⟩) ?_
       rotate_left
       ·intro w; go_simp; with_reducible rfl
       refine wpAny_done (by kernel_rfl) ?_ _
       go_wp2_with fail
       go_meet
       exact ⟨bB, y, s, rfl, rfl, HYa, HO.out.1, HO.out.2.1, HO.out.2.2⟩
      exact AllReady.nil
     exact AllReady.nil
    exact AllReady.nil
   exact AllReady.nil
  refine AllReady.cons rfl (fun K_ hK_ => ?_) ?_
  ·obtain ⟨Wb, hWb, hXb, hBb, hsb⟩ := boxes1 (w7.drew) #[.int .i64 0, .int .i64 0, .slice none 0 0, .int .i64 0, .string ⟨#[]⟩, .int .i64 0, .int .i64 0, .slice none 0 0, .int .i64 0, .slice none 0 0] 39
   have hqb : Below w7.heap.size w7 Wb := ((Below.refl w7.heap.size w7).drew).trans (hBb.mono ((Below.refl w7.heap.size w7).drew).size)
   have hXkb := known hBb (Nat.le_refl _) hXk0
   go_simp
   refine hK_ _ _ ?_
   clear hK_ K_
   refine wpAny_ready (rs := [0, 4]) (by kernel_rfl) (by simp) ?_
   refine AllReady.cons rfl (fun K_ hK_ => ?_) ?_
   ·skip
    have n0 : Wb.cell? ⟨w.heap.size, 0, none⟩ = some (.int .u64 G.next) := cCc hXkb 0
    have n1 : Wb.cell? ⟨w.heap.size, 1, none⟩ = some (.slice a1 l1 cc1) := cCc hXkb 1
    go_simp
    refine hK_ _ _ ?_
    clear hK_ K_
    refine wpAny_ready (rs := [4]) (by kernel_rfl) (by simp) ?_
    refine AllReady.cons rfl (fun K_ hK_ => ?_) ?_
    ·go_simp
     refine (cut_any sc _).mono ?_
     rintro e wc4 ⟨rfl, hb4⟩
     have hq4 : Below w7.heap.size w7 wc4 := (hqb).trans (hb4.mono (hqb).size)
     have hXb := known hb4 (Nat.le_refl _) hXb
     have hXk4 := known hb4 (Nat.le_refl _) hXkb
     refine hK_ _ _ ?_
     clear hK_ K_
     refine wpAny_ready (rs := [6]) (by kernel_rfl) (by simp) ?_
     refine AllReady.cons rfl (fun K_ hK_ => ?_) ?_
     ·go_simp
      refine (HRA.out _ (HQW.out _ (hq4))).mono ?_
      rintro e wc6 ⟨y, s, hy, rfl, hsA, hb6⟩
      have HYa := Lib.hid hy
      clear hy
      have hq6 : Below w7.heap.size w7 wc6 := (hq4).trans (hb6.mono (hq4).size)
      have hXb := known hb6 (Nat.le_refl _) hXb
      have hXk6 := known hb6 (Nat.le_refl _) hXk4
      refine hK_ _ _ ?_
      clear hK_ K_
      refine wpAny_take (i := 7) (v := ?_) rfl (by kernel_rfl) (by kernel_rfl) (by kernel_rfl) (fun _ _ _ h => h) (Or.inl ⟨by rfl, ?_⟩) ?_
      rotate_left
      ·intro w; go_simp; with_reducible rfl
      refine wpAny_take (i := 8) (v := ?_) rfl (by kernel_rfl) (by kernel_rfl) (by kernel_rfl) (fun _ _ _ h => h) (Or.inl ⟨by rfl, ?_⟩) ?_
      rotate_left
      ·intro w; go_simp; with_reducible rfl
      refine wpAny_take (i := 9) (v := ?_) rfl (by kernel_rfl) (by kernel_rfl) (by kernel_rfl) (fun _ _ _ h => h) (Or.inl ⟨by rfl, ?_⟩) ?_
      rotate_left
      ·intro w; go_simp; with_reducible rfl
      refine wpAny_ready (rs := [11]) (by kernel_rfl) (by simp) ?_
      refine AllReady.cons rfl (fun K_ hK_ => ?_) ?_
      ·obtain ⟨bB, hbB⟩ : ∃ bB, (w7.drew).heap.size = bB := ⟨_, rfl⟩
       rw [hbB] at hXb
       have hbl : w7.heap.size ≤ bB := by rw [← hbB]; exact ((Below.refl w7.heap.size w7).drew).size
       have f0 : wc6.cell? ⟨bB, 0, none⟩ = some (.int .i64 0) := cCc hXb 0
       have f1 : wc6.cell? ⟨bB, 1, none⟩ = some (.int .i64 0) := cCc hXb 1
       have f2 : wc6.cell? ⟨bB, 2, none⟩ = some (.slice none 0 0) := cCc hXb 2
       have f3 : wc6.cell? ⟨bB, 3, none⟩ = some (.int .i64 0) := cCc hXb 3
       have f4 : wc6.cell? ⟨bB, 4, none⟩ = some (.string ⟨#[]⟩) := cCc hXb 4
       have f5 : wc6.cell? ⟨bB, 5, none⟩ = some (.int .i64 0) := cCc hXb 5
       have f6 : wc6.cell? ⟨bB, 6, none⟩ = some (.int .i64 0) := cCc hXb 6
       have f7 : wc6.cell? ⟨bB, 7, none⟩ = some (.slice none 0 0) := cCc hXb 7
       have f8 : wc6.cell? ⟨bB, 8, none⟩ = some (.int .i64 0) := cCc hXb 8
       have f9 : wc6.cell? ⟨bB, 9, none⟩ = some (.slice none 0 0) := cCc hXb 9
       have g'0 : wc6.frozen? ⟨bB, 0, none⟩ = false := cFz hXb 0
       have g'1 : wc6.frozen? ⟨bB, 1, none⟩ = false := cFz hXb 1
       have g'2 : wc6.frozen? ⟨bB, 2, none⟩ = false := cFz hXb 2
       have g'3 : wc6.frozen? ⟨bB, 3, none⟩ = false := cFz hXb 3
       have g'4 : wc6.frozen? ⟨bB, 4, none⟩ = false := cFz hXb 4
       have g'5 : wc6.frozen? ⟨bB, 5, none⟩ = false := cFz hXb 5
       have g'6 : wc6.frozen? ⟨bB, 6, none⟩ = false := cFz hXb 6
       have g'7 : wc6.frozen? ⟨bB, 7, none⟩ = false := cFz hXb 7
       have g'8 : wc6.frozen? ⟨bB, 8, none⟩ = false := cFz hXb 8
       have g'9 : wc6.frozen? ⟨bB, 9, none⟩ = false := cFz hXb 9
       obtain ⟨V, hV, hVX, hVO, hVB⟩ := store10 (.int .i64 y.kind) (.int .i64 y.level) (.slice s.ea s.el s.ec) (.int .i64 y.hb) (.string y.hr) (.int .i64 y.cr) (.int .i64 y.cc) (.slice s.ca s.cl s.cc) (.int .i64 y.gf) (.slice s.ga s.gl s.gc) hXb
       have HO : Hid (V.heap[bB]? = some (.cells #[.int .i64 y.kind, .int .i64 y.level, .slice s.ea s.el s.ec, .int .i64 y.hb, .string y.hr, .int .i64 y.cr, .int .i64 y.cc, .slice s.ca s.cl s.cc, .int .i64 y.gf, .slice s.ga s.gl s.gc] 39 (0, 0)) ∧ s.At V.heap.size V y ∧ Below w7.heap.size w7 V) := ⟨hVX, at_apart hsA hXb (fun i u => noU_zero u) hVO, hVB _ _ (hq6) hbl⟩
       clear hVX hVO hVB
       first | rw [hbB] | rw [show w7.heap.size = bB from hbB]
       go_simp
       refine hK_ _ _ ?_
       clear hK_ K_
       refine wpAny_take (i := 12) (v := ?_) rfl (by kernel_rfl) (by kernel_rfl) (by kernel_rfl) (fun _ _ _ h => h) (Or.inl ⟨by rfl, ?_⟩) ?_
       rotate_left
       ·intro w; go_simp; with_reducible rfl
       refine wpAny_done (by kernel_rfl) ?_ _
       go_wp2_with fail
       go_meet
       exact ⟨bB, y, s, rfl, rfl, HYa, HO.out.1, HO.out.2.1, HO.out.2.2⟩
      exact AllReady.nil
     exact AllReady.nil
    exact AllReady.nil
   refine AllReady.cons rfl (fun K_ hK_ => ?_) ?_
   ·go_simp
    refine (cut_any sc _).mono ?_
    rintro e wc4 ⟨rfl, hb4⟩
    have hq4 : Below w7.heap.size w7 wc4 := (hqb).trans (hb4.mono (hqb).size)
    have hXb := known hb4 (Nat.le_refl _) hXb
    have hXk4 := known hb4 (Nat.le_refl _) hXkb
    refine hK_ _ _ ?_
    clear hK_ K_
    refine wpAny_ready (rs := [0]) (by kernel_rfl) (by simp) ?_
    refine AllReady.cons rfl (fun K_ hK_ => ?_) ?_
    ·skip
     have n0 : wc4.cell? ⟨w.heap.size, 0, none⟩ = some (.int .u64 G.next) := cCc hXk4 0
     have n1 : wc4.cell? ⟨w.heap.size, 1, none⟩ = some (.slice a1 l1 cc1) := cCc hXk4 1
     go_simp
     refine hK_ _ _ ?_
     clear hK_ K_
     refine wpAny_ready (rs := [6]) (by kernel_rfl) (by simp) ?_
     refine AllReady.cons rfl (fun K_ hK_ => ?_) ?_
     ·go_simp
      refine (HRA.out _ (HQW.out _ (hq4))).mono ?_
      rintro e wc6 ⟨y, s, hy, rfl, hsA, hb6⟩
      have HYa := Lib.hid hy
      clear hy
      have hq6 : Below w7.heap.size w7 wc6 := (hq4).trans (hb6.mono (hq4).size)
      have hXb := known hb6 (Nat.le_refl _) hXb
      have hXk6 := known hb6 (Nat.le_refl _) hXk4
      refine hK_ _ _ ?_
      clear hK_ K_
      refine wpAny_take (i := 7) (v := ?_) rfl (by kernel_rfl) (by kernel_rfl) (by kernel_rfl) (fun _ _ _ h => h) (Or.inl ⟨by rfl, ?_⟩) ?_
      rotate_left
      ·intro w; go_simp; with_reducible rfl
      refine wpAny_take (i := 8) (v := ?_) rfl (by kernel_rfl) (by kernel_rfl) (by kernel_rfl) (fun _ _ _ h => h) (Or.inl ⟨by rfl, ?_⟩) ?_
      rotate_left
      ·intro w; go_simp; with_reducible rfl
      refine wpAny_take (i := 9) (v := ?_) rfl (by kernel_rfl) (by kernel_rfl) (by kernel_rfl) (fun _ _ _ h => h) (Or.inl ⟨by rfl, ?_⟩) ?_
      rotate_left
      ·intro w; go_simp; with_reducible rfl
      refine wpAny_ready (rs := [11]) (by kernel_rfl) (by simp) ?_
      refine AllReady.cons rfl (fun K_ hK_ => ?_) ?_
      ·obtain ⟨bB, hbB⟩ : ∃ bB, (w7.drew).heap.size = bB := ⟨_, rfl⟩
       rw [hbB] at hXb
       have hbl : w7.heap.size ≤ bB := by rw [← hbB]; exact ((Below.refl w7.heap.size w7).drew).size
       have f0 : wc6.cell? ⟨bB, 0, none⟩ = some (.int .i64 0) := cCc hXb 0
       have f1 : wc6.cell? ⟨bB, 1, none⟩ = some (.int .i64 0) := cCc hXb 1
       have f2 : wc6.cell? ⟨bB, 2, none⟩ = some (.slice none 0 0) := cCc hXb 2
       have f3 : wc6.cell? ⟨bB, 3, none⟩ = some (.int .i64 0) := cCc hXb 3
       have f4 : wc6.cell? ⟨bB, 4, none⟩ = some (.string ⟨#[]⟩) := cCc hXb 4
       have f5 : wc6.cell? ⟨bB, 5, none⟩ = some (.int .i64 0) := cCc hXb 5
       have f6 : wc6.cell? ⟨bB, 6, none⟩ = some (.int .i64 0) := cCc hXb 6
       have f7 : wc6.cell? ⟨bB, 7, none⟩ = some (.slice none 0 0) := cCc hXb 7
       have f8 : wc6.cell? ⟨bB, 8, none⟩ = some (.int .i64 0) := cCc hXb 8
       have f9 : wc6.cell? ⟨bB, 9, none⟩ = some (.slice none 0 0) := cCc hXb 9
       have g'0 : wc6.frozen? ⟨bB, 0, none⟩ = false := cFz hXb 0
       have g'1 : wc6.frozen? ⟨bB, 1, none⟩ = false := cFz hXb 1
       have g'2 : wc6.frozen? ⟨bB, 2, none⟩ = false := cFz hXb 2
       have g'3 : wc6.frozen? ⟨bB, 3, none⟩ = false := cFz hXb 3
       have g'4 : wc6.frozen? ⟨bB, 4, none⟩ = false := cFz hXb 4
       have g'5 : wc6.frozen? ⟨bB, 5, none⟩ = false := cFz hXb 5
       have g'6 : wc6.frozen? ⟨bB, 6, none⟩ = false := cFz hXb 6
       have g'7 : wc6.frozen? ⟨bB, 7, none⟩ = false := cFz hXb 7
       have g'8 : wc6.frozen? ⟨bB, 8, none⟩ = false := cFz hXb 8
       have g'9 : wc6.frozen? ⟨bB, 9, none⟩ = false := cFz hXb 9
       obtain ⟨V, hV, hVX, hVO, hVB⟩ := store10 (.int .i64 y.kind) (.int .i64 y.level) (.slice s.ea s.el s.ec) (.int .i64 y.hb) (.string y.hr) (.int .i64 y.cr) (.int .i64 y.cc) (.slice s.ca s.cl s.cc) (.int .i64 y.gf) (.slice s.ga s.gl s.gc) hXb
       have HO : Hid (V.heap[bB]? = some (.cells #[.int .i64 y.kind, .int .i64 y.level, .slice s.ea s.el s.ec, .int .i64 y.hb, .string y.hr, .int .i64 y.cr, .int .i64 y.cc, .slice s.ca s.cl s.cc, .int .i64 y.gf, .slice s.ga s.gl s.gc] 39 (0, 0)) ∧ s.At V.heap.size V y ∧ Below w7.heap.size w7 V) := ⟨hVX, at_apart hsA hXb (fun i u => noU_zero u) hVO, hVB _ _ (hq6) hbl⟩
       clear hVX hVO hVB
       first | rw [hbB] | rw [show w7.heap.size = bB from hbB]
       go_simp
       refine hK_ _ _ ?_
       clear hK_ K_
       refine wpAny_take (i := 12) (v := ?_) rfl (by kernel_rfl) (by kernel_rfl) (by kernel_rfl) (fun _ _ _ h => h) (Or.inl ⟨by rfl, ?_⟩) ?_
       rotate_left
       ·intro w; go_simp; with_reducible rfl
       refine wpAny_done (by kernel_rfl) ?_ _
       go_wp2_with fail
       go_meet
       exact ⟨bB, y, s, rfl, rfl, HYa, HO.out.1, HO.out.2.1, HO.out.2.2⟩
      exact AllReady.nil
     exact AllReady.nil
    exact AllReady.nil
   exact AllReady.nil
  exact AllReady.nil
 case rest =>
  obtain ⟨w8, hw8⟩ : ∃ w8, w8 = wc := ⟨_, rfl⟩
  subst hw8
  obtain ⟨b2, y2, s2, rfl, rfl, HY2, HX2, HA2, HB8⟩ := hcut
  have HX8 : Hid (w8.heap[w.heap.size]? = some (.cells #[.int .u64 G.next, .slice a1 l1 cc1] 49 (0, 0))) := known HB8.out (Nat.le_refl _) HX7.out
  replace HQW : Hid (∀ W, Below w8.heap.size w8 W → Below w7.heap.size w7 W) := fun W h => HB8.out.trans (h.mono HB8.out.size)
  clear HX7
  rw [HER.out]
  go_wp2_with fail
  go_cut [18, 19] (fun s12 s13 wx => ∃ (b : Nat) (y : Sk) (s : SS), s12 = .pointer (some ⟨b, 0, none⟩) ∧ s13 = .int .i64 (sumE (lentE G L sk) kind) ∧ Hid (y = sumSk kind (lentE G L sk) (pickAt L kind (lentR G tn L sk))) ∧ Hid (wx.heap[b]? = some (.cells #[.int .i64 y.kind, .int .i64 y.level, .slice s.ea s.el s.ec, .int .i64 y.hb, .string y.hr, .int .i64 y.cr, .int .i64 y.cc, .slice s.ca s.cl s.cc, .int .i64 y.gf, .slice s.ga s.gl s.gc] 39 (0, 0))) ∧ Hid (s.At wx.heap.size wx y) ∧ Hid (Below w8.heap.size w8 wx))
  case first =>
   refine wp_region_any (by kernel_rfl) ?_
   change wpAny _ _ _ _ _ _ _ (World.drew _)
   have hXk0z : (w8.drew).heap[w.heap.size]? = some (.cells #[.int .u64 G.next, .slice a1 l1 cc1] 49 (0, 0)) := HX8.out
   refine wpAny_take (i := 1) (v := ?_) rfl (by kernel_rfl) (by kernel_rfl) (by kernel_rfl) (fun _ _ _ h => h) (Or.inl ⟨by rfl, ?_⟩) ?_
   rotate_left
   ·intro w; go_simp; with_reducible rfl
   refine wpAny_take (i := 2) (v := ?_) rfl (by kernel_rfl) (by kernel_rfl) (by kernel_rfl) (fun _ _ _ h => h) (Or.inl ⟨by rfl, ?_⟩) ?_
   rotate_left
   ·intro w; go_simp; with_reducible rfl
   refine wpAny_take (i := 3) (v := ?_) rfl (by kernel_rfl) (by kernel_rfl) (by kernel_rfl) (fun _ _ _ h => h) (Or.inl ⟨by rfl, ?_⟩) ?_
   rotate_left
   ·intro w; go_simp; with_reducible rfl
   refine wpAny_take (i := 5) (v := ?_) rfl (by kernel_rfl) (by kernel_rfl) (by kernel_rfl) (fun _ _ _ h => h) (Or.inl ⟨by rfl, ?_⟩) ?_
   rotate_left
   ·intro w; go_simp; with_reducible rfl
   refine wpAny_ready (rs := [0, 4, 10]) (by kernel_rfl) (by simp) ?_
   refine AllReady.cons rfl (fun K_ hK_ => ?_) ?_
   ·skip
    have n0 : w8.drew.cell? ⟨w.heap.size, 0, none⟩ = some (.int .u64 G.next) := cCc hXk0z 0
    have n1 : w8.drew.cell? ⟨w.heap.size, 1, none⟩ = some (.slice a1 l1 cc1) := cCc hXk0z 1
    go_simp
    refine hK_ _ _ ?_
    clear hK_ K_
    refine wpAny_ready (rs := [4, 10]) (by kernel_rfl) (by simp) ?_
    refine AllReady.cons rfl (fun K_ hK_ => ?_) ?_
    ·go_simp
     refine (cut_any sc _).mono ?_
     rintro e wc4z ⟨rfl, hb4z⟩
     have hq4z : Below w8.heap.size w8 wc4z := ((Below.refl w8.heap.size w8).drew).trans (hb4z.mono ((Below.refl w8.heap.size w8).drew).size)
     have hXk4z := known hb4z (Nat.le_refl _) hXk0z
     refine hK_ _ _ ?_
     clear hK_ K_
     refine wpAny_ready (rs := [6, 10]) (by kernel_rfl) (by simp) ?_
     refine AllReady.cons rfl (fun K_ hK_ => ?_) ?_
     ·go_simp
      refine (HRB.out _ (HQW.out _ (hq4z))).mono ?_
      rintro e wc6z ⟨y, s, hy, rfl, hsA, hb6z⟩
      have HYa := Lib.hid hy
      clear hy
      have hq6z : Below w8.heap.size w8 wc6z := (hq4z).trans (hb6z.mono (hq4z).size)
      have hXk6z := known hb6z (Nat.le_refl _) hXk4z
      refine hK_ _ _ ?_
      clear hK_ K_
      refine wpAny_take (i := 7) (v := ?_) rfl (by kernel_rfl) (by kernel_rfl) (by kernel_rfl) (fun _ _ _ h => h) (Or.inl ⟨by rfl, ?_⟩) ?_
      rotate_left
      ·intro w; go_simp; with_reducible rfl
      refine wpAny_take (i := 8) (v := ?_) rfl (by kernel_rfl) (by kernel_rfl) (by kernel_rfl) (fun _ _ _ h => h) (Or.inl ⟨by rfl, ?_⟩) ?_
      rotate_left
      ·intro w; go_simp; with_reducible rfl
      refine wpAny_take (i := 9) (v := ?_) rfl (by kernel_rfl) (by kernel_rfl) (by kernel_rfl) (fun _ _ _ h => h) (Or.inl ⟨by rfl, ?_⟩) ?_
      rotate_left
      ·intro w; go_simp; with_reducible rfl
      refine wpAny_ready (rs := [10]) (by kernel_rfl) (by simp) ?_
      refine AllReady.cons rfl (fun K_ hK_ => ?_) ?_
      ·obtain ⟨Wbz, hWbz, hXbz, hBbz, hsbz⟩ := boxes1 (wc6z) #[.int .i64 0, .int .i64 0, .slice none 0 0, .int .i64 0, .string ⟨#[]⟩, .int .i64 0, .int .i64 0, .slice none 0 0, .int .i64 0, .slice none 0 0] 39
       have hqbz : Below w8.heap.size w8 Wbz := (hq6z).trans (hBbz.mono (hq6z).size)
       have hXkbz := known hBbz (Nat.le_refl _) hXk6z
       replace hsA := hsA.go hBbz
       go_simp
       refine hK_ _ _ ?_
       clear hK_ K_
       refine wpAny_ready (rs := [11]) (by kernel_rfl) (by simp) ?_
       refine AllReady.cons rfl (fun K_ hK_ => ?_) ?_
       ·obtain ⟨bB, hbB⟩ : ∃ bB, (wc6z).heap.size = bB := ⟨_, rfl⟩
        rw [hbB] at hXbz
        have hbl : w8.heap.size ≤ bB := by rw [← hbB]; exact (hq6z).size
        have f0 : Wbz.cell? ⟨bB, 0, none⟩ = some (.int .i64 0) := cCc hXbz 0
        have f1 : Wbz.cell? ⟨bB, 1, none⟩ = some (.int .i64 0) := cCc hXbz 1
        have f2 : Wbz.cell? ⟨bB, 2, none⟩ = some (.slice none 0 0) := cCc hXbz 2
        have f3 : Wbz.cell? ⟨bB, 3, none⟩ = some (.int .i64 0) := cCc hXbz 3
        have f4 : Wbz.cell? ⟨bB, 4, none⟩ = some (.string ⟨#[]⟩) := cCc hXbz 4
        have f5 : Wbz.cell? ⟨bB, 5, none⟩ = some (.int .i64 0) := cCc hXbz 5
        have f6 : Wbz.cell? ⟨bB, 6, none⟩ = some (.int .i64 0) := cCc hXbz 6
        have f7 : Wbz.cell? ⟨bB, 7, none⟩ = some (.slice none 0 0) := cCc hXbz 7
        have f8 : Wbz.cell? ⟨bB, 8, none⟩ = some (.int .i64 0) := cCc hXbz 8
        have f9 : Wbz.cell? ⟨bB, 9, none⟩ = some (.slice none 0 0) := cCc hXbz 9
        have g'0 : Wbz.frozen? ⟨bB, 0, none⟩ = false := cFz hXbz 0
        have g'1 : Wbz.frozen? ⟨bB, 1, none⟩ = false := cFz hXbz 1
        have g'2 : Wbz.frozen? ⟨bB, 2, none⟩ = false := cFz hXbz 2
        have g'3 : Wbz.frozen? ⟨bB, 3, none⟩ = false := cFz hXbz 3
        have g'4 : Wbz.frozen? ⟨bB, 4, none⟩ = false := cFz hXbz 4
        have g'5 : Wbz.frozen? ⟨bB, 5, none⟩ = false := cFz hXbz 5
        have g'6 : Wbz.frozen? ⟨bB, 6, none⟩ = false := cFz hXbz 6
        have g'7 : Wbz.frozen? ⟨bB, 7, none⟩ = false := cFz hXbz 7
        have g'8 : Wbz.frozen? ⟨bB, 8, none⟩ = false := cFz hXbz 8
        have g'9 : Wbz.frozen? ⟨bB, 9, none⟩ = false := cFz hXbz 9
        obtain ⟨V, hV, hVX, hVO, hVB⟩ := store10 (.int .i64 y.kind) (.int .i64 y.level) (.slice s.ea s.el s.ec) (.int .i64 y.hb) (.string y.hr) (.int .i64 y.cr) (.int .i64 y.cc) (.slice s.ca s.cl s.cc) (.int .i64 y.gf) (.slice s.ga s.gl s.gc) hXbz
        have HO : Hid (V.heap[bB]? = some (.cells #[.int .i64 y.kind, .int .i64 y.level, .slice s.ea s.el s.ec, .int .i64 y.hb, .string y.hr, .int .i64 y.cr, .int .i64 y.cc, .slice s.ca s.cl s.cc, .int .i64 y.gf, .slice s.ga s.gl s.gc] 39 (0, 0)) ∧ s.At V.heap.size V y ∧ Below w8.heap.size w8 V) := ⟨hVX, at_apart hsA hXbz (fun i u => noU_zero u) hVO, hVB _ _ (hqbz) hbl⟩
        clear hVX hVO hVB
        rw [hbB]
        go_simp
        refine hK_ _ _ ?_
        clear hK_ K_
        refine wpAny_take (i := 12) (v := ?_) rfl (by kernel_rfl) (by kernel_rfl) (by kernel_rfl) (fun _ _ _ h => h) (Or.inl ⟨by rfl, ?_⟩) ?_
        rotate_left
        ·intro w; go_simp; with_reducible rfl
        refine wpAny_done (by kernel_rfl) ?_ _
        go_wp2_with fail
        go_meet
        exact ⟨bB, y, s, rfl, rfl, HYa, HO.out.1, HO.out.2.1, HO.out.2.2⟩
       exact AllReady.nil
      exact AllReady.nil
     refine AllReady.cons rfl (fun K_ hK_ => ?_) ?_
     ·obtain ⟨Wbz, hWbz, hXbz, hBbz, hsbz⟩ := boxes1 (wc4z) #[.int .i64 0, .int .i64 0, .slice none 0 0, .int .i64 0, .string ⟨#[]⟩, .int .i64 0, .int .i64 0, .slice none 0 0, .int .i64 0, .slice none 0 0] 39
      have hqbz : Below w8.heap.size w8 Wbz := (hq4z).trans (hBbz.mono (hq4z).size)
      have hXkbz := known hBbz (Nat.le_refl _) hXk4z
      go_simp
      refine hK_ _ _ ?_
      clear hK_ K_
      refine wpAny_ready (rs := [6]) (by kernel_rfl) (by simp) ?_
      refine AllReady.cons rfl (fun K_ hK_ => ?_) ?_
      ·go_simp
       refine (HRB.out _ (HQW.out _ (hqbz))).mono ?_
       rintro e wc6z ⟨y, s, hy, rfl, hsA, hb6z⟩
       have HYa := Lib.hid hy
       clear hy
       have hq6z : Below w8.heap.size w8 wc6z := (hqbz).trans (hb6z.mono (hqbz).size)
       have hXbz := known hb6z (Nat.le_refl _) hXbz
       have hXk6z := known hb6z (Nat.le_refl _) hXkbz
       refine hK_ _ _ ?_
       clear hK_ K_
       refine wpAny_take (i := 7) (v := ?_) rfl (by kernel_rfl) (by kernel_rfl) (by kernel_rfl) (fun _ _ _ h => h) (Or.inl ⟨by rfl, ?_⟩) ?_
       rotate_left
       ·intro w; go_simp; with_reducible rfl
       refine wpAny_take (i := 8) (v := ?_) rfl (by kernel_rfl) (by kernel_rfl) (by kernel_rfl) (fun _ _ _ h => h) (Or.inl ⟨by rfl, ?_⟩) ?_
       rotate_left
       ·intro w; go_simp; with_reducible rfl
       refine wpAny_take (i := 9) (v := ?_) rfl (by kernel_rfl) (by kernel_rfl) (by kernel_rfl) (fun _ _ _ h => h) (Or.inl ⟨by rfl, ?_⟩) ?_
       rotate_left
       ·intro w; go_simp; with_reducible rfl
       refine wpAny_ready (rs := [11]) (by kernel_rfl) (by simp) ?_
       refine AllReady.cons rfl (fun K_ hK_ => ?_) ?_
       ·obtain ⟨bB, hbB⟩ : ∃ bB, (wc4z).heap.size = bB := ⟨_, rfl⟩
        rw [hbB] at hXbz
        have hbl : w8.heap.size ≤ bB := by rw [← hbB]; exact (hq4z).size
        have f0 : wc6z.cell? ⟨bB, 0, none⟩ = some (.int .i64 0) := cCc hXbz 0
        have f1 : wc6z.cell? ⟨bB, 1, none⟩ = some (.int .i64 0) := cCc hXbz 1
        have f2 : wc6z.cell? ⟨bB, 2, none⟩ = some (.slice none 0 0) := cCc hXbz 2
        have f3 : wc6z.cell? ⟨bB, 3, none⟩ = some (.int .i64 0) := cCc hXbz 3
        have f4 : wc6z.cell? ⟨bB, 4, none⟩ = some (.string ⟨#[]⟩) := cCc hXbz 4
        have f5 : wc6z.cell? ⟨bB, 5, none⟩ = some (.int .i64 0) := cCc hXbz 5
        have f6 : wc6z.cell? ⟨bB, 6, none⟩ = some (.int .i64 0) := cCc hXbz 6
        have f7 : wc6z.cell? ⟨bB, 7, none⟩ = some (.slice none 0 0) := cCc hXbz 7
        have f8 : wc6z.cell? ⟨bB, 8, none⟩ = some (.int .i64 0) := cCc hXbz 8
        have f9 : wc6z.cell? ⟨bB, 9, none⟩ = some (.slice none 0 0) := cCc hXbz 9
        have g'0 : wc6z.frozen? ⟨bB, 0, none⟩ = false := cFz hXbz 0
        have g'1 : wc6z.frozen? ⟨bB, 1, none⟩ = false := cFz hXbz 1
        have g'2 : wc6z.frozen? ⟨bB, 2, none⟩ = false := cFz hXbz 2
        have g'3 : wc6z.frozen? ⟨bB, 3, none⟩ = false := cFz hXbz 3
        have g'4 : wc6z.frozen? ⟨bB, 4, none⟩ = false := cFz hXbz 4
        have g'5 : wc6z.frozen? ⟨bB, 5, none⟩ = false := cFz hXbz 5
        have g'6 : wc6z.frozen? ⟨bB, 6, none⟩ = false := cFz hXbz 6
        have g'7 : wc6z.frozen? ⟨bB, 7, none⟩ = false := cFz hXbz 7
        have g'8 : wc6z.frozen? ⟨bB, 8, none⟩ = false := cFz hXbz 8
        have g'9 : wc6z.frozen? ⟨bB, 9, none⟩ = false := cFz hXbz 9
        obtain ⟨V, hV, hVX, hVO, hVB⟩ := store10 (.int .i64 y.kind) (.int .i64 y.level) (.slice s.ea s.el s.ec) (.int .i64 y.hb) (.string y.hr) (.int .i64 y.cr) (.int .i64 y.cc) (.slice s.ca s.cl s.cc) (.int .i64 y.gf) (.slice s.ga s.gl s.gc) hXbz
        have HO : Hid (V.heap[bB]? = some (.cells #[.int .i64 y.kind, .int .i64 y.level, .slice s.ea s.el s.ec, .int .i64 y.hb, .string y.hr, .int .i64 y.cr, .int .i64 y.cc, .slice s.ca s.cl s.cc, .int .i64 y.gf, .slice s.ga s.gl s.gc] 39 (0, 0)) ∧ s.At V.heap.size V y ∧ Below w8.heap.size w8 V) := ⟨hVX, at_apart hsA hXbz (fun i u => noU_zero u) hVO, hVB _ _ (hq6z) hbl⟩
        clear hVX hVO hVB
        rw [hbB]
        go_simp
        refine hK_ _ _ ?_
        clear hK_ K_
        refine wpAny_take (i := 12) (v := ?_) rfl (by kernel_rfl) (by kernel_rfl) (by kernel_rfl) (fun _ _ _ h => h) (Or.inl ⟨by rfl, ?_⟩) ?_
        rotate_left
        ·intro w; go_simp; with_reducible rfl
        refine wpAny_done (by kernel_rfl) ?_ _
        go_wp2_with fail
        go_meet
        exact ⟨bB, y, s, rfl, rfl, HYa, HO.out.1, HO.out.2.1, HO.out.2.2⟩
       exact AllReady.nil
      exact AllReady.nil
     exact AllReady.nil
    refine AllReady.cons rfl (fun K_ hK_ => ?_) ?_
    ·obtain ⟨Wbz, hWbz, hXbz, hBbz, hsbz⟩ := boxes1 (w8.drew) #[.int .i64 0, .int .i64 0, .slice none 0 0, .int .i64 0, .string ⟨#[]⟩, .int .i64 0, .int .i64 0, .slice none 0 0, .int .i64 0, .slice none 0 0] 39
     have hqbz : Below w8.heap.size w8 Wbz := ((Below.refl w8.heap.size w8).drew).trans (hBbz.mono ((Below.refl w8.heap.size w8).drew).size)
     have hXkbz := known hBbz (Nat.le_refl _) hXk0z
     go_simp
     refine hK_ _ _ ?_
     clear hK_ K_
     refine wpAny_ready (rs := [4]) (by kernel_rfl) (by simp) ?_
     refine AllReady.cons rfl (fun K_ hK_ => ?_) ?_
     ·go_simp
      refine (cut_any sc _).mono ?_
      rintro e wc4z ⟨rfl, hb4z⟩
      have hq4z : Below w8.heap.size w8 wc4z := (hqbz).trans (hb4z.mono (hqbz).size)
      have hXbz := known hb4z (Nat.le_refl _) hXbz
      have hXk4z := known hb4z (Nat.le_refl _) hXkbz
      refine hK_ _ _ ?_
      clear hK_ K_
      refine wpAny_ready (rs := [6]) (by kernel_rfl) (by simp) ?_
      refine AllReady.cons rfl (fun K_ hK_ => ?_) ?_
      ·go_simp
       refine (HRB.out _ (HQW.out _ (hq4z))).mono ?_
       rintro e wc6z ⟨y, s, hy, rfl, hsA, hb6z⟩
       have HYa := Lib.hid hy
       clear hy
       have hq6z : Below w8.heap.size w8 wc6z := (hq4z).trans (hb6z.mono (hq4z).size)
       have hXbz := known hb6z (Nat.le_refl _) hXbz
       have hXk6z := known hb6z (Nat.le_refl _) hXk4z
       refine hK_ _ _ ?_
       clear hK_ K_
       refine wpAny_take (i := 7) (v := ?_) rfl (by kernel_rfl) (by kernel_rfl) (by kernel_rfl) (fun _ _ _ h => h) (Or.inl ⟨by rfl, ?_⟩) ?_
       rotate_left
       ·intro w; go_simp; with_reducible rfl
       refine wpAny_take (i := 8) (v := ?_) rfl (by kernel_rfl) (by kernel_rfl) (by kernel_rfl) (fun _ _ _ h => h) (Or.inl ⟨by rfl, ?_⟩) ?_
       rotate_left
       ·intro w; go_simp; with_reducible rfl
       refine wpAny_take (i := 9) (v := ?_) rfl (by kernel_rfl) (by kernel_rfl) (by kernel_rfl) (fun _ _ _ h => h) (Or.inl ⟨by rfl, ?_⟩) ?_
       rotate_left
       ·intro w; go_simp; with_reducible rfl
       refine wpAny_ready (rs := [11]) (by kernel_rfl) (by simp) ?_
       refine AllReady.cons rfl (fun K_ hK_ => ?_) ?_
       ·obtain ⟨bB, hbB⟩ : ∃ bB, (w8.drew).heap.size = bB := ⟨_, rfl⟩
        rw [hbB] at hXbz
        have hbl : w8.heap.size ≤ bB := by rw [← hbB]; exact ((Below.refl w8.heap.size w8).drew).size
        have f0 : wc6z.cell? ⟨bB, 0, none⟩ = some (.int .i64 0) := cCc hXbz 0
        have f1 : wc6z.cell? ⟨bB, 1, none⟩ = some (.int .i64 0) := cCc hXbz 1
        have f2 : wc6z.cell? ⟨bB, 2, none⟩ = some (.slice none 0 0) := cCc hXbz 2
        have f3 : wc6z.cell? ⟨bB, 3, none⟩ = some (.int .i64 0) := cCc hXbz 3
        have f4 : wc6z.cell? ⟨bB, 4, none⟩ = some (.string ⟨#[]⟩) := cCc hXbz 4
        have f5 : wc6z.cell? ⟨bB, 5, none⟩ = some (.int .i64 0) := cCc hXbz 5
        have f6 : wc6z.cell? ⟨bB, 6, none⟩ = some (.int .i64 0) := cCc hXbz 6
        have f7 : wc6z.cell? ⟨bB, 7, none⟩ = some (.slice none 0 0) := cCc hXbz 7
        have f8 : wc6z.cell? ⟨bB, 8, none⟩ = some (.int .i64 0) := cCc hXbz 8
        have f9 : wc6z.cell? ⟨bB, 9, none⟩ = some (.slice none 0 0) := cCc hXbz 9
        have g'0 : wc6z.frozen? ⟨bB, 0, none⟩ = false := cFz hXbz 0
        have g'1 : wc6z.frozen? ⟨bB, 1, none⟩ = false := cFz hXbz 1
        have g'2 : wc6z.frozen? ⟨bB, 2, none⟩ = false := cFz hXbz 2
        have g'3 : wc6z.frozen? ⟨bB, 3, none⟩ = false := cFz hXbz 3
        have g'4 : wc6z.frozen? ⟨bB, 4, none⟩ = false := cFz hXbz 4
        have g'5 : wc6z.frozen? ⟨bB, 5, none⟩ = false := cFz hXbz 5
        have g'6 : wc6z.frozen? ⟨bB, 6, none⟩ = false := cFz hXbz 6
        have g'7 : wc6z.frozen? ⟨bB, 7, none⟩ = false := cFz hXbz 7
        have g'8 : wc6z.frozen? ⟨bB, 8, none⟩ = false := cFz hXbz 8
        have g'9 : wc6z.frozen? ⟨bB, 9, none⟩ = false := cFz hXbz 9
        obtain ⟨V, hV, hVX, hVO, hVB⟩ := store10 (.int .i64 y.kind) (.int .i64 y.level) (.slice s.ea s.el s.ec) (.int .i64 y.hb) (.string y.hr) (.int .i64 y.cr) (.int .i64 y.cc) (.slice s.ca s.cl s.cc) (.int .i64 y.gf) (.slice s.ga s.gl s.gc) hXbz
        have HO : Hid (V.heap[bB]? = some (.cells #[.int .i64 y.kind, .int .i64 y.level, .slice s.ea s.el s.ec, .int .i64 y.hb, .string y.hr, .int .i64 y.cr, .int .i64 y.cc, .slice s.ca s.cl s.cc, .int .i64 y.gf, .slice s.ga s.gl s.gc] 39 (0, 0)) ∧ s.At V.heap.size V y ∧ Below w8.heap.size w8 V) := ⟨hVX, at_apart hsA hXbz (fun i u => noU_zero u) hVO, hVB _ _ (hq6z) hbl⟩
        clear hVX hVO hVB
        first | rw [hbB] | rw [show w8.heap.size = bB from hbB]
        go_simp
        refine hK_ _ _ ?_
        clear hK_ K_
        refine wpAny_take (i := 12) (v := ?_) rfl (by kernel_rfl) (by kernel_rfl) (by kernel_rfl) (fun _ _ _ h => h) (Or.inl ⟨by rfl, ?_⟩) ?_
        rotate_left
        ·intro w; go_simp; with_reducible rfl
        refine wpAny_done (by kernel_rfl) ?_ _
        go_wp2_with fail
        go_meet
        exact ⟨bB, y, s, rfl, rfl, HYa, HO.out.1, HO.out.2.1, HO.out.2.2⟩
       exact AllReady.nil
      exact AllReady.nil
     exact AllReady.nil
    exact AllReady.nil
   refine AllReady.cons rfl (fun K_ hK_ => ?_) ?_
   ·go_simp
    refine (cut_any sc _).mono ?_
    rintro e wc4z ⟨rfl, hb4z⟩
    have hq4z : Below w8.heap.size w8 wc4z := ((Below.refl w8.heap.size w8).drew).trans (hb4z.mono ((Below.refl w8.heap.size w8).drew).size)
    have hXk4z := known hb4z (Nat.le_refl _) hXk0z
    refine hK_ _ _ ?_
    clear hK_ K_
    refine wpAny_ready (rs := [0, 10]) (by kernel_rfl) (by simp) ?_
    refine AllReady.cons rfl (fun K_ hK_ => ?_) ?_
    ·skip
     have n0 : wc4z.cell? ⟨w.heap.size, 0, none⟩ = some (.int .u64 G.next) := cCc hXk4z 0
     have n1 : wc4z.cell? ⟨w.heap.size, 1, none⟩ = some (.slice a1 l1 cc1) := cCc hXk4z 1
     go_simp
     refine hK_ _ _ ?_
     clear hK_ K_
     refine wpAny_ready (rs := [6, 10]) (by kernel_rfl) (by simp) ?_
     refine AllReady.cons rfl (fun K_ hK_ => ?_) ?_
     ·go_simp
      refine (HRB.out _ (HQW.out _ (hq4z))).mono ?_
      rintro e wc6z ⟨y, s, hy, rfl, hsA, hb6z⟩
      have HYa := Lib.hid hy
      clear hy
      have hq6z : Below w8.heap.size w8 wc6z := (hq4z).trans (hb6z.mono (hq4z).size)
      have hXk6z := known hb6z (Nat.le_refl _) hXk4z
      refine hK_ _ _ ?_
      clear hK_ K_
      refine wpAny_take (i := 7) (v := ?_) rfl (by kernel_rfl) (by kernel_rfl) (by kernel_rfl) (fun _ _ _ h => h) (Or.inl ⟨by rfl, ?_⟩) ?_
      rotate_left
      ·intro w; go_simp; with_reducible rfl
      refine wpAny_take (i := 8) (v := ?_) rfl (by kernel_rfl) (by kernel_rfl) (by kernel_rfl) (fun _ _ _ h => h) (Or.inl ⟨by rfl, ?_⟩) ?_
      rotate_left
      ·intro w; go_simp; with_reducible rfl
      refine wpAny_take (i := 9) (v := ?_) rfl (by kernel_rfl) (by kernel_rfl) (by kernel_rfl) (fun _ _ _ h => h) (Or.inl ⟨by rfl, ?_⟩) ?_
      rotate_left
      ·intro w; go_simp; with_reducible rfl
      refine wpAny_ready (rs := [10]) (by kernel_rfl) (by simp) ?_
      refine AllReady.cons rfl (fun K_ hK_ => ?_) ?_
      ·obtain ⟨Wbz, hWbz, hXbz, hBbz, hsbz⟩ := boxes1 (wc6z) #[.int .i64 0, .int .i64 0, .slice none 0 0, .int .i64 0, .string ⟨#[]⟩, .int .i64 0, .int .i64 0, .slice none 0 0, .int .i64 0, .slice none 0 0] 39
       have hqbz : Below w8.heap.size w8 Wbz := (hq6z).trans (hBbz.mono (hq6z).size)
       have hXkbz := known hBbz (Nat.le_refl _) hXk6z
       replace hsA := hsA.go hBbz
       go_simp
       refine hK_ _ _ ?_
       clear hK_ K_
       refine wpAny_ready (rs := [11]) (by kernel_rfl) (by simp) ?_
       refine AllReady.cons rfl (fun K_ hK_ => ?_) ?_
       ·obtain ⟨bB, hbB⟩ : ∃ bB, (wc6z).heap.size = bB := ⟨_, rfl⟩
        rw [hbB] at hXbz
        have hbl : w8.heap.size ≤ bB := by rw [← hbB]; exact (hq6z).size
        have f0 : Wbz.cell? ⟨bB, 0, none⟩ = some (.int .i64 0) := cCc hXbz 0
        have f1 : Wbz.cell? ⟨bB, 1, none⟩ = some (.int .i64 0) := cCc hXbz 1
        have f2 : Wbz.cell? ⟨bB, 2, none⟩ = some (.slice none 0 0) := cCc hXbz 2
        have f3 : Wbz.cell? ⟨bB, 3, none⟩ = some (.int .i64 0) := cCc hXbz 3
        have f4 : Wbz.cell? ⟨bB, 4, none⟩ = some (.string ⟨#[]⟩) := cCc hXbz 4
        have f5 : Wbz.cell? ⟨bB, 5, none⟩ = some (.int .i64 0) := cCc hXbz 5
        have f6 : Wbz.cell? ⟨bB, 6, none⟩ = some (.int .i64 0) := cCc hXbz 6
        have f7 : Wbz.cell? ⟨bB, 7, none⟩ = some (.slice none 0 0) := cCc hXbz 7
        have f8 : Wbz.cell? ⟨bB, 8, none⟩ = some (.int .i64 0) := cCc hXbz 8
        have f9 : Wbz.cell? ⟨bB, 9, none⟩ = some (.slice none 0 0) := cCc hXbz 9
        have g'0 : Wbz.frozen? ⟨bB, 0, none⟩ = false := cFz hXbz 0
        have g'1 : Wbz.frozen? ⟨bB, 1, none⟩ = false := cFz hXbz 1
        have g'2 : Wbz.frozen? ⟨bB, 2, none⟩ = false := cFz hXbz 2
        have g'3 : Wbz.frozen? ⟨bB, 3, none⟩ = false := cFz hXbz 3
        have g'4 : Wbz.frozen? ⟨bB, 4, none⟩ = false := cFz hXbz 4
        have g'5 : Wbz.frozen? ⟨bB, 5, none⟩ = false := cFz hXbz 5
        have g'6 : Wbz.frozen? ⟨bB, 6, none⟩ = false := cFz hXbz 6
        have g'7 : Wbz.frozen? ⟨bB, 7, none⟩ = false := cFz hXbz 7
        have g'8 : Wbz.frozen? ⟨bB, 8, none⟩ = false := cFz hXbz 8
        have g'9 : Wbz.frozen? ⟨bB, 9, none⟩ = false := cFz hXbz 9
        obtain ⟨V, hV, hVX, hVO, hVB⟩ := store10 (.int .i64 y.kind) (.int .i64 y.level) (.slice s.ea s.el s.ec) (.int .i64 y.hb) (.string y.hr) (.int .i64 y.cr) (.int .i64 y.cc) (.slice s.ca s.cl s.cc) (.int .i64 y.gf) (.slice s.ga s.gl s.gc) hXbz
        have HO : Hid (V.heap[bB]? = some (.cells #[.int .i64 y.kind, .int .i64 y.level, .slice s.ea s.el s.ec, .int .i64 y.hb, .string y.hr, .int .i64 y.cr, .int .i64 y.cc, .slice s.ca s.cl s.cc, .int .i64 y.gf, .slice s.ga s.gl s.gc] 39 (0, 0)) ∧ s.At V.heap.size V y ∧ Below w8.heap.size w8 V) := ⟨hVX, at_apart hsA hXbz (fun i u => noU_zero u) hVO, hVB _ _ (hqbz) hbl⟩
        clear hVX hVO hVB
        rw [hbB]
        go_simp
        refine hK_ _ _ ?_
        clear hK_ K_
        refine wpAny_take (i := 12) (v := ?_) rfl (by kernel_rfl) (by kernel_rfl) (by kernel_rfl) (fun _ _ _ h => h) (Or.inl ⟨by rfl, ?_⟩) ?_
        rotate_left
        ·intro w; go_simp; with_reducible rfl
        refine wpAny_done (by kernel_rfl) ?_ _
        go_wp2_with fail
        go_meet
        exact ⟨bB, y, s, rfl, rfl, HYa, HO.out.1, HO.out.2.1, HO.out.2.2⟩
       exact AllReady.nil
      exact AllReady.nil
     refine AllReady.cons rfl (fun K_ hK_ => ?_) ?_
     ·obtain ⟨Wbz, hWbz, hXbz, hBbz, hsbz⟩ := boxes1 (wc4z) #[.int .i64 0, .int .i64 0, .slice none 0 0, .int .i64 0, .string ⟨#[]⟩, .int .i64 0, .int .i64 0, .slice none 0 0, .int .i64 0, .slice none 0 0] 39
      have hqbz : Below w8.heap.size w8 Wbz := (hq4z).trans (hBbz.mono (hq4z).size)
      have hXkbz := known hBbz (Nat.le_refl _) hXk4z
      go_simp
      refine hK_ _ _ ?_
      clear hK_ K_
      refine wpAny_ready (rs := [6]) (by kernel_rfl) (by simp) ?_
      refine AllReady.cons rfl (fun K_ hK_ => ?_) ?_
      ·go_simp
       refine (HRB.out _ (HQW.out _ (hqbz))).mono ?_
       rintro e wc6z ⟨y, s, hy, rfl, hsA, hb6z⟩
       have HYa := Lib.hid hy
       clear hy
       have hq6z : Below w8.heap.size w8 wc6z := (hqbz).trans (hb6z.mono (hqbz).size)
       have hXbz := known hb6z (Nat.le_refl _) hXbz
       have hXk6z := known hb6z (Nat.le_refl _) hXkbz
       refine hK_ _ _ ?_
       clear hK_ K_
       refine wpAny_take (i := 7) (v := ?_) rfl (by kernel_rfl) (by kernel_rfl) (by kernel_rfl) (fun _ _ _ h => h) (Or.inl ⟨by rfl, ?_⟩) ?_
       rotate_left
       ·intro w; go_simp; with_reducible rfl
       refine wpAny_take (i := 8) (v := ?_) rfl (by kernel_rfl) (by kernel_rfl) (by kernel_rfl) (fun _ _ _ h => h) (Or.inl ⟨by rfl, ?_⟩) ?_
       rotate_left
       ·intro w; go_simp; with_reducible rfl
       refine wpAny_take (i := 9) (v := ?_) rfl (by kernel_rfl) (by kernel_rfl) (by kernel_rfl) (fun _ _ _ h => h) (Or.inl ⟨by rfl, ?_⟩) ?_
       rotate_left
       ·intro w; go_simp; with_reducible rfl
       refine wpAny_ready (rs := [11]) (by kernel_rfl) (by simp) ?_
       refine AllReady.cons rfl (fun K_ hK_ => ?_) ?_
       ·obtain ⟨bB, hbB⟩ : ∃ bB, (wc4z).heap.size = bB := ⟨_, rfl⟩
        rw [hbB] at hXbz
        have hbl : w8.heap.size ≤ bB := by rw [← hbB]; exact (hq4z).size
        have f0 : wc6z.cell? ⟨bB, 0, none⟩ = some (.int .i64 0) := cCc hXbz 0
        have f1 : wc6z.cell? ⟨bB, 1, none⟩ = some (.int .i64 0) := cCc hXbz 1
        have f2 : wc6z.cell? ⟨bB, 2, none⟩ = some (.slice none 0 0) := cCc hXbz 2
        have f3 : wc6z.cell? ⟨bB, 3, none⟩ = some (.int .i64 0) := cCc hXbz 3
        have f4 : wc6z.cell? ⟨bB, 4, none⟩ = some (.string ⟨#[]⟩) := cCc hXbz 4
        have f5 : wc6z.cell? ⟨bB, 5, none⟩ = some (.int .i64 0) := cCc hXbz 5
        have f6 : wc6z.cell? ⟨bB, 6, none⟩ = some (.int .i64 0) := cCc hXbz 6
        have f7 : wc6z.cell? ⟨bB, 7, none⟩ = some (.slice none 0 0) := cCc hXbz 7
        have f8 : wc6z.cell? ⟨bB, 8, none⟩ = some (.int .i64 0) := cCc hXbz 8
        have f9 : wc6z.cell? ⟨bB, 9, none⟩ = some (.slice none 0 0) := cCc hXbz 9
        have g'0 : wc6z.frozen? ⟨bB, 0, none⟩ = false := cFz hXbz 0
        have g'1 : wc6z.frozen? ⟨bB, 1, none⟩ = false := cFz hXbz 1
        have g'2 : wc6z.frozen? ⟨bB, 2, none⟩ = false := cFz hXbz 2
        have g'3 : wc6z.frozen? ⟨bB, 3, none⟩ = false := cFz hXbz 3
        have g'4 : wc6z.frozen? ⟨bB, 4, none⟩ = false := cFz hXbz 4
        have g'5 : wc6z.frozen? ⟨bB, 5, none⟩ = false := cFz hXbz 5
        have g'6 : wc6z.frozen? ⟨bB, 6, none⟩ = false := cFz hXbz 6
        have g'7 : wc6z.frozen? ⟨bB, 7, none⟩ = false := cFz hXbz 7
        have g'8 : wc6z.frozen? ⟨bB, 8, none⟩ = false := cFz hXbz 8
        have g'9 : wc6z.frozen? ⟨bB, 9, none⟩ = false := cFz hXbz 9
        obtain ⟨V, hV, hVX, hVO, hVB⟩ := store10 (.int .i64 y.kind) (.int .i64 y.level) (.slice s.ea s.el s.ec) (.int .i64 y.hb) (.string y.hr) (.int .i64 y.cr) (.int .i64 y.cc) (.slice s.ca s.cl s.cc) (.int .i64 y.gf) (.slice s.ga s.gl s.gc) hXbz
        have HO : Hid (V.heap[bB]? = some (.cells #[.int .i64 y.kind, .int .i64 y.level, .slice s.ea s.el s.ec, .int .i64 y.hb, .string y.hr, .int .i64 y.cr, .int .i64 y.cc, .slice s.ca s.cl s.cc, .int .i64 y.gf, .slice s.ga s.gl s.gc] 39 (0, 0)) ∧ s.At V.heap.size V y ∧ Below w8.heap.size w8 V) := ⟨hVX, at_apart hsA hXbz (fun i u => noU_zero u) hVO, hVB _ _ (hq6z) hbl⟩
        clear hVX hVO hVB
        rw [hbB]
        go_simp
        refine hK_ _ _ ?_
        clear hK_ K_
        refine wpAny_take (i := 12) (v := ?_) rfl (by kernel_rfl) (by kernel_rfl) (by kernel_rfl) (fun _ _ _ h => h) (Or.inl ⟨by rfl, ?_⟩) ?_
        rotate_left
        ·intro w; go_simp; with_reducible rfl
        refine wpAny_done (by kernel_rfl) ?_ _
        go_wp2_with fail
        go_meet
        exact ⟨bB, y, s, rfl, rfl, HYa, HO.out.1, HO.out.2.1, HO.out.2.2⟩
       exact AllReady.nil
      exact AllReady.nil
     exact AllReady.nil
    refine AllReady.cons rfl (fun K_ hK_ => ?_) ?_
    ·obtain ⟨Wbz, hWbz, hXbz, hBbz, hsbz⟩ := boxes1 (wc4z) #[.int .i64 0, .int .i64 0, .slice none 0 0, .int .i64 0, .string ⟨#[]⟩, .int .i64 0, .int .i64 0, .slice none 0 0, .int .i64 0, .slice none 0 0] 39
     have hqbz : Below w8.heap.size w8 Wbz := (hq4z).trans (hBbz.mono (hq4z).size)
     have hXkbz := known hBbz (Nat.le_refl _) hXk4z
     go_simp
     refine hK_ _ _ ?_
     clear hK_ K_
     refine wpAny_ready (rs := [0]) (by kernel_rfl) (by simp) ?_
     refine AllReady.cons rfl (fun K_ hK_ => ?_) ?_
     ·skip
      have n0 : Wbz.cell? ⟨w.heap.size, 0, none⟩ = some (.int .u64 G.next) := cCc hXkbz 0
      have n1 : Wbz.cell? ⟨w.heap.size, 1, none⟩ = some (.slice a1 l1 cc1) := cCc hXkbz 1
      go_simp
      refine hK_ _ _ ?_
      clear hK_ K_
      refine wpAny_ready (rs := [6]) (by kernel_rfl) (by simp) ?_
      refine AllReady.cons rfl (fun K_ hK_ => ?_) ?_
      ·go_simp
       refine (HRB.out _ (HQW.out _ (hqbz))).mono ?_
       rintro e wc6z ⟨y, s, hy, rfl, hsA, hb6z⟩
       have HYa := Lib.hid hy
       clear hy
       have hq6z : Below w8.heap.size w8 wc6z := (hqbz).trans (hb6z.mono (hqbz).size)
       have hXbz := known hb6z (Nat.le_refl _) hXbz
       have hXk6z := known hb6z (Nat.le_refl _) hXkbz
       refine hK_ _ _ ?_
       clear hK_ K_
       refine wpAny_take (i := 7) (v := ?_) rfl (by kernel_rfl) (by kernel_rfl) (by kernel_rfl) (fun _ _ _ h => h) (Or.inl ⟨by rfl, ?_⟩) ?_
       rotate_left
       ·intro w; go_simp; with_reducible rfl
       refine wpAny_take (i := 8) (v := ?_) rfl (by kernel_rfl) (by kernel_rfl) (by kernel_rfl) (fun _ _ _ h => h) (Or.inl ⟨by rfl, ?_⟩) ?_
       rotate_left
       ·intro w; go_simp; with_reducible rfl
       refine wpAny_take (i := 9) (v := ?_) rfl (by kernel_rfl) (by kernel_rfl) (by kernel_rfl) (fun _ _ _ h => h) (Or.inl ⟨by rfl, ?_⟩) ?_
       rotate_left
       ·intro w; go_simp; with_reducible rfl
       refine wpAny_ready (rs := [11]) (by kernel_rfl) (by simp) ?_
       refine AllReady.cons rfl (fun K_ hK_ => ?_) ?_
       ·obtain ⟨bB, hbB⟩ : ∃ bB, (wc4z).heap.size = bB := ⟨_, rfl⟩
        rw [hbB] at hXbz
        have hbl : w8.heap.size ≤ bB := by rw [← hbB]; exact (hq4z).size
        have f0 : wc6z.cell? ⟨bB, 0, none⟩ = some (.int .i64 0) := cCc hXbz 0
        have f1 : wc6z.cell? ⟨bB, 1, none⟩ = some (.int .i64 0) := cCc hXbz 1
        have f2 : wc6z.cell? ⟨bB, 2, none⟩ = some (.slice none 0 0) := cCc hXbz 2
        have f3 : wc6z.cell? ⟨bB, 3, none⟩ = some (.int .i64 0) := cCc hXbz 3
        have f4 : wc6z.cell? ⟨bB, 4, none⟩ = some (.string ⟨#[]⟩) := cCc hXbz 4
        have f5 : wc6z.cell? ⟨bB, 5, none⟩ = some (.int .i64 0) := cCc hXbz 5
        have f6 : wc6z.cell? ⟨bB, 6, none⟩ = some (.int .i64 0) := cCc hXbz 6
        have f7 : wc6z.cell? ⟨bB, 7, none⟩ = some (.slice none 0 0) := cCc hXbz 7
        have f8 : wc6z.cell? ⟨bB, 8, none⟩ = some (.int .i64 0) := cCc hXbz 8
        have f9 : wc6z.cell? ⟨bB, 9, none⟩ = some (.slice none 0 0) := cCc hXbz 9
        have g'0 : wc6z.frozen? ⟨bB, 0, none⟩ = false := cFz hXbz 0
        have g'1 : wc6z.frozen? ⟨bB, 1, none⟩ = false := cFz hXbz 1
        have g'2 : wc6z.frozen? ⟨bB, 2, none⟩ = false := cFz hXbz 2
        have g'3 : wc6z.frozen? ⟨bB, 3, none⟩ = false := cFz hXbz 3
        have g'4 : wc6z.frozen? ⟨bB, 4, none⟩ = false := cFz hXbz 4
        have g'5 : wc6z.frozen? ⟨bB, 5, none⟩ = false := cFz hXbz 5
        have g'6 : wc6z.frozen? ⟨bB, 6, none⟩ = false := cFz hXbz 6
        have g'7 : wc6z.frozen? ⟨bB, 7, none⟩ = false := cFz hXbz 7
        have g'8 : wc6z.frozen? ⟨bB, 8, none⟩ = false := cFz hXbz 8
        have g'9 : wc6z.frozen? ⟨bB, 9, none⟩ = false := cFz hXbz 9
        obtain ⟨V, hV, hVX, hVO, hVB⟩ := store10 (.int .i64 y.kind) (.int .i64 y.level) (.slice s.ea s.el s.ec) (.int .i64 y.hb) (.string y.hr) (.int .i64 y.cr) (.int .i64 y.cc) (.slice s.ca s.cl s.cc) (.int .i64 y.gf) (.slice s.ga s.gl s.gc) hXbz
        have HO : Hid (V.heap[bB]? = some (.cells #[.int .i64 y.kind, .int .i64 y.level, .slice s.ea s.el s.ec, .int .i64 y.hb, .string y.hr, .int .i64 y.cr, .int .i64 y.cc, .slice s.ca s.cl s.cc, .int .i64 y.gf, .slice s.ga s.gl s.gc] 39 (0, 0)) ∧ s.At V.heap.size V y ∧ Below w8.heap.size w8 V) := ⟨hVX, at_apart hsA hXbz (fun i u => noU_zero u) hVO, hVB _ _ (hq6z) hbl⟩
        clear hVX hVO hVB
        rw [hbB]
        go_simp
        refine hK_ _ _ ?_
        clear hK_ K_
        refine wpAny_take (i := 12) (v := ?_) rfl (by kernel_rfl) (by kernel_rfl) (by kernel_rfl) (fun _ _ _ h => h) (Or.inl ⟨by rfl, ?_⟩) ?_
        rotate_left
        ·intro w; go_simp; with_reducible rfl
        refine wpAny_done (by kernel_rfl) ?_ _
        go_wp2_with fail
        go_meet
        exact ⟨bB, y, s, rfl, rfl, HYa, HO.out.1, HO.out.2.1, HO.out.2.2⟩
       exact AllReady.nil
      exact AllReady.nil
     exact AllReady.nil
    exact AllReady.nil
   refine AllReady.cons rfl (fun K_ hK_ => ?_) ?_
   ·obtain ⟨Wbz, hWbz, hXbz, hBbz, hsbz⟩ := boxes1 (w8.drew) #[.int .i64 0, .int .i64 0, .slice none 0 0, .int .i64 0, .string ⟨#[]⟩, .int .i64 0, .int .i64 0, .slice none 0 0, .int .i64 0, .slice none 0 0] 39
    have hqbz : Below w8.heap.size w8 Wbz := ((Below.refl w8.heap.size w8).drew).trans (hBbz.mono ((Below.refl w8.heap.size w8).drew).size)
    have hXkbz := known hBbz (Nat.le_refl _) hXk0z
    go_simp
    refine hK_ _ _ ?_
    clear hK_ K_
    refine wpAny_ready (rs := [0, 4]) (by kernel_rfl) (by simp) ?_
    refine AllReady.cons rfl (fun K_ hK_ => ?_) ?_
    ·skip
     have n0 : Wbz.cell? ⟨w.heap.size, 0, none⟩ = some (.int .u64 G.next) := cCc hXkbz 0
     have n1 : Wbz.cell? ⟨w.heap.size, 1, none⟩ = some (.slice a1 l1 cc1) := cCc hXkbz 1
     go_simp
     refine hK_ _ _ ?_
     clear hK_ K_
     refine wpAny_ready (rs := [4]) (by kernel_rfl) (by simp) ?_
     refine AllReady.cons rfl (fun K_ hK_ => ?_) ?_
     ·go_simp
      refine (cut_any sc _).mono ?_
      rintro e wc4z ⟨rfl, hb4z⟩
      have hq4z : Below w8.heap.size w8 wc4z := (hqbz).trans (hb4z.mono (hqbz).size)
      have hXbz := known hb4z (Nat.le_refl _) hXbz
      have hXk4z := known hb4z (Nat.le_refl _) hXkbz
      refine hK_ _ _ ?_
      clear hK_ K_
      refine wpAny_ready (rs := [6]) (by kernel_rfl) (by simp) ?_
      refine AllReady.cons rfl (fun K_ hK_ => ?_) ?_
      ·go_simp
       refine (HRB.out _ (HQW.out _ (hq4z))).mono ?_
       rintro e wc6z ⟨y, s, hy, rfl, hsA, hb6z⟩
       have HYa := Lib.hid hy
       clear hy
       have hq6z : Below w8.heap.size w8 wc6z := (hq4z).trans (hb6z.mono (hq4z).size)
       have hXbz := known hb6z (Nat.le_refl _) hXbz
       have hXk6z := known hb6z (Nat.le_refl _) hXk4z
       refine hK_ _ _ ?_
       clear hK_ K_
       refine wpAny_take (i := 7) (v := ?_) rfl (by kernel_rfl) (by kernel_rfl) (by kernel_rfl) (fun _ _ _ h => h) (Or.inl ⟨by rfl, ?_⟩) ?_
       rotate_left
       ·intro w; go_simp; with_reducible rfl
       refine wpAny_take (i := 8) (v := ?_) rfl (by kernel_rfl) (by kernel_rfl) (by kernel_rfl) (fun _ _ _ h => h) (Or.inl ⟨by rfl, ?_⟩) ?_
       rotate_left
       ·intro w; go_simp; with_reducible rfl
       refine wpAny_take (i := 9) (v := ?_) rfl (by kernel_rfl) (by kernel_rfl) (by kernel_rfl) (fun _ _ _ h => h) (Or.inl ⟨by rfl, ?_⟩) ?_
       rotate_left
       ·intro w; go_simp; with_reducible rfl
       refine wpAny_ready (rs := [11]) (by kernel_rfl) (by simp) ?_
       refine AllReady.cons rfl (fun K_ hK_ => ?_) ?_
       ·obtain ⟨bB, hbB⟩ : ∃ bB, (w8.drew).heap.size = bB := ⟨_, rfl⟩
        rw [hbB] at hXbz
        have hbl : w8.heap.size ≤ bB := by rw [← hbB]; exact ((Below.refl w8.heap.size w8).drew).size
        have f0 : wc6z.cell? ⟨bB, 0, none⟩ = some (.int .i64 0) := cCc hXbz 0
        have f1 : wc6z.cell? ⟨bB, 1, none⟩ = some (.int .i64 0) := cCc hXbz 1
        have f2 : wc6z.cell? ⟨bB, 2, none⟩ = some (.slice none 0 0) := cCc hXbz 2
        have f3 : wc6z.cell? ⟨bB, 3, none⟩ = some (.int .i64 0) := cCc hXbz 3
        have f4 : wc6z.cell? ⟨bB, 4, none⟩ = some (.string ⟨#[]⟩) := cCc hXbz 4
        have f5 : wc6z.cell? ⟨bB, 5, none⟩ = some (.int .i64 0) := cCc hXbz 5
        have f6 : wc6z.cell? ⟨bB, 6, none⟩ = some (.int .i64 0) := cCc hXbz 6
        have f7 : wc6z.cell? ⟨bB, 7, none⟩ = some (.slice none 0 0) := cCc hXbz 7
        have f8 : wc6z.cell? ⟨bB, 8, none⟩ = some (.int .i64 0) := cCc hXbz 8
        have f9 : wc6z.cell? ⟨bB, 9, none⟩ = some (.slice none 0 0) := cCc hXbz 9
        have g'0 : wc6z.frozen? ⟨bB, 0, none⟩ = false := cFz hXbz 0
        have g'1 : wc6z.frozen? ⟨bB, 1, none⟩ = false := cFz hXbz 1
        have g'2 : wc6z.frozen? ⟨bB, 2, none⟩ = false := cFz hXbz 2
        have g'3 : wc6z.frozen? ⟨bB, 3, none⟩ = false := cFz hXbz 3
        have g'4 : wc6z.frozen? ⟨bB, 4, none⟩ = false := cFz hXbz 4
        have g'5 : wc6z.frozen? ⟨bB, 5, none⟩ = false := cFz hXbz 5
        have g'6 : wc6z.frozen? ⟨bB, 6, none⟩ = false := cFz hXbz 6
        have g'7 : wc6z.frozen? ⟨bB, 7, none⟩ = false := cFz hXbz 7
        have g'8 : wc6z.frozen? ⟨bB, 8, none⟩ = false := cFz hXbz 8
        have g'9 : wc6z.frozen? ⟨bB, 9, none⟩ = false := cFz hXbz 9
        obtain ⟨V, hV, hVX, hVO, hVB⟩ := store10 (.int .i64 y.kind) (.int .i64 y.level) (.slice s.ea s.el s.ec) (.int .i64 y.hb) (.string y.hr) (.int .i64 y.cr) (.int .i64 y.cc) (.slice s.ca s.cl s.cc) (.int .i64 y.gf) (.slice s.ga s.gl s.gc) hXbz
        have HO : Hid (V.heap[bB]? = some (.cells #[.int .i64 y.kind, .int .i64 y.level, .slice s.ea s.el s.ec, .int .i64 y.hb, .string y.hr, .int .i64 y.cr, .int .i64 y.cc, .slice s.ca s.cl s.cc, .int .i64 y.gf, .slice s.ga s.gl s.gc] 39 (0, 0)) ∧ s.At V.heap.size V y ∧ Below w8.heap.size w8 V) := ⟨hVX, at_apart hsA hXbz (fun i u => noU_zero u) hVO, hVB _ _ (hq6z) hbl⟩
        clear hVX hVO hVB
        first | rw [hbB] | rw [show w8.heap.size = bB from hbB]
        go_simp
        refine hK_ _ _ ?_
        clear hK_ K_
        refine wpAny_take (i := 12) (v := ?_) rfl (by kernel_rfl) (by kernel_rfl) (by kernel_rfl) (fun _ _ _ h => h) (Or.inl ⟨by rfl, ?_⟩) ?_
        rotate_left
        ·intro w; go_simp; with_reducible rfl
        refine wpAny_done (by kernel_rfl) ?_ _
        go_wp2_with fail
        go_meet
        exact ⟨bB, y, s, rfl, rfl, HYa, HO.out.1, HO.out.2.1, HO.out.2.2⟩
       exact AllReady.nil
      exact AllReady.nil
     exact AllReady.nil
    refine AllReady.cons rfl (fun K_ hK_ => ?_) ?_
    ·go_simp
     refine (cut_any sc _).mono ?_
     rintro e wc4z ⟨rfl, hb4z⟩
     have hq4z : Below w8.heap.size w8 wc4z := (hqbz).trans (hb4z.mono (hqbz).size)
     have hXbz := known hb4z (Nat.le_refl _) hXbz
     have hXk4z := known hb4z (Nat.le_refl _) hXkbz
     refine hK_ _ _ ?_
     clear hK_ K_
     refine wpAny_ready (rs := [0]) (by kernel_rfl) (by simp) ?_
     refine AllReady.cons rfl (fun K_ hK_ => ?_) ?_
     ·skip
      have n0 : wc4z.cell? ⟨w.heap.size, 0, none⟩ = some (.int .u64 G.next) := cCc hXk4z 0
      have n1 : wc4z.cell? ⟨w.heap.size, 1, none⟩ = some (.slice a1 l1 cc1) := cCc hXk4z 1
      go_simp
      refine hK_ _ _ ?_
      clear hK_ K_
      refine wpAny_ready (rs := [6]) (by kernel_rfl) (by simp) ?_
      refine AllReady.cons rfl (fun K_ hK_ => ?_) ?_
      ·go_simp
       refine (HRB.out _ (HQW.out _ (hq4z))).mono ?_
       rintro e wc6z ⟨y, s, hy, rfl, hsA, hb6z⟩
       have HYa := Lib.hid hy
       clear hy
       have hq6z : Below w8.heap.size w8 wc6z := (hq4z).trans (hb6z.mono (hq4z).size)
       have hXbz := known hb6z (Nat.le_refl _) hXbz
       have hXk6z := known hb6z (Nat.le_refl _) hXk4z
       refine hK_ _ _ ?_
       clear hK_ K_
       refine wpAny_take (i := 7) (v := ?_) rfl (by kernel_rfl) (by kernel_rfl) (by kernel_rfl) (fun _ _ _ h => h) (Or.inl ⟨by rfl, ?_⟩) ?_
       rotate_left
       ·intro w; go_simp; with_reducible rfl
       refine wpAny_take (i := 8) (v := ?_) rfl (by kernel_rfl) (by kernel_rfl) (by kernel_rfl) (fun _ _ _ h => h) (Or.inl ⟨by rfl, ?_⟩) ?_
       rotate_left
       ·intro w; go_simp; with_reducible rfl
       refine wpAny_take (i := 9) (v := ?_) rfl (by kernel_rfl) (by kernel_rfl) (by kernel_rfl) (fun _ _ _ h => h) (Or.inl ⟨by rfl, ?_⟩) ?_
       rotate_left
       ·intro w; go_simp; with_reducible rfl
       refine wpAny_ready (rs := [11]) (by kernel_rfl) (by simp) ?_
       refine AllReady.cons rfl (fun K_ hK_ => ?_) ?_
       ·obtain ⟨bB, hbB⟩ : ∃ bB, (w8.drew).heap.size = bB := ⟨_, rfl⟩
        rw [hbB] at hXbz
        have hbl : w8.heap.size ≤ bB := by rw [← hbB]; exact ((Below.refl w8.heap.size w8).drew).size
        have f0 : wc6z.cell? ⟨bB, 0, none⟩ = some (.int .i64 0) := cCc hXbz 0
        have f1 : wc6z.cell? ⟨bB, 1, none⟩ = some (.int .i64 0) := cCc hXbz 1
        have f2 : wc6z.cell? ⟨bB, 2, none⟩ = some (.slice none 0 0) := cCc hXbz 2
        have f3 : wc6z.cell? ⟨bB, 3, none⟩ = some (.int .i64 0) := cCc hXbz 3
        have f4 : wc6z.cell? ⟨bB, 4, none⟩ = some (.string ⟨#[]⟩) := cCc hXbz 4
        have f5 : wc6z.cell? ⟨bB, 5, none⟩ = some (.int .i64 0) := cCc hXbz 5
        have f6 : wc6z.cell? ⟨bB, 6, none⟩ = some (.int .i64 0) := cCc hXbz 6
        have f7 : wc6z.cell? ⟨bB, 7, none⟩ = some (.slice none 0 0) := cCc hXbz 7
        have f8 : wc6z.cell? ⟨bB, 8, none⟩ = some (.int .i64 0) := cCc hXbz 8
        have f9 : wc6z.cell? ⟨bB, 9, none⟩ = some (.slice none 0 0) := cCc hXbz 9
        have g'0 : wc6z.frozen? ⟨bB, 0, none⟩ = false := cFz hXbz 0
        have g'1 : wc6z.frozen? ⟨bB, 1, none⟩ = false := cFz hXbz 1
        have g'2 : wc6z.frozen? ⟨bB, 2, none⟩ = false := cFz hXbz 2
        have g'3 : wc6z.frozen? ⟨bB, 3, none⟩ = false := cFz hXbz 3
        have g'4 : wc6z.frozen? ⟨bB, 4, none⟩ = false := cFz hXbz 4
        have g'5 : wc6z.frozen? ⟨bB, 5, none⟩ = false := cFz hXbz 5
        have g'6 : wc6z.frozen? ⟨bB, 6, none⟩ = false := cFz hXbz 6
        have g'7 : wc6z.frozen? ⟨bB, 7, none⟩ = false := cFz hXbz 7
        have g'8 : wc6z.frozen? ⟨bB, 8, none⟩ = false := cFz hXbz 8
        have g'9 : wc6z.frozen? ⟨bB, 9, none⟩ = false := cFz hXbz 9
        obtain ⟨V, hV, hVX, hVO, hVB⟩ := store10 (.int .i64 y.kind) (.int .i64 y.level) (.slice s.ea s.el s.ec) (.int .i64 y.hb) (.string y.hr) (.int .i64 y.cr) (.int .i64 y.cc) (.slice s.ca s.cl s.cc) (.int .i64 y.gf) (.slice s.ga s.gl s.gc) hXbz
        have HO : Hid (V.heap[bB]? = some (.cells #[.int .i64 y.kind, .int .i64 y.level, .slice s.ea s.el s.ec, .int .i64 y.hb, .string y.hr, .int .i64 y.cr, .int .i64 y.cc, .slice s.ca s.cl s.cc, .int .i64 y.gf, .slice s.ga s.gl s.gc] 39 (0, 0)) ∧ s.At V.heap.size V y ∧ Below w8.heap.size w8 V) := ⟨hVX, at_apart hsA hXbz (fun i u => noU_zero u) hVO, hVB _ _ (hq6z) hbl⟩
        clear hVX hVO hVB
        first | rw [hbB] | rw [show w8.heap.size = bB from hbB]
        go_simp
        refine hK_ _ _ ?_
        clear hK_ K_
        refine wpAny_take (i := 12) (v := ?_) rfl (by kernel_rfl) (by kernel_rfl) (by kernel_rfl) (fun _ _ _ h => h) (Or.inl ⟨by rfl, ?_⟩) ?_
        rotate_left
        ·intro w; go_simp; with_reducible rfl
        refine wpAny_done (by kernel_rfl) ?_ _
        go_wp2_with fail
        go_meet
        exact ⟨bB, y, s, rfl, rfl, HYa, HO.out.1, HO.out.2.1, HO.out.2.2⟩
       exact AllReady.nil
      exact AllReady.nil
     exact AllReady.nil
    exact AllReady.nil
   exact AllReady.nil
  case rest =>
   obtain ⟨w9, hw9⟩ : ∃ w9, w9 = wc := ⟨_, rfl⟩
   subst hw9
   obtain ⟨b3, y3, s3, rfl, rfl, HY3, HX3, HA3, HB9⟩ := hcut
   rw [HER.out]
   have hx2 := known HB9.out (Nat.le_refl _) HX2.out
   have hx3 := HX3.out
   have HSa := Lib.hid (same_at2 (w := w9) (HY3.out.trans HY2.out.symm) (HA2.out.go HB9.out) HA3.out)
   have HBf : Hid (Below w.heap.size w w9) := HB7.out.trans ((HB8.out.trans (HB9.out.mono HB8.out.size)).mono HB7.out.size)
   have p0 : w9.cell? ⟨b2, 0, none⟩ = some (.int .i64 y2.kind) := cCc hx2 0
   have p1 : w9.cell? ⟨b2, 1, none⟩ = some (.int .i64 y2.level) := cCc hx2 1
   have p2 : w9.cell? ⟨b2, 2, none⟩ = some (.slice s2.ea s2.el s2.ec) := cCc hx2 2
   have p3 : w9.cell? ⟨b2, 3, none⟩ = some (.int .i64 y2.hb) := cCc hx2 3
   have p4 : w9.cell? ⟨b2, 4, none⟩ = some (.string y2.hr) := cCc hx2 4
   have p5 : w9.cell? ⟨b2, 5, none⟩ = some (.int .i64 y2.cr) := cCc hx2 5
   have p6 : w9.cell? ⟨b2, 6, none⟩ = some (.int .i64 y2.cc) := cCc hx2 6
   have p7 : w9.cell? ⟨b2, 7, none⟩ = some (.slice s2.ca s2.cl s2.cc) := cCc hx2 7
   have p8 : w9.cell? ⟨b2, 8, none⟩ = some (.int .i64 y2.gf) := cCc hx2 8
   have p9 : w9.cell? ⟨b2, 9, none⟩ = some (.slice s2.ga s2.gl s2.gc) := cCc hx2 9
   have r0 : w9.cell? ⟨b3, 0, none⟩ = some (.int .i64 y3.kind) := cCc hx3 0
   have r1 : w9.cell? ⟨b3, 1, none⟩ = some (.int .i64 y3.level) := cCc hx3 1
   have r2 : w9.cell? ⟨b3, 2, none⟩ = some (.slice s3.ea s3.el s3.ec) := cCc hx3 2
   have r3 : w9.cell? ⟨b3, 3, none⟩ = some (.int .i64 y3.hb) := cCc hx3 3
   have r4 : w9.cell? ⟨b3, 4, none⟩ = some (.string y3.hr) := cCc hx3 4
   have r5 : w9.cell? ⟨b3, 5, none⟩ = some (.int .i64 y3.cr) := cCc hx3 5
   have r6 : w9.cell? ⟨b3, 6, none⟩ = some (.int .i64 y3.cc) := cCc hx3 6
   have r7 : w9.cell? ⟨b3, 7, none⟩ = some (.slice s3.ca s3.cl s3.cc) := cCc hx3 7
   have r8 : w9.cell? ⟨b3, 8, none⟩ = some (.int .i64 y3.gf) := cCc hx3 8
   have r9 : w9.cell? ⟨b3, 9, none⟩ = some (.slice s3.ga s3.gl s3.gc) := cCc hx3 9
   clear hx2 hx3 HX2 HX3 HX8 HQW HA2 HA3 HY2 HY3 HB8 HB9
   go_wp2_with fail
   refine HSa.out.mono ?_
   rintro e w10 ⟨rfl, hb10⟩
   go_wp2_with fail
   go_ret
   exact ⟨rfl, HBf.out.trans (hb10.mono HBf.out.size)⟩
end Go.Proofs.YthbhmnakmhambaaGreatDoor
