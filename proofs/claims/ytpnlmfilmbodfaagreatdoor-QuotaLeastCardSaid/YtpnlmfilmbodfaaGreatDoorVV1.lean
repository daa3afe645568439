/- aviaryref04.Same; series.Same of tables of the same series. What SeriesOrders and SeriesOwn have in common: boxes of series that are stored into; Put as a function. -/
import Derived.Test.YtpnlmfilmbodfaaGreatDoorVP1
namespace Go.Proofs.YtpnlmfilmbodfaaGreatDoor
open Go Go.RowKit Go.Shelf
theorem skSame_refl (x : Sk) : skSame x x = true := by simp [skSame]
set_option maxRecDepth 100000 in
set_option maxHeartbeats 4000000 in
theorem same1_any (x : Ser) (p q : SerP) (w : World) (hp : p.At w.heap.size w x) (hq : q.At w.heap.size w x) :
    Calls Tryz.prog 115 #[.agg #[.slice p.la p.ll p.lc, .int .i64 x.sk.kind, .int .i64 x.sk.level, .slice p.ss.ea p.ss.el p.ss.ec, .int .i64 x.sk.hb, .string x.sk.hr, .int .i64 x.sk.cr, .int .i64 x.sk.cc, .slice p.ss.ca p.ss.cl p.ss.cc, .int .i64 x.sk.gf, .slice p.ss.ga p.ss.gl p.ss.gc, .int .u64 x.seen], .agg #[.slice q.la q.ll q.lc, .int .i64 x.sk.kind, .int .i64 x.sk.level, .slice q.ss.ea q.ss.el q.ss.ec, .int .i64 x.sk.hb, .string x.sk.hr, .int .i64 x.sk.cr, .int .i64 x.sk.cc, .slice q.ss.ca q.ss.cl q.ss.cc, .int .i64 x.sk.gf, .slice q.ss.ga q.ss.gl q.ss.gc, .int .u64 x.seen]] w fun e w' => e = .returned (.bool true) ∧ Below w.heap.size w w' := by
  obtain ⟨W0, hW0, hX0, hX1, hB0, hs0⟩ := boxes2 w #[.slice p.la p.ll p.lc, .int .i64 x.sk.kind, .int .i64 x.sk.level, .slice p.ss.ea p.ss.el p.ss.ec, .int .i64 x.sk.hb, .string x.sk.hr, .int .i64 x.sk.cr, .int .i64 x.sk.cc, .slice p.ss.ca p.ss.cl p.ss.cc, .int .i64 x.sk.gf, .slice p.ss.ga p.ss.gl p.ss.gc, .int .u64 x.seen] 64 #[.slice q.la q.ll q.lc, .int .i64 x.sk.kind, .int .i64 x.sk.level, .slice q.ss.ea q.ss.el q.ss.ec, .int .i64 x.sk.hb, .string x.sk.hr, .int .i64 x.sk.cr, .int .i64 x.sk.cc, .slice q.ss.ca q.ss.cl q.ss.cc, .int .i64 x.sk.gf, .slice q.ss.ga q.ss.gl q.ss.gc, .int .u64 x.seen] 64
  have c0 : W0.cell? ⟨w.heap.size, 0, none⟩ = some (.slice p.la p.ll p.lc) := cCc hX0 0
  have c1 : W0.cell? ⟨w.heap.size, 1, none⟩ = some (.int .i64 x.sk.kind) := cCc hX0 1
  have c2 : W0.cell? ⟨w.heap.size, 2, none⟩ = some (.int .i64 x.sk.level) := cCc hX0 2
  have c3 : W0.cell? ⟨w.heap.size, 3, none⟩ = some (.slice p.ss.ea p.ss.el p.ss.ec) := cCc hX0 3
  have c4 : W0.cell? ⟨w.heap.size, 4, none⟩ = some (.int .i64 x.sk.hb) := cCc hX0 4
  have c5 : W0.cell? ⟨w.heap.size, 5, none⟩ = some (.string x.sk.hr) := cCc hX0 5
  have c6 : W0.cell? ⟨w.heap.size, 6, none⟩ = some (.int .i64 x.sk.cr) := cCc hX0 6
  have c7 : W0.cell? ⟨w.heap.size, 7, none⟩ = some (.int .i64 x.sk.cc) := cCc hX0 7
  have c8 : W0.cell? ⟨w.heap.size, 8, none⟩ = some (.slice p.ss.ca p.ss.cl p.ss.cc) := cCc hX0 8
  have c9 : W0.cell? ⟨w.heap.size, 9, none⟩ = some (.int .i64 x.sk.gf) := cCc hX0 9
  have c10 : W0.cell? ⟨w.heap.size, 10, none⟩ = some (.slice p.ss.ga p.ss.gl p.ss.gc) := cCc hX0 10
  have c11 : W0.cell? ⟨w.heap.size, 11, none⟩ = some (.int .u64 x.seen) := cCc hX0 11
  have d0 : W0.cell? ⟨w.heap.size + 1, 0, none⟩ = some (.slice q.la q.ll q.lc) := cCc hX1 0
  have d1 : W0.cell? ⟨w.heap.size + 1, 1, none⟩ = some (.int .i64 x.sk.kind) := cCc hX1 1
  have d2 : W0.cell? ⟨w.heap.size + 1, 2, none⟩ = some (.int .i64 x.sk.level) := cCc hX1 2
  have d3 : W0.cell? ⟨w.heap.size + 1, 3, none⟩ = some (.slice q.ss.ea q.ss.el q.ss.ec) := cCc hX1 3
  have d4 : W0.cell? ⟨w.heap.size + 1, 4, none⟩ = some (.int .i64 x.sk.hb) := cCc hX1 4
  have d5 : W0.cell? ⟨w.heap.size + 1, 5, none⟩ = some (.string x.sk.hr) := cCc hX1 5
  have d6 : W0.cell? ⟨w.heap.size + 1, 6, none⟩ = some (.int .i64 x.sk.cr) := cCc hX1 6
  have d7 : W0.cell? ⟨w.heap.size + 1, 7, none⟩ = some (.int .i64 x.sk.cc) := cCc hX1 7
  have d8 : W0.cell? ⟨w.heap.size + 1, 8, none⟩ = some (.slice q.ss.ca q.ss.cl q.ss.cc) := cCc hX1 8
  have d9 : W0.cell? ⟨w.heap.size + 1, 9, none⟩ = some (.int .i64 x.sk.gf) := cCc hX1 9
  have d10 : W0.cell? ⟨w.heap.size + 1, 10, none⟩ = some (.slice q.ss.ga q.ss.gl q.ss.gc) := cCc hX1 10
  have d11 : W0.cell? ⟨w.heap.size + 1, 11, none⟩ = some (.int .u64 x.seen) := cCc hX1 11
  have HP : Hid (p.At W0.heap.size W0 x) := hp.go hB0
  have HQ : Hid (q.At W0.heap.size W0 x) := hq.go hB0
  have hz0 : w.heap.size + 1 < W0.heap.size := by omega
  have hz1 : w.heap.size < W0.heap.size := by omega
  have hE := equal_lab p.la p.ll p.lc x.l q.la q.ll q.lc x.l W0 HP.out.l.1 HQ.out.l.1 (Nat.le_trans HP.out.l.2.1 HP.out.l.2.2.1)
  rw [show (x.l == x.l) = true by simp] at hE
  clear hp hq hs0 hX0 hX1
  go_enter Tryz.func115, Tryz.ntmps115
  go_wp2_with fail
  refine hE.mono ?_
  rintro e w1 ⟨rfl, hb1⟩
  obtain ⟨hc1, hd1⟩ := bcell hb1
  go_wp2_with (go_at_call 24; refine (ladder_Same_any x.sk x.sk p.ss q.ss w1 (HP.out.go hb1).s (HQ.out.go hb1).s).mono ?_; rintro e w2 ⟨rfl, hb2⟩; rw [skSame_refl])
  go_ret
  exact ⟨rfl, hB0.trans ((hb1.trans (hb2.mono hb1.size)).mono (by omega))⟩
theorem eg_same1 (args : Array Value) (w : World) : (callFunc 115 args).run Tryz.prog w = .ok (.enter 115 args) w := by kernel_rfl
set_option maxRecDepth 100000 in
set_option maxHeartbeats 4000000 in
theorem equalFunc_any (l m : List (Ser × SerP)) (a b : Option Addr) (len len2 cap cap2 : Nat) (w : World) (hT : Tab w.heap.size w a len cap l) (hU : Tab w.heap.size w b len2 cap2 m) (hlm : l.map (·.1) = m.map (·.1)) :
    Calls Tryz.prog 114 #[.slice a len cap, .slice b len2 cap2, .func (.func 115) #[] #[]] w fun e w' => e = .returned (.bool true) ∧ Below w.heap.size w w' := by
  have hl := hT.row.1.1
  have hm := hU.row.1.1
  have hll : m.length = l.length := by have := congrArg List.length hlm; simpa using this.symm
  rw [hll] at hm
  subst hl hm
  have t0 : ((l.length : Int) != (l.length : Int)) = false := by simp
  have hmx : l.length ≤ maxLen := Nat.le_trans hT.row.2.1 hT.row.2.2.1
  unfold maxLen at hmx
  have HT := Lib.hid hT
  have HU := Lib.hid hU
  have HL := Lib.hid hlm
  have HLL := Lib.hid hll
  have eg := eg_same1
  clear hT hU hlm hll
  go_enter Tryz.func114, Tryz.ntmps114
  go_wp2_with fail
  go_loopw [17] (fun i wr => ∃ (k : Nat), i = .int .i64 k ∧ k ≤ l.length ∧ Below w.heap.size w wr) (fun i _ => l.length - (intOf i).toNat)
  case atStart => exact ⟨0, rfl, Nat.zero_le _, Below.refl _ _⟩
  case round =>
    obtain ⟨k, rfl, hk, hB⟩ := hrel
    have hsz := hB.size
    by_cases hlt : k < l.length
    · obtain ⟨⟨x, p⟩, hx⟩ : ∃ x, l[k]? = some x := ⟨_, List.getElem?_eq_getElem hlt⟩
      obtain ⟨⟨y, q⟩, hy⟩ : ∃ x, m[k]? = some x := ⟨_, List.getElem?_eq_getElem (by rw [HLL.out]; exact hlt)⟩
      obtain rfl : x = y := by
        have h1 : (l.map (·.1))[k]? = some x := by rw [List.getElem?_map, hx]; rfl
        rw [HL.out, List.getElem?_map, hy] at h1
        exact (Option.some.inj h1).symm
      obtain ⟨b1, off1, rfl, hbb1, hc1⟩ := (HT.out.below hB).row.1.2 k (x, p) hx
      obtain ⟨b2, off2, rfl, hbb2, hc2⟩ := (HU.out.below hB).row.1.2 k (x, q) hy
      have c0 : wr.cell? ⟨b1, off1 + k * 12, none⟩ = some (.slice p.la p.ll p.lc) := hc1 0 (by omega)
      have c1 : wr.cell? ⟨b1, off1 + k * 12 + 1, none⟩ = some (.int .i64 x.sk.kind) := hc1 1 (by omega)
      have c2 : wr.cell? ⟨b1, off1 + k * 12 + 2, none⟩ = some (.int .i64 x.sk.level) := hc1 2 (by omega)
      have c3 : wr.cell? ⟨b1, off1 + k * 12 + 3, none⟩ = some (.slice p.ss.ea p.ss.el p.ss.ec) := hc1 3 (by omega)
      have c4 : wr.cell? ⟨b1, off1 + k * 12 + 4, none⟩ = some (.int .i64 x.sk.hb) := hc1 4 (by omega)
      have c5 : wr.cell? ⟨b1, off1 + k * 12 + 5, none⟩ = some (.string x.sk.hr) := hc1 5 (by omega)
      have c6 : wr.cell? ⟨b1, off1 + k * 12 + 6, none⟩ = some (.int .i64 x.sk.cr) := hc1 6 (by omega)
      have c7 : wr.cell? ⟨b1, off1 + k * 12 + 7, none⟩ = some (.int .i64 x.sk.cc) := hc1 7 (by omega)
      have c8 : wr.cell? ⟨b1, off1 + k * 12 + 8, none⟩ = some (.slice p.ss.ca p.ss.cl p.ss.cc) := hc1 8 (by omega)
      have c9 : wr.cell? ⟨b1, off1 + k * 12 + 9, none⟩ = some (.int .i64 x.sk.gf) := hc1 9 (by omega)
      have c10 : wr.cell? ⟨b1, off1 + k * 12 + 10, none⟩ = some (.slice p.ss.ga p.ss.gl p.ss.gc) := hc1 10 (by omega)
      have c11 : wr.cell? ⟨b1, off1 + k * 12 + 11, none⟩ = some (.int .u64 x.seen) := hc1 11 (by omega)
      obtain ⟨W1, hW1, hX1, hB1, hs1⟩ := boxes1 wr #[.slice p.la p.ll p.lc, .int .i64 x.sk.kind, .int .i64 x.sk.level, .slice p.ss.ea p.ss.el p.ss.ec, .int .i64 x.sk.hb, .string x.sk.hr, .int .i64 x.sk.cr, .int .i64 x.sk.cc, .slice p.ss.ca p.ss.cl p.ss.cc, .int .i64 x.sk.gf, .slice p.ss.ga p.ss.gl p.ss.gc, .int .u64 x.seen] 64
      obtain ⟨W2, hW2, hX2, hB2, hs2⟩ := boxes1 W1 #[.slice q.la q.ll q.lc, .int .i64 x.sk.kind, .int .i64 x.sk.level, .slice q.ss.ea q.ss.el q.ss.ec, .int .i64 x.sk.hb, .string x.sk.hr, .int .i64 x.sk.cr, .int .i64 x.sk.cc, .slice q.ss.ca q.ss.cl q.ss.cc, .int .i64 x.sk.gf, .slice q.ss.ga q.ss.gl q.ss.gc, .int .u64 x.seen] 64
      replace hc2 : ∀ i, i < 12 → W1.cell? ⟨b2, off2 + k * 12 + i, none⟩ = (serEnc (x, q))[i]? := fun i hi => (hB1.cell (p := ⟨b2, off2 + k * 12 + i, none⟩) (by show b2 < _; omega)).trans (hc2 i hi)
      have d0 : W1.cell? ⟨b2, off2 + k * 12, none⟩ = some (.slice q.la q.ll q.lc) := hc2 0 (by omega)
      have d1 : W1.cell? ⟨b2, off2 + k * 12 + 1, none⟩ = some (.int .i64 x.sk.kind) := hc2 1 (by omega)
      have d2 : W1.cell? ⟨b2, off2 + k * 12 + 2, none⟩ = some (.int .i64 x.sk.level) := hc2 2 (by omega)
      have d3 : W1.cell? ⟨b2, off2 + k * 12 + 3, none⟩ = some (.slice q.ss.ea q.ss.el q.ss.ec) := hc2 3 (by omega)
      have d4 : W1.cell? ⟨b2, off2 + k * 12 + 4, none⟩ = some (.int .i64 x.sk.hb) := hc2 4 (by omega)
      have d5 : W1.cell? ⟨b2, off2 + k * 12 + 5, none⟩ = some (.string x.sk.hr) := hc2 5 (by omega)
      have d6 : W1.cell? ⟨b2, off2 + k * 12 + 6, none⟩ = some (.int .i64 x.sk.cr) := hc2 6 (by omega)
      have d7 : W1.cell? ⟨b2, off2 + k * 12 + 7, none⟩ = some (.int .i64 x.sk.cc) := hc2 7 (by omega)
      have d8 : W1.cell? ⟨b2, off2 + k * 12 + 8, none⟩ = some (.slice q.ss.ca q.ss.cl q.ss.cc) := hc2 8 (by omega)
      have d9 : W1.cell? ⟨b2, off2 + k * 12 + 9, none⟩ = some (.int .i64 x.sk.gf) := hc2 9 (by omega)
      have d10 : W1.cell? ⟨b2, off2 + k * 12 + 10, none⟩ = some (.slice q.ss.ga q.ss.gl q.ss.gc) := hc2 10 (by omega)
      have d11 : W1.cell? ⟨b2, off2 + k * 12 + 11, none⟩ = some (.int .u64 x.seen) := hc2 11 (by omega)
      have hX12 := known hB2 (Nat.le_refl _) hX1
      have r0 : W2.cell? ⟨wr.heap.size, 0, none⟩ = some (.slice p.la p.ll p.lc) := cCc hX12 0
      have r1 : W2.cell? ⟨wr.heap.size, 1, none⟩ = some (.int .i64 x.sk.kind) := cCc hX12 1
      have r2 : W2.cell? ⟨wr.heap.size, 2, none⟩ = some (.int .i64 x.sk.level) := cCc hX12 2
      have r3 : W2.cell? ⟨wr.heap.size, 3, none⟩ = some (.slice p.ss.ea p.ss.el p.ss.ec) := cCc hX12 3
      have r4 : W2.cell? ⟨wr.heap.size, 4, none⟩ = some (.int .i64 x.sk.hb) := cCc hX12 4
      have r5 : W2.cell? ⟨wr.heap.size, 5, none⟩ = some (.string x.sk.hr) := cCc hX12 5
      have r6 : W2.cell? ⟨wr.heap.size, 6, none⟩ = some (.int .i64 x.sk.cr) := cCc hX12 6
      have r7 : W2.cell? ⟨wr.heap.size, 7, none⟩ = some (.int .i64 x.sk.cc) := cCc hX12 7
      have r8 : W2.cell? ⟨wr.heap.size, 8, none⟩ = some (.slice p.ss.ca p.ss.cl p.ss.cc) := cCc hX12 8
      have r9 : W2.cell? ⟨wr.heap.size, 9, none⟩ = some (.int .i64 x.sk.gf) := cCc hX12 9
      have r10 : W2.cell? ⟨wr.heap.size, 10, none⟩ = some (.slice p.ss.ga p.ss.gl p.ss.gc) := cCc hX12 10
      have r11 : W2.cell? ⟨wr.heap.size, 11, none⟩ = some (.int .u64 x.seen) := cCc hX12 11
      have s0 : W2.cell? ⟨W1.heap.size, 0, none⟩ = some (.slice q.la q.ll q.lc) := cCc hX2 0
      have s1 : W2.cell? ⟨W1.heap.size, 1, none⟩ = some (.int .i64 x.sk.kind) := cCc hX2 1
      have s2 : W2.cell? ⟨W1.heap.size, 2, none⟩ = some (.int .i64 x.sk.level) := cCc hX2 2
      have s3 : W2.cell? ⟨W1.heap.size, 3, none⟩ = some (.slice q.ss.ea q.ss.el q.ss.ec) := cCc hX2 3
      have s4 : W2.cell? ⟨W1.heap.size, 4, none⟩ = some (.int .i64 x.sk.hb) := cCc hX2 4
      have s5 : W2.cell? ⟨W1.heap.size, 5, none⟩ = some (.string x.sk.hr) := cCc hX2 5
      have s6 : W2.cell? ⟨W1.heap.size, 6, none⟩ = some (.int .i64 x.sk.cr) := cCc hX2 6
      have s7 : W2.cell? ⟨W1.heap.size, 7, none⟩ = some (.int .i64 x.sk.cc) := cCc hX2 7
      have s8 : W2.cell? ⟨W1.heap.size, 8, none⟩ = some (.slice q.ss.ca q.ss.cl q.ss.cc) := cCc hX2 8
      have s9 : W2.cell? ⟨W1.heap.size, 9, none⟩ = some (.int .i64 x.sk.gf) := cCc hX2 9
      have s10 : W2.cell? ⟨W1.heap.size, 10, none⟩ = some (.slice q.ss.ga q.ss.gl q.ss.gc) := cCc hX2 10
      have s11 : W2.cell? ⟨W1.heap.size, 11, none⟩ = some (.int .u64 x.seen) := cCc hX2 11
      have HP : Hid (p.At wr.heap.size wr x) := ((HT.out.at_ _ (List.mem_of_getElem? hx)).below hB).mono hsz
      have HQ : Hid (q.At wr.heap.size wr x) := ((HU.out.at_ _ (List.mem_of_getElem? hy)).below hB).mono hsz
      have i0 : (0 : Int) ≤ (k : Int) := by omega
      have i1 : (k : Int) < (l.length : Int) := by omega
      have hcall := same1_any x p q W2 ((HP.out.go hB1).go hB2) ((HQ.out.go hB1).go hB2)
      have hBW : Below w.heap.size w W2 := hB.trans ((hB1.trans (hB2.mono hB1.size)).mono hsz)
      clear hc1 hc2 hx hy hs1 hs2
      go_wp2_with fail
      refine hcall.mono ?_
      rintro e w4 ⟨rfl, hb4⟩
      go_wp2_with fail
      go_roundw
      case rel => exact ⟨k + 1, by go_num, by omega, hBW.trans (hb4.mono hBW.size)⟩
      case measure => simp [intOf]; omega
    · obtain rfl : k = l.length := by omega
      go_wp2_with fail
      go_ret
      exact ⟨rfl, hB⟩
set_option maxRecDepth 100000 in
set_option maxHeartbeats 4000000 in
theorem series_Same_eq (l m : List (Ser × SerP)) (a b : Option Addr) (len len2 cap cap2 : Nat) (w : World) (hT : Tab w.heap.size w a len cap l) (hU : Tab w.heap.size w b len2 cap2 m) (hlm : l.map (·.1) = m.map (·.1)) :
    Calls Tryz.prog 47 #[.slice a len cap, .slice b len2 cap2] w fun e w' => e = .returned (.bool true) ∧ Below w.heap.size w w' := by
  have hE := equalFunc_any l m a b len len2 cap cap2 w hT hU hlm
  clear hT hU hlm
  go_enter Tryz.func47, Tryz.ntmps47
  go_wp2_with fail
  refine hE.mono ?_
  rintro e w1 ⟨rfl, hb1⟩
  go_wp2_with fail
  go_ret
  exact ⟨rfl, hb1⟩
end Go.Proofs.YtpnlmfilmbodfaaGreatDoor
namespace Go.Proofs.YtpnlmfilmbodfaaGreatDoor
open Go Go.RowKit Go.Shelf
theorem SerP.At.apart {B : Nat} {A A' : World} {x : Ser} {p : SerP} (h : p.At A.heap.size A x) (ho : p.Off (· ≠ B)) (ha : Apart B A A') : p.At A'.heap.size A' x := (h.frame ho ha.2).mono ha.1
theorem Tab.apart {B : Nat} {A A' : World} {a : Option Addr} {len cap : Nat} {l : List (Ser × SerP)} (h : Tab A.heap.size A a len cap l) (hr : ∀ z, a = some z → 0 < cap → z.block ≠ B) (ho : ∀ e ∈ l, e.2.Off (· ≠ B)) (ha : Apart B A A') : Tab A'.heap.size A' a len cap l :=
  ⟨h.row.apart hr ha, fun e he => (h.at_ e he).apart (ho e he) ha⟩
def putE (L : List Ser) (x : Ser) : Int := if putOk L x then 0 else 120
def putR (L : List Ser) (x : Ser) : List Ser := if putOk L x then putL L x else []
theorem putR_ok {L : List Ser} {x : Ser} (h : putOk L x = true) : putR L x = putL L x := if_pos h
theorem putE_of {L : List Ser} {x : Ser} (h : putOk L x = true) : putE L x = 0 := if_pos h
theorem series_Put_fn (l : List (Ser × SerP)) (a : Option Addr) (len cap : Nat) (x : Ser) (p : SerP) (w : World) (hT : Tab w.heap.size w a len cap l) (hF : ∀ y ∈ l.map (·.1), y.fine) (hP : p.At w.heap.size w x) (hx : x.fine) (hG : GW w) :
    Calls Tryz.prog 106 #[.slice a len cap, .agg #[.slice p.la p.ll p.lc, .int .i64 x.sk.kind, .int .i64 x.sk.level, .slice p.ss.ea p.ss.el p.ss.ec, .int .i64 x.sk.hb, .string x.sk.hr, .int .i64 x.sk.cr, .int .i64 x.sk.cc, .slice p.ss.ca p.ss.cl p.ss.cc, .int .i64 x.sk.gf, .slice p.ss.ga p.ss.gl p.ss.gc, .int .u64 x.seen]] w fun e w' => ∃ a' cap' m, e = .returned (.tuple #[.slice a' (List.length m) cap', .int .i64 (putE (l.map (·.1)) x)]) ∧ Tab w'.heap.size w' a' m.length cap' m ∧ m.map (·.1) = putR (l.map (·.1)) x ∧ Below w.heap.size w w' ∧ (∀ z, a' = some z → w.heap.size ≤ z.block) ∧ (∀ e ∈ m, e.2.Off (fun b => w.heap.size ≤ b ∧ ∀ z, a' = some z → b ≠ z.block)) ∧ (∀ z, a' = some z → Loose w' z.block) ∧ (∀ e ∈ m, LabFree w' e) :=
  (series_Put_any l a len cap x p w hT (tabFit_of hT hF) hP (hx.serFit hP) hG).mono fun e w' h => by
    obtain ⟨hb, ⟨h1, rfl⟩ | ⟨h1, a', cap', m, rfl, h2, h3, h4, h5, h6, h7⟩⟩ := h
    · exact ⟨none, 0, [], by rw [putE, h1]; rfl, Tab.nil, by rw [putR, h1]; rfl, hb, (fun z h => by cases h), (fun e h => by cases h), (fun z h => by cases h), (fun e h => by cases h)⟩
    · exact ⟨a', cap', m, by rw [putE, h1]; rfl, h2, by rw [putR, h1]; exact h3, hb, h4, h5, h6, h7⟩
end Go.Proofs.YtpnlmfilmbodfaaGreatDoor
