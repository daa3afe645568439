/- series.rightSeries, series.Right. -/
import Derived.Test.YthnfhklfmaeccaaGreatDoorF9
namespace Go.Proofs.YthnfhklfmaeccaaGreatDoor
open Go Go.RowKit Go.Shelf

/-- What is asked of a series so that its functions answer as they should: its parts are of Go's sizes. -/
structure SerFit (x : Ser) (p : SerP) : Prop where
  lab : LabsOk x.l
  ll : p.ll < 4294967281
  short : p.ss.Short
  fit : x.sk.fit
  hr : x.sk.hr.size < 2147483648
  seen : U64 x.seen
def serRight (x : Ser) : Bool := labRight x.l && skOk x.sk
set_option maxRecDepth 100000 in
set_option maxHeartbeats 1000000 in
theorem rightSeries_any (x : Ser) (p : SerP) (w : World) (h : p.At w.heap.size w x) (hf : SerFit x p) (hG : GW w) :
    Calls Tryz.prog 15 #[.agg #[.slice p.la p.ll p.lc, .int .i64 x.sk.kind, .int .i64 x.sk.level, .slice p.ss.ea p.ss.el p.ss.ec, .int .i64 x.sk.hb, .string x.sk.hr, .int .i64 x.sk.cr, .int .i64 x.sk.cc, .slice p.ss.ca p.ss.cl p.ss.cc, .int .i64 x.sk.gf, .slice p.ss.ga p.ss.gl p.ss.gc, .int .u64 x.seen]] w fun e w' => e = .returned (.bool (serRight x)) ∧ Below w.heap.size w w' := by
  obtain ⟨W0, hW0, hX0, hB0, hs0⟩ := boxes1 w #[.slice p.la p.ll p.lc, .int .i64 x.sk.kind, .int .i64 x.sk.level, .slice p.ss.ea p.ss.el p.ss.ec, .int .i64 x.sk.hb, .string x.sk.hr, .int .i64 x.sk.cr, .int .i64 x.sk.cc, .slice p.ss.ca p.ss.cl p.ss.cc, .int .i64 x.sk.gf, .slice p.ss.ga p.ss.gl p.ss.gc, .int .u64 x.seen] 48
  have c0 : W0.cell? ⟨w.heap.size, 0, none⟩ = some (.slice p.la p.ll p.lc) := cell_of_cells hX0 0
  have c1 : W0.cell? ⟨w.heap.size, 1, none⟩ = some (.int .i64 x.sk.kind) := cell_of_cells hX0 1
  have c2 : W0.cell? ⟨w.heap.size, 2, none⟩ = some (.int .i64 x.sk.level) := cell_of_cells hX0 2
  have c3 : W0.cell? ⟨w.heap.size, 3, none⟩ = some (.slice p.ss.ea p.ss.el p.ss.ec) := cell_of_cells hX0 3
  have c4 : W0.cell? ⟨w.heap.size, 4, none⟩ = some (.int .i64 x.sk.hb) := cell_of_cells hX0 4
  have c5 : W0.cell? ⟨w.heap.size, 5, none⟩ = some (.string x.sk.hr) := cell_of_cells hX0 5
  have c6 : W0.cell? ⟨w.heap.size, 6, none⟩ = some (.int .i64 x.sk.cr) := cell_of_cells hX0 6
  have c7 : W0.cell? ⟨w.heap.size, 7, none⟩ = some (.int .i64 x.sk.cc) := cell_of_cells hX0 7
  have c8 : W0.cell? ⟨w.heap.size, 8, none⟩ = some (.slice p.ss.ca p.ss.cl p.ss.cc) := cell_of_cells hX0 8
  have c9 : W0.cell? ⟨w.heap.size, 9, none⟩ = some (.int .i64 x.sk.gf) := cell_of_cells hX0 9
  have c10 : W0.cell? ⟨w.heap.size, 10, none⟩ = some (.slice p.ss.ga p.ss.gl p.ss.gc) := cell_of_cells hX0 10
  have c11 : W0.cell? ⟨w.heap.size, 11, none⟩ = some (.int .u64 x.seen) := cell_of_cells hX0 11
  have HA : Hid (p.At W0.heap.size W0 x) := h.go hB0
  have HF := Lib.hid hf
  have HG : Hid (GW W0) := hG.below hB0
  have hz0 : w.heap.size < W0.heap.size := by omega
  clear h hf hG hs0 hX0
  by_cases hr : labRight x.l = true
  · have HR : Hid (serRight x = skOk x.sk) := by rw [Hid, serRight, hr]; rfl
    go_enter Tryz.func15, Tryz.ntmps15
    go_wp2_with (first
      | (go_at_call 24; refine (label_Right_E _ _ _ x.l _ HA.out.l.1 HF.out.lab HG.out HF.out.ll).mono ?_; rintro e w1 ⟨rfl, hb1⟩; rw [hr]; obtain ⟨hc1, hc2⟩ := bcell hb1; have HA1 : Hid (p.At w1.heap.size w1 x) := HA.out.go hb1; have hB1 := hB0.trans (hb1.mono (Nat.le_of_lt hz0)))
      | (go_at_call 27; refine (ladder_Right_any x.sk p.ss _ HA1.out.s HF.out.short HF.out.fit).mono ?_; rintro e w2 ⟨rfl, hb2⟩))
    go_ret
    exact ⟨by rw [HR.out]; rfl, hB1.trans (hb2.mono hB1.size)⟩
  · have hr' : labRight x.l = false := by simpa using hr
    have HR : Hid (serRight x = false) := by rw [Hid, serRight, hr']; rfl
    clear hr
    go_enter Tryz.func15, Tryz.ntmps15
    go_wp2_with (go_at_call 24; refine (label_Right_E _ _ _ x.l _ HA.out.l.1 HF.out.lab HG.out HF.out.ll).mono ?_; rintro e w1 ⟨rfl, hb1⟩; rw [hr'])
    go_ret
    exact ⟨by rw [HR.out]; rfl, hB0.trans (hb1.mono (Nat.le_of_lt hz0))⟩
end Go.Proofs.YthnfhklfmaeccaaGreatDoor
