/- aviarylaw12.SeriesOwn answers true. -/
import Derived.Test.YtnmgfdkacibinaaDoorV1
namespace Go.Proofs.YtnmgfdkacibinaaDoor
open Go Go.RowKit Go.Shelf

/-- A block that may be stored into, of so many cells at least. -/
def LooseN (w : World) (b n : Nat) : Prop := ∃ c t, w.heap[b]? = some (.cells c t (0, 0)) ∧ n ≤ c.size
theorem LooseN.set {w : World} {b n B i : Nat} (h : LooseN w b n) (v : Value) : LooseN (w.setCell ⟨B, i, none⟩ v) b n := by
  obtain ⟨c, t, h1, h2⟩ := h
  by_cases e : B = b
  · subst e
    exact ⟨_, t, heap_set_known h1 v, by simpa using h2⟩
  · exact ⟨c, t, (heap_set_other e v).trans h1, h2⟩
theorem LooseN.cell {w : World} {b n i : Nat} (h : LooseN w b n) (hi : i < n) : (∃ v, w.cell? ⟨b, i, none⟩ = some v) ∧ w.frozen? ⟨b, i, none⟩ = false := by
  obtain ⟨c, t, h1, h2⟩ := h
  exact ⟨⟨c[i]'(by omega), by rw [cell_of_cells h1, Array.getElem?_eq_getElem (by omega)]⟩, frozen_of_cells h1 i⟩
theorem LooseN.of_heap {A B : World} {b n : Nat} (h : LooseN A b n) (e : B.heap[b]? = A.heap[b]?) : LooseN B b n := by obtain ⟨c, t, h, h2⟩ := h; exact ⟨c, t, e.trans h, h2⟩
/-- What is known of the table that is stored into. -/
structure OwnIn (u : List (Ser × SerP)) (g off lo hi : Nat) (W : World) : Prop where
  row : ∃ c t, W.heap[g]? = some (.cells c t (0, 0)) ∧ ∀ (i : Nat) (e : Ser × SerP), u[i]? = some e → c[off + i * 12]? = some (.slice e.2.la e.2.ll e.2.lc) ∧ off + i * 12 + 11 < c.size
  at_ : lo ≤ g ∧ g < hi
  labs : ∀ e ∈ u, 0 < e.2.ll → ∃ b o, e.2.la = some ⟨b, o, none⟩ ∧ b ≠ g ∧ lo ≤ b ∧ b < hi ∧ LooseN W b (o + 2)
theorem OwnIn.setL {u : List (Ser × SerP)} {g off lo hi B i : Nat} {W : World} (h : OwnIn u g off lo hi W) (hB : B ≠ g) (v : Value) : OwnIn u g off lo hi (W.setCell ⟨B, i, none⟩ v) := by
  obtain ⟨c, t, h1, h2⟩ := h.row
  refine ⟨⟨c, t, (heap_set_other hB v).trans h1, h2⟩, h.at_, fun e he h0 => ?_⟩
  obtain ⟨b, o, k1, k2, k3, k4, k5⟩ := h.labs e he h0
  exact ⟨b, o, k1, k2, k3, k4, k5.set v⟩
theorem OwnIn.setS {u : List (Ser × SerP)} {g off lo hi i : Nat} {W : World} (h : OwnIn u g off lo hi W) (v : Value) : OwnIn u g off lo hi (W.setCell ⟨g, off + i * 12 + 11, none⟩ v) := by
  obtain ⟨c, t, h1, h2⟩ := h.row
  refine ⟨⟨_, t, heap_set_known h1 v, fun j e hj => ⟨?_, ?_⟩⟩, h.at_, fun e he h0 => ?_⟩
  · rw [Array.getElem?_setIfInBounds_ne (by omega)]; exact (h2 j e hj).1
  · rw [Array.size_setIfInBounds]; exact (h2 j e hj).2
  · obtain ⟨b, o, k1, k2, k3, k4, k5⟩ := h.labs e he h0
    exact ⟨b, o, k1, k2, k3, k4, k5.set v⟩
theorem OwnIn.cells {u : List (Ser × SerP)} {g off lo hi k : Nat} {W : World} {e : Ser × SerP} (h : OwnIn u g off lo hi W) (hk : u[k]? = some e) : W.cell? ⟨g, off + k * 12, none⟩ = some (.slice e.2.la e.2.ll e.2.lc) ∧ (∃ v, W.cell? ⟨g, off + k * 12 + 11, none⟩ = some v) ∧ W.frozen? ⟨g, off + k * 12 + 11, none⟩ = false := by
  obtain ⟨c, t, h1, h2⟩ := h.row
  obtain ⟨h3, h4⟩ := h2 k e hk
  exact ⟨by rw [cell_of_cells h1]; exact h3, ⟨c[off + k * 12 + 11], by rw [cell_of_cells h1, Array.getElem?_eq_getElem h4]⟩, frozen_of_cells h1 _⟩
/-- Nothing has changed but blocks from one on up to another. -/
def Keep (lo hi : Nat) (A W : World) : Prop := A.heap.size ≤ W.heap.size ∧ ∀ b, b < A.heap.size → (b < lo ∨ hi ≤ b) → W.heap[b]? = A.heap[b]?
theorem Keep.set {lo hi B i : Nat} {A W : World} (h : Keep lo hi A W) (h1 : lo ≤ B) (h2 : B < hi) (v : Value) : Keep lo hi A (W.setCell ⟨B, i, none⟩ v) :=
  ⟨by rw [World.size_setCell]; exact h.1, fun b hb hb2 => (heap_set_other (by show B ≠ b; omega) v).trans (h.2 b hb hb2)⟩
theorem own_start {u : List (Ser × SerP)} {cap g off lo : Nat} {A W : World} (hT : Tab A.heap.size A (some ⟨g, off, none⟩) u.length cap u) (h1 : ∀ z, some (⟨g, off, none⟩ : Addr) = some z → lo ≤ z.block) (h2 : ∀ e ∈ u, e.2.Off (fun b => lo ≤ b ∧ ∀ z, some (⟨g, off, none⟩ : Addr) = some z → b ≠ z.block))
    (h3 : ∀ z, some (⟨g, off, none⟩ : Addr) = some z → Loose A z.block) (h4 : ∀ e ∈ u, LabFree A e) (hb : Below A.heap.size A W) : OwnIn u g off lo A.heap.size W := by
  have hg := h3 _ rfl
  obtain ⟨c, t, hc⟩ := hg.go hb
  refine ⟨⟨c, t, hc, fun i e hi => ?_⟩, ⟨h1 _ rfl, hg.lt⟩, fun e he h0 => ?_⟩
  · obtain ⟨b, o, e1, e2, e3⟩ := (hT.row.below hb).1.2 i e hi
    injection e1 with e1
    injection e1 with e1 e4
    subst e1; subst e4
    have k0 := e3 0 (by omega)
    have k1 := e3 11 (by omega)
    rw [cell_of_cells hc] at k0 k1
    exact ⟨k0, (Array.getElem?_eq_some_iff.1 (k1.trans (show (serEnc e)[11]? = some (.int .u64 e.1.seen) from rfl))).1⟩
  · have hl := (hT.at_ e he).l
    have hll := hl.1.1
    obtain ⟨x, hx⟩ : ∃ x, e.1.l[0]? = some x := ⟨_, List.getElem?_eq_getElem (by omega)⟩
    obtain ⟨b, o, e1, e2, e3⟩ := (hl.below hb).1.2 0 x hx
    have hcap : 0 < e.2.lc := by have := hl.2.1; omega
    obtain ⟨c', t', hc'⟩ := (h4 e he _ e1 hcap).go hb
    have k1 := e3 1 (by omega)
    rw [cell_of_cells hc'] at k1
    have k2 := (Array.getElem?_eq_some_iff.1 (k1.trans (show (Lab.enc x)[1]? = some (.string x.value) from rfl))).1
    obtain ⟨o1, o2⟩ := (h2 e he).l _ e1 hcap
    exact ⟨b, o, e1, o2 _ rfl, o1, e2, c', t', hc', by simp at k2 ⊢; omega⟩
theorem cutN_small (n : Nat) (s : ByteArray) (h : s.size ≤ n) : cutN n s = s := by
  unfold cutN
  rw [show (min (s.size : Int) (n : Int)).toNat = s.size by omega, ByteArray.extract_zero_size]
theorem cutN_cutN (n : Nat) (s : ByteArray) : cutN n (cutN n s) = cutN n s := cutN_small n _ (by rw [cutN_size]; omega)
def labCut1 (x : Lab) : Lab := ⟨cutN 20 x.name, cutN 120 x.value⟩
theorem few04_map (l : List Lab) : (few04 l).map (·.1) = (l.take 10).map labCut1 := by rw [few04, List.map_map]; rfl
theorem labCut1_idem (x : Lab) : labCut1 (labCut1 x) = labCut1 x := lab_eq (cutN_cutN 20 x.name) (cutN_cutN 120 x.value)
theorem cut_l (x : Ser) : x.cut.cut.l = x.cut.l := by
  show (few04 ((few04 x.l).map (·.1))).map (·.1) = (few04 x.l).map (·.1)
  rw [few04_map, few04_map, ← List.map_take, List.take_take, Nat.min_self, List.map_map]
  exact List.map_congr_left fun y _ => labCut1_idem y
theorem few_few {L : List Ser} {i : Nat} {x y : Ser} (hx : (few12 L)[i]? = some x) (hy : (few12 (few12 L))[i]? = some y) : y.l = x.l ∧ y.seen = x.seen := by
  have h2 : (few12 (few12 L))[i]? = ((few12 L)[i]?).map Ser.cut := by
    rw [few12, List.getElem?_map, List.getElem?_take]
    split
    · rfl
    · rename_i h
      rw [few12, List.getElem?_map, List.getElem?_take, if_neg h]; rfl
  rw [hx] at h2
  rw [h2] at hy
  obtain rfl : x.cut = y := Option.some.inj hy
  simp only [few12, List.getElem?_map] at hx
  cases hz : (L.take 22)[i]? with
  | none => rw [hz] at hx; cases hx
  | some z =>
    rw [hz] at hx
    obtain rfl : z.cut = x := Option.some.inj hx
    exact ⟨cut_l z, rfl⟩
theorem few_len (L : List Ser) : (few12 (few12 L)).length = (few12 L).length := by simp [few12]

set_option maxRecDepth 100000 in
set_option maxHeartbeats 8000000 in
theorem own_any (l : List (Ser × SerP)) (a : Option Addr) (len cap : Nat) (x : Ser) (p : SerP) (w : World) (hT : Tab w.heap.size w a len cap l) (hW : ∀ x ∈ l.map (·.1), x.wf) (hx : p.At w.heap.size w x) (wx : x.wf) (hG : GW w) :
    Calls Tryd.prog 6 #[.slice a len cap, .agg #[.slice p.la p.ll p.lc, .int .i64 x.sk.kind, .int .i64 x.sk.level, .slice p.ss.ea p.ss.el p.ss.ec, .int .i64 x.sk.hb, .string x.sk.hr, .int .i64 x.sk.cr, .int .i64 x.sk.cc, .slice p.ss.ca p.ss.cl p.ss.cc, .int .i64 x.sk.gf, .slice p.ss.ga p.ss.gl p.ss.gc, .int .u64 x.seen]] w fun e w' => e = .returned (.bool true) ∧ Below w.heap.size w w' := by
  obtain ⟨W0, hW0, hXA, hB0, hs0⟩ := boxes1 w #[.slice p.la p.ll p.lc, .int .i64 x.sk.kind, .int .i64 x.sk.level, .slice p.ss.ea p.ss.el p.ss.ec, .int .i64 x.sk.hb, .string x.sk.hr, .int .i64 x.sk.cr, .int .i64 x.sk.cc, .slice p.ss.ca p.ss.cl p.ss.cc, .int .i64 x.sk.gf, .slice p.ss.ga p.ss.gl p.ss.gc, .int .u64 x.seen] 54
  have c0 : W0.cell? ⟨w.heap.size, 0, none⟩ = some (.slice p.la p.ll p.lc) := cell_of_cells hXA 0
  have c1 : W0.cell? ⟨w.heap.size, 1, none⟩ = some (.int .i64 x.sk.kind) := cell_of_cells hXA 1
  have c2 : W0.cell? ⟨w.heap.size, 2, none⟩ = some (.int .i64 x.sk.level) := cell_of_cells hXA 2
  have c3 : W0.cell? ⟨w.heap.size, 3, none⟩ = some (.slice p.ss.ea p.ss.el p.ss.ec) := cell_of_cells hXA 3
  have c4 : W0.cell? ⟨w.heap.size, 4, none⟩ = some (.int .i64 x.sk.hb) := cell_of_cells hXA 4
  have c5 : W0.cell? ⟨w.heap.size, 5, none⟩ = some (.string x.sk.hr) := cell_of_cells hXA 5
  have c6 : W0.cell? ⟨w.heap.size, 6, none⟩ = some (.int .i64 x.sk.cr) := cell_of_cells hXA 6
  have c7 : W0.cell? ⟨w.heap.size, 7, none⟩ = some (.int .i64 x.sk.cc) := cell_of_cells hXA 7
  have c8 : W0.cell? ⟨w.heap.size, 8, none⟩ = some (.slice p.ss.ca p.ss.cl p.ss.cc) := cell_of_cells hXA 8
  have c9 : W0.cell? ⟨w.heap.size, 9, none⟩ = some (.int .i64 x.sk.gf) := cell_of_cells hXA 9
  have c10 : W0.cell? ⟨w.heap.size, 10, none⟩ = some (.slice p.ss.ga p.ss.gl p.ss.gc) := cell_of_cells hXA 10
  have c11 : W0.cell? ⟨w.heap.size, 11, none⟩ = some (.int .u64 x.seen) := cell_of_cells hXA 11
  have HT : Hid (Tab W0.heap.size W0 a len cap l) := hT.go hB0
  have HO : Hid (∀ e ∈ l, e.2.Off (· < w.heap.size)) := fun e he => (hT.at_ e he).off
  have HW := Lib.hid hW
  have HP : Hid (p.At W0.heap.size W0 x) := hx.go hB0
  have HPo : Hid (p.Off (· < w.heap.size)) := hx.off
  have HFx : Hid (x.cut.fine) := wx.cut
  have HG : Hid (GW W0) := hG.below hB0
  have HGw := Lib.hid hG
  have hz0 : w.heap.size < W0.heap.size := by omega
  have HXA := Lib.hid hXA
  have HB0 := Lib.hid hB0
  clear hT hW hx wx hG hs0 hXA hB0
  go_enter Tryd.func6, Tryd.ntmps6
  go_wp2_with (first
    | (go_at_call 17; refine (shown12_any W0 HG.out).mono ?_; rintro e w1 ⟨rfl, hb1⟩)
    | (go_at_call 18; refine (few12_any l a len cap w1 (HT.out.go hb1)).mono ?_; rintro e w2 ⟨a2, cap2, m, rfl, hT2, hm, hlo2, hla2, hb2⟩; have hb02 := hb1.trans (hb2.mono hb1.size); obtain ⟨hc2, hd2⟩ := bcell hb02))
  have hz1 := hb1.size
  have hz2 := hb2.size
  have HT2 := Lib.hid hT2
  have HM := Lib.hid hm
  have HLO := Lib.hid hlo2
  have HOm : Hid (∀ e ∈ m, e.2.Off (fun b => b < w.heap.size ∨ w1.heap.size ≤ b)) := hla2.2 _ HO.out
  clear hT2 hm hlo2 hla2 c0 c1 c2 c3 c4 c5 c6 c7 c8 c9 c10 c11 hc2 hd2
  refine (one12_any x p w2 (HP.out.go hb02)).mono ?_
  rintro e w3 ⟨pa, rfl, hsa, hata, hloa, hb3⟩
  have HXA3 := known hb3 (Nat.le_refl _) (known hb02 (Nat.le_refl _) HXA.out)
  have hz3 := hb3.size
  generalize hxa : x.cut = xa at *
  obtain ⟨V3, hV3, hXV3, hAp3, hBV3, hs3, ht3⟩ := box12 HXA3 (.slice pa.la pa.ll pa.lc) (.int .i64 xa.sk.kind) (.int .i64 xa.sk.level) (.slice pa.ss.ea pa.ss.el pa.ss.ec) (.int .i64 xa.sk.hb) (.string xa.sk.hr) (.int .i64 xa.sk.cr) (.int .i64 xa.sk.cc) (.slice pa.ss.ca pa.ss.cl pa.ss.cc) (.int .i64 xa.sk.gf) (.slice pa.ss.ga pa.ss.gl pa.ss.gc) (.int .u64 xa.seen)
  have c0 : w3.cell? ⟨w.heap.size, 0, none⟩ = some (.slice p.la p.ll p.lc) := cell_of_cells HXA3 0
  have c1 : w3.cell? ⟨w.heap.size, 1, none⟩ = some (.int .i64 x.sk.kind) := cell_of_cells HXA3 1
  have c2 : w3.cell? ⟨w.heap.size, 2, none⟩ = some (.int .i64 x.sk.level) := cell_of_cells HXA3 2
  have c3 : w3.cell? ⟨w.heap.size, 3, none⟩ = some (.slice p.ss.ea p.ss.el p.ss.ec) := cell_of_cells HXA3 3
  have c4 : w3.cell? ⟨w.heap.size, 4, none⟩ = some (.int .i64 x.sk.hb) := cell_of_cells HXA3 4
  have c5 : w3.cell? ⟨w.heap.size, 5, none⟩ = some (.string x.sk.hr) := cell_of_cells HXA3 5
  have c6 : w3.cell? ⟨w.heap.size, 6, none⟩ = some (.int .i64 x.sk.cr) := cell_of_cells HXA3 6
  have c7 : w3.cell? ⟨w.heap.size, 7, none⟩ = some (.int .i64 x.sk.cc) := cell_of_cells HXA3 7
  have c8 : w3.cell? ⟨w.heap.size, 8, none⟩ = some (.slice p.ss.ca p.ss.cl p.ss.cc) := cell_of_cells HXA3 8
  have c9 : w3.cell? ⟨w.heap.size, 9, none⟩ = some (.int .i64 x.sk.gf) := cell_of_cells HXA3 9
  have c10 : w3.cell? ⟨w.heap.size, 10, none⟩ = some (.slice p.ss.ga p.ss.gl p.ss.gc) := cell_of_cells HXA3 10
  have c11 : w3.cell? ⟨w.heap.size, 11, none⟩ = some (.int .u64 x.seen) := cell_of_cells HXA3 11
  have f0 : w3.frozen? ⟨w.heap.size, 0, none⟩ = false := frozen_of_cells HXA3 0
  have f1 : w3.frozen? ⟨w.heap.size, 1, none⟩ = false := frozen_of_cells HXA3 1
  have f2 : w3.frozen? ⟨w.heap.size, 2, none⟩ = false := frozen_of_cells HXA3 2
  have f3 : w3.frozen? ⟨w.heap.size, 3, none⟩ = false := frozen_of_cells HXA3 3
  have f4 : w3.frozen? ⟨w.heap.size, 4, none⟩ = false := frozen_of_cells HXA3 4
  have f5 : w3.frozen? ⟨w.heap.size, 5, none⟩ = false := frozen_of_cells HXA3 5
  have f6 : w3.frozen? ⟨w.heap.size, 6, none⟩ = false := frozen_of_cells HXA3 6
  have f7 : w3.frozen? ⟨w.heap.size, 7, none⟩ = false := frozen_of_cells HXA3 7
  have f8 : w3.frozen? ⟨w.heap.size, 8, none⟩ = false := frozen_of_cells HXA3 8
  have f9 : w3.frozen? ⟨w.heap.size, 9, none⟩ = false := frozen_of_cells HXA3 9
  have f10 : w3.frozen? ⟨w.heap.size, 10, none⟩ = false := frozen_of_cells HXA3 10
  have f11 : w3.frozen? ⟨w.heap.size, 11, none⟩ = false := frozen_of_cells HXA3 11
  have d0 : V3.cell? ⟨w.heap.size, 0, none⟩ = some (.slice pa.la pa.ll pa.lc) := cell_of_cells hXV3 0
  have d1 : V3.cell? ⟨w.heap.size, 1, none⟩ = some (.int .i64 xa.sk.kind) := cell_of_cells hXV3 1
  have d2 : V3.cell? ⟨w.heap.size, 2, none⟩ = some (.int .i64 xa.sk.level) := cell_of_cells hXV3 2
  have d3 : V3.cell? ⟨w.heap.size, 3, none⟩ = some (.slice pa.ss.ea pa.ss.el pa.ss.ec) := cell_of_cells hXV3 3
  have d4 : V3.cell? ⟨w.heap.size, 4, none⟩ = some (.int .i64 xa.sk.hb) := cell_of_cells hXV3 4
  have d5 : V3.cell? ⟨w.heap.size, 5, none⟩ = some (.string xa.sk.hr) := cell_of_cells hXV3 5
  have d6 : V3.cell? ⟨w.heap.size, 6, none⟩ = some (.int .i64 xa.sk.cr) := cell_of_cells hXV3 6
  have d7 : V3.cell? ⟨w.heap.size, 7, none⟩ = some (.int .i64 xa.sk.cc) := cell_of_cells hXV3 7
  have d8 : V3.cell? ⟨w.heap.size, 8, none⟩ = some (.slice pa.ss.ca pa.ss.cl pa.ss.cc) := cell_of_cells hXV3 8
  have d9 : V3.cell? ⟨w.heap.size, 9, none⟩ = some (.int .i64 xa.sk.gf) := cell_of_cells hXV3 9
  have d10 : V3.cell? ⟨w.heap.size, 10, none⟩ = some (.slice pa.ss.ga pa.ss.gl pa.ss.gc) := cell_of_cells hXV3 10
  have d11 : V3.cell? ⟨w.heap.size, 11, none⟩ = some (.int .u64 xa.seen) := cell_of_cells hXV3 11
  have HPa : Hid (pa.At V3.heap.size V3 xa) := hata.apart ((cut_off HPo.out hsa hloa).imp fun b hb => by omega) hAp3
  have HT3 : Hid (Tab V3.heap.size V3 a2 m.length cap2 m) := (HT2.out.go hb3).apart (fun z hz _ => by have := HLO.out z hz; omega) (fun e he => (HOm.out e he).imp fun b hb => by omega) hAp3
  have HB3 : Hid (Below w.heap.size w V3) := hBV3 _ _ (Nat.le_refl _) ((HB0.out.trans (hb02.mono (by omega))).trans (hb3.mono (by omega)))
  have HG3 : Hid (GW V3) := HGw.out.below HB3.out
  have HFm : Hid (∀ y ∈ m.map (·.1), Ser.fine y) := by rw [Hid, HM.out]; exact fine_few HW.out
  have hmx : m.length ≤ maxLen := Nat.le_trans HT3.out.row.2.1 HT3.out.row.2.2.1
  unfold maxLen at hmx
  clear hsa hata hloa HXA3 hXV3 hAp3 hBV3
  unfold serVals
  dsimp only
  go_wp2_with fail
  refine (series_Put_any m a2 m.length cap2 xa pa V3 HT3.out (tabFit_of HT3.out HFm.out) HPa.out (HFx.out.serFit HPa.out) HG3.out).mono ?_
  rintro e w4 ⟨hb4, h⟩
  clear hV3 c0 c1 c2 c3 c4 c5 c6 c7 c8 c9 c10 c11 f0 f1 f2 f3 f4 f5 f6 f7 f8 f9 f10 f11 d0 d1 d2 d3 d4 d5 d6 d7 d8 d9 d10 d11
  have HB4 : Hid (Below w.heap.size w w4) := HB3.out.trans (hb4.mono HB3.out.size)
  rcases h with ⟨-, rfl⟩ | ⟨-, a4, cap4, u, rfl, hT4, hu, hlo4, hof4, hls4, hfr4⟩
  · go_wp2_with fail
    go_ret
    exact ⟨rfl, HB4.out⟩
  have hu0 : ∃ e0, u[0]? = some e0 := by
    cases hu1 : u with
    | nil => rw [hu1] at hu; simp [putL] at hu
    | cons e0 r => exact ⟨e0, rfl⟩
  obtain ⟨e0, he0⟩ := hu0
  obtain ⟨g, off, rfl, -, -⟩ := hT4.row.1.2 0 e0 he0
  have HT4 := Lib.hid hT4
  have HOS : Hid (∀ W, Below w4.heap.size w4 W → OwnIn u g off V3.heap.size w4.heap.size W) := fun W hb => own_start HT4.out hlo4 hof4 hls4 hfr4 hb
  have hux : u.length ≤ maxLen := Nat.le_trans hT4.row.2.1 hT4.row.2.2.1
  unfold maxLen at hux
  clear hT4 hu hlo4 hof4 hls4 hfr4 he0
  go_wp2_with (go_at_call 18; refine (few12_any m a2 m.length cap2 w4 (HT3.out.go hb4)).mono ?_; rintro e w5 ⟨a5, cap5, ms, rfl, hT5, hm5, hlo5, hla5, hb5⟩)
  have HT5 := Lib.hid hT5
  have HM5 := Lib.hid hm5
  have HLO5 := Lib.hid hlo5
  have HLA5 := Lib.hid hla5.1
  have hb35 := hb4.trans (hb5.mono hb4.size)
  have hz4 := hb4.size
  have hz5 := hb5.size
  have HO5 : Hid (OwnIn u g off V3.heap.size w4.heap.size w5) := HOS.out w5 hb5
  clear hT5 hm5 hlo5 hla5
  go_loopw [9] (fun i wr => ∃ (k : Nat), i = .int .i64 k ∧ k ≤ u.length ∧ Hid (OwnIn u g off V3.heap.size w4.heap.size wr) ∧ Hid (Keep V3.heap.size w4.heap.size w5 wr) ∧ Hid (Below V3.heap.size V3 wr)) (fun i _ => u.length - (intOf i).toNat)
  case atStart => exact ⟨0, rfl, Nat.zero_le _, HO5.out, ⟨Nat.le_refl _, fun _ _ _ => rfl⟩, hb35⟩
  case round =>
    obtain ⟨k, rfl, hk, HOr, HKr, HBr⟩ := hrel
    by_cases hlt : k < u.length
    · obtain ⟨⟨y, q⟩, hy⟩ : ∃ y, u[k]? = some y := ⟨_, List.getElem?_eq_getElem hlt⟩
      have i0 : (0 : Int) ≤ (k : Int) := by omega
      have i1 : (k : Int) < (u.length : Int) := by omega
      by_cases hl0 : q.ll = 0
      · obtain ⟨c0, ⟨v11, c11⟩, f11⟩ := HOr.out.cells hy
        have t0 : decide ((0 : Int) < (q.ll : Int)) = false := by simp; omega
        have t1 : decide (0 < q.ll) = false := by simp; omega
        have HOn : Hid (OwnIn u g off V3.heap.size w4.heap.size (wr.setCell ⟨g, off + k * 12 + 11, none⟩ (.int .u64 77))) := HOr.out.setS _
        have HKn : Hid (Keep V3.heap.size w4.heap.size w5 (wr.setCell ⟨g, off + k * 12 + 11, none⟩ (.int .u64 77))) := HKr.out.set HOr.out.at_.1 HOr.out.at_.2 _
        have HBn : Hid (Below V3.heap.size V3 (wr.setCell ⟨g, off + k * 12 + 11, none⟩ (.int .u64 77))) := HBr.out.setCell (p := ⟨g, off + k * 12 + 11, none⟩) HOr.out.at_.1 _
        clear hy hl0
        go_wp2_with fail
        exact ⟨⟨k + 1, by go_num, by omega, HOn, HKn, HBn⟩, by simp [intOf]; omega⟩
      · obtain ⟨b, o, hla, hbg, hblo, hbhi, hLN⟩ := HOr.out.labs (y, q) (List.mem_of_getElem? hy) (by show 0 < q.ll; omega)
        dsimp only at hla
        obtain ⟨c0, -, -⟩ := HOr.out.cells hy
        dsimp only at c0
        rw [hla] at c0
        obtain ⟨⟨v0, q0⟩, g0⟩ := hLN.cell (i := o) (by omega)
        obtain ⟨⟨v1, q1⟩, g1⟩ := hLN.cell (i := o + 1) (by omega)
        have t0 : decide ((0 : Int) < (q.ll : Int)) = true := by simp; omega
        have t1 : decide (0 < q.ll) = true := by simp; omega
        have t2 : (0 : Int) < (q.ll : Int) := by omega
        obtain ⟨V, hV⟩ : ∃ V, (wr.setCell ⟨b, o, none⟩ (.string ⟨#[122, 122]⟩)).setCell ⟨b, o + 1, none⟩ (.string ⟨#[]⟩) = V := ⟨_, rfl⟩
        have HO1 : Hid (OwnIn u g off V3.heap.size w4.heap.size V) := by rw [Hid, ← hV]; exact (HOr.out.setL hbg _).setL hbg _
        have HK1 : Hid (Keep V3.heap.size w4.heap.size w5 V) := by rw [Hid, ← hV]; exact (HKr.out.set hblo hbhi _).set hblo hbhi _
        have HB1 : Hid (Below V3.heap.size V3 V) := by rw [Hid, ← hV]; exact (HBr.out.setCell (p := ⟨b, o, none⟩) hblo _).setCell (p := ⟨b, o + 1, none⟩) hblo _
        obtain ⟨d0, ⟨v11, d11⟩, f11⟩ := HO1.out.cells hy
        have HOn : Hid (OwnIn u g off V3.heap.size w4.heap.size (V.setCell ⟨g, off + k * 12 + 11, none⟩ (.int .u64 77))) := HO1.out.setS _
        have HKn : Hid (Keep V3.heap.size w4.heap.size w5 (V.setCell ⟨g, off + k * 12 + 11, none⟩ (.int .u64 77))) := HK1.out.set HO1.out.at_.1 HO1.out.at_.2 _
        have HBn : Hid (Below V3.heap.size V3 (V.setCell ⟨g, off + k * 12 + 11, none⟩ (.int .u64 77))) := HB1.out.setCell (p := ⟨g, off + k * 12 + 11, none⟩) HO1.out.at_.1 _
        clear hy hl0 hla hLN hbg hblo hbhi
        go_wp2_with fail
        exact ⟨⟨k + 1, by go_num, by omega, HOn, HKn, HBn⟩, by simp [intOf]; omega⟩
    · obtain rfl : k = u.length := by omega
      obtain ⟨w6, hw6⟩ : ∃ w6, w6 = wr := ⟨_, rfl⟩
      subst hw6
      have HTm : Hid (Tab V3.heap.size w6 a2 m.length cap2 m) := HT3.out.below HBr.out
      have HRs : Hid (SlC serEnc 12 w5.heap.size w6 a5 ms.length cap5 ms) := HT5.out.row.frame (q := fun b => b < V3.heap.size ∨ w4.heap.size ≤ b) (fun z hz _ => .inr (HLO5.out z hz)) (fun b hb hq => HKr.out.2 b hb hq)
      have HLs : Hid (∀ e ∈ ms, SlC Lab.enc 2 w5.heap.size w6 e.2.la e.2.ll e.2.lc e.1.l) := fun e he => (HT5.out.at_ e he).l.frame (q := fun b => b < V3.heap.size ∨ w4.heap.size ≤ b) (fun z hz _ => .inr (HLA5.out e he z hz)) (fun b hb hq => HKr.out.2 b hb hq)
      have hlen : ms.length = m.length := by have h1 := congrArg List.length HM5.out; have h2 := congrArg List.length HM.out; rw [List.length_map, HM.out, few_len] at h1; rw [List.length_map] at h2; omega
      have HSV : V3.heap.size ≤ w6.heap.size := HBr.out.size
      have HS5 : w5.heap.size ≤ w6.heap.size := HKr.out.1
      have HBw : Hid (Below w.heap.size w w6) := HB3.out.trans (HBr.out.mono HB3.out.size)
      have HFF : Hid (∀ (i : Nat) e e', m[i]? = some e → ms[i]? = some e' → e'.1.l = e.1.l ∧ e'.1.seen = e.1.seen) := fun i e e' h1 h2 => by
        refine few_few (L := l.map (·.1)) (i := i) (x := e.1) (y := e'.1) ?_ ?_
        · rw [← HM.out, List.getElem?_map, h1]; rfl
        · rw [← HM.out, ← HM5.out, List.getElem?_map, h2]; rfl
      generalize ms.length = nS at *
      subst hlen
      clear HOS HO5 HOr HKr HBr HT4
      go_wp2_with fail
      go_loopw [10, 11] (fun s i wr => ∃ (k : Nat), i = .int .i64 k ∧ s = .bool true ∧ k ≤ m.length ∧ Below w6.heap.size w6 wr) (fun _ i _ => m.length - (intOf i).toNat)
      case atStart => exact ⟨0, rfl, rfl, Nat.zero_le _, Below.refl _ _⟩
      case round =>
        obtain ⟨k, rfl, rfl, hk2, hB⟩ := hrel
        have hsz := hB.size
        by_cases hlt2 : k < m.length
        · obtain ⟨⟨x1, p1⟩, hx1⟩ : ∃ y, m[k]? = some y := ⟨_, List.getElem?_eq_getElem hlt2⟩
          obtain ⟨⟨x2, p2⟩, hx2⟩ : ∃ y, ms[k]? = some y := ⟨_, List.getElem?_eq_getElem (by rw [← HRs.out.1.1]; exact hlt2)⟩
          obtain ⟨b1, o1, rfl, hb1', hc1⟩ := HTm.out.row.1.2 k (x1, p1) hx1
          obtain ⟨b2, o2, rfl, hb2', hc2⟩ := HRs.out.1.2 k (x2, p2) hx2
          obtain ⟨hll, hss⟩ := HFF.out k _ _ hx1 hx2
          dsimp only at hll hss
          have c0 : wr.cell? ⟨b1, o1 + k * 12, none⟩ = some (.slice p1.la p1.ll p1.lc) := (hB.cell (p := ⟨b1, o1 + k * 12, none⟩) (by show b1 < _; omega)).trans (hc1 0 (by omega))
          have c11 : wr.cell? ⟨b1, o1 + k * 12 + 11, none⟩ = some (.int .u64 x1.seen) := (hB.cell (p := ⟨b1, o1 + k * 12 + 11, none⟩) (by show b1 < _; omega)).trans (hc1 11 (by omega))
          have d0 : wr.cell? ⟨b2, o2 + k * 12, none⟩ = some (.slice p2.la p2.ll p2.lc) := (hB.cell (p := ⟨b2, o2 + k * 12, none⟩) (by show b2 < _; omega)).trans (hc2 0 (by omega))
          have d11 : wr.cell? ⟨b2, o2 + k * 12 + 11, none⟩ = some (.int .u64 x1.seen) := (hB.cell (p := ⟨b2, o2 + k * 12 + 11, none⟩) (by show b2 < _; omega)).trans ((hc2 11 (by omega)).trans (by show some (Value.int .u64 x2.seen) = _; rw [hss]))
          have hq1 : b1 < wr.heap.size := by omega
          have hq2 : b2 < wr.heap.size := by omega
          have hL1 := (HTm.out.at_ _ (List.mem_of_getElem? hx1)).l
          have hL2 := HLs.out _ (List.mem_of_getElem? hx2)
          dsimp only at hL1 hL2
          rw [hll] at hL2
          have i0 : (0 : Int) ≤ (k : Int) := by omega
          have i1 : (k : Int) < (m.length : Int) := by omega
          go_wp2_with fail
          let Inv : World → Prop := fun W => Below wr.heap.size wr W
          have hgo : ∀ W W', Inv W → Below W.heap.size W W' → Inv W' := fun W W' h hb => Below.trans h (hb.mono h.size)
          have hfin : Hid (∀ X : WIn Inv, Below w6.heap.size w6 X.world) := fun X => hB.trans (Below.mono X.ok hB.size)
          have hI0 : Hid (Inv wr.drew) := (Below.refl _ _).drew
          have hne : Nonempty (WIn Inv) := ⟨⟨_, hI0.out⟩⟩
          have e0 : ∀ X : WIn Inv, X.world.cell? ⟨b1, o1 + k * 12, none⟩ = some (.slice p1.la p1.ll p1.lc) := fun X => (Below.cell X.ok (p := ⟨b1, o1 + k * 12, none⟩) hq1).trans c0
          have e11 : ∀ X : WIn Inv, X.world.cell? ⟨b1, o1 + k * 12 + 11, none⟩ = some (.int .u64 x1.seen) := fun X => (Below.cell X.ok (p := ⟨b1, o1 + k * 12 + 11, none⟩) hq1).trans c11
          have g0 : ∀ X : WIn Inv, X.world.cell? ⟨b2, o2 + k * 12, none⟩ = some (.slice p2.la p2.ll p2.lc) := fun X => (Below.cell X.ok (p := ⟨b2, o2 + k * 12, none⟩) hq2).trans d0
          have g11 : ∀ X : WIn Inv, X.world.cell? ⟨b2, o2 + k * 12 + 11, none⟩ = some (.int .u64 x1.seen) := fun X => (Below.cell X.ok (p := ⟨b2, o2 + k * 12 + 11, none⟩) hq2).trans d11
          have K0 : Hid (∀ X : WIn Inv, Calls Tryd.prog 25 #[.slice p1.la p1.ll p1.lc, .slice p2.la p2.ll p2.lc] X.world fun e w' => e = .returned (.bool true) ∧ ∃ Y : WIn Inv, w' = Y.world) := fun X => by
            have hSm := ref04_Same_any p1.la p1.ll p1.lc x1.l p2.la p2.ll p2.lc x1.l X.world (((hL1.mono HSV).go (hfin.out X)).1) (((hL2.mono HS5).go (hfin.out X)).1) (Nat.le_trans hL1.2.1 hL1.2.2.1)
            rw [show (x1.l == x1.l) = true by simp] at hSm
            exact calls_class_below hgo hSm
          clear hc1 hc2 hx1 hx2 hll hss hL1 hL2 c0 c11 d0 d11 hgo
          clear_value Inv
          refine wp_region_class Inv (by kernel_rfl) (by kernel_rfl) hI0.out ?_
          repeat (first | go_big_quiet_step ((go_at_call 25; with_reducible exact K0.out _)) | quiet_step ((go_at_call 25; with_reducible exact K0.out _)))
          refine wpQuiet_nil ?_
          rintro _ ⟨X, rfl⟩
          have hX := hfin.out X
          go_wp2_with fail
          all_goals go_roundw
          case rel => exact ⟨k + 1, by go_num, rfl, by omega, hX⟩
          case measure => simp [intOf]; omega
        · obtain rfl : k = m.length := by omega
          go_wp2_with fail
          go_ret
          exact ⟨rfl, HBw.out.trans (hB.mono HBw.out.size)⟩
end Go.Proofs.YtnmgfdkacibinaaDoor
