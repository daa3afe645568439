/- series.Put. -/
import Derived.Test.YthnfhklfmaeccaaGreatDoorT5
namespace Go.Proofs.YthnfhklfmaeccaaGreatDoor
open Go Go.RowKit Go.Shelf

theorem put_close {base : Nat} {L : List Ser} {x : Ser} {w w' : World} {v : Value} {M : List (Ser × SerP)} (hok : putOk L x = true) (hB : Below w.heap.size w w') (hb : w.heap.size ≤ base) (h : GrowS base (base ≤ ·) w' v M) (hM : M.map (·.1) = putL L x) (hfr : ∀ e ∈ M, LabFree w' e) : PutPost L x w (.returned (.tuple #[v, .int .i64 0])) w' := by
  have hown := h.own
  obtain ⟨a', cap', rfl, hT', hlo, hof⟩ := h.tab
  exact ⟨hB, .inr ⟨hok, a', cap', M, rfl, hT', hM, fun z hz => Nat.le_trans hb (hlo z hz), fun e he => (hof e he).imp fun b hb' => ⟨Nat.le_trans hb hb'.1, hb'.2⟩, fun z hz => owns_loose hown rfl hz, hfr⟩⟩

theorem make_table1 (w : World) (c : Nat) (hc : c ≤ 900) : ∃ w', (Instr.makeSlice 22 (.int .i64 0) (.int .i64 ((c : Int) + 1))).run Tryz.prog w = .ok (.slice (some ⟨w.heap.size, 0, none⟩) 0 (c + 1)) w' ∧ GrowS w.heap.size (w.heap.size ≤ ·) w' (.slice (some ⟨w.heap.size, 0, none⟩) 0 (c + 1)) [] ∧ Below w.heap.size w w' := by
  have h := make_table w (c + 1) (by omega)
  rw [show ((c + 1 : Nat) : Int) = (c : Int) + 1 by omega] at h
  exact h
theorem slice_from1 (a : Option Addr) (len cap m : Nat) (w : World) (h : m < len) : (Instr.slice 22 (.slice a len cap) (some (.int .i64 ((m : Int) + 1))) none none).run Tryz.prog w = .ok (.slice (dropA a cap (m + 1) 12) (len - (m + 1)) (cap - (m + 1))) w := by
  have h := slice_from a len cap (m + 1) w h
  rw [show ((m + 1 : Nat) : Int) = (m : Int) + 1 by omega] at h
  exact h
/-- An append of copies into a table that a call has made, from a table of older memory. -/
theorem add_old (base : Nat) (m : List (Ser × SerP)) (v : Value) (l : List (Ser × SerP)) (a : Option Addr) (len cap : Nat) (W w : World) (hW : W.heap.size ≤ base) (hb : Below W.heap.size W w) (hbase : base ≤ w.heap.size) (hM : GrowS base (base ≤ ·) w v m) (hT : Tab W.heap.size W a len cap l) (hA : AddFit l) (hn : m.length + l.length < 4294967) (hfree : ∀ e ∈ m, LabFree w e) :
    Calls Tryz.prog 17 #[v, .slice a len cap] w fun e w' => ∃ v' m', e = .returned v' ∧ GrowS base (base ≤ ·) w' v' (m ++ m') ∧ m'.map (·.1) = l.map (·.1) ∧ Below base w w' ∧ (∀ e ∈ m ++ m', LabFree w' e) := by
  have hlt := hM.own.lt
  refine series_add_any base m v l a len cap w hbase hM ((hT.below hb).mono hb.size) hA hn (fun z hz h0 h => ?_) (fun e he => (hT.at_ e he).off.imp fun b hb h => ?_) hfree
  · have h1 := (hT.row.2.2.2.2 z hz h0).2
    have h2 := (hlt _ h.symm).1
    omega
  · have h2 := (hlt _ h.symm).1
    omega

theorem add_new (base : Nat) (m : List (Ser × SerP)) (v : Value) (x : Ser) (p : SerP) (W w : World) (hW : W.heap.size ≤ base) (hb : Below W.heap.size W w) (hbase : base ≤ w.heap.size) (hM : GrowS base (base ≤ ·) w v m) (hP : p.At W.heap.size W x) (hA : AddFit [(x, p)]) (hn : m.length + 1 < 4294967) (hfree : ∀ e ∈ m, LabFree w e) :
    Calls Tryz.prog 17 #[v, .slice (some ⟨w.heap.size, 0, none⟩) 1 1] (w.alloc (.cells #[.slice p.la p.ll p.lc, .int .i64 x.sk.kind, .int .i64 x.sk.level, .slice p.ss.ea p.ss.el p.ss.ec, .int .i64 x.sk.hb, .string x.sk.hr, .int .i64 x.sk.cr, .int .i64 x.sk.cc, .slice p.ss.ca p.ss.cl p.ss.cc, .int .i64 x.sk.gf, .slice p.ss.ga p.ss.gl p.ss.gc, .int .u64 x.seen] 48)) fun e w' => ∃ v' m', e = .returned v' ∧ GrowS base (base ≤ ·) w' v' (m ++ m') ∧ m'.map (·.1) = [(x, p)].map (·.1) ∧ Below base w w' ∧ (∀ e ∈ m ++ m', LabFree w' e) := by
  have hlt := hM.own.lt
  have hB : Below w.heap.size w (w.alloc (.cells #[.slice p.la p.ll p.lc, .int .i64 x.sk.kind, .int .i64 x.sk.level, .slice p.ss.ea p.ss.el p.ss.ec, .int .i64 x.sk.hb, .string x.sk.hr, .int .i64 x.sk.cr, .int .i64 x.sk.cc, .slice p.ss.ca p.ss.cl p.ss.cc, .int .i64 x.sk.gf, .slice p.ss.ga p.ss.gl p.ss.gc, .int .u64 x.seen] 48)) := (Below.refl _ w).alloc (Nat.le_refl _) _
  have hz := hB.size
  refine (series_add_any base m v [(x, p)] (some ⟨w.heap.size, 0, none⟩) 1 1 (w.alloc (.cells #[.slice p.la p.ll p.lc, .int .i64 x.sk.kind, .int .i64 x.sk.level, .slice p.ss.ea p.ss.el p.ss.ec, .int .i64 x.sk.hb, .string x.sk.hr, .int .i64 x.sk.cr, .int .i64 x.sk.cc, .slice p.ss.ca p.ss.cl p.ss.cc, .int .i64 x.sk.gf, .slice p.ss.ga p.ss.gl p.ss.gc, .int .u64 x.seen] 48)) (by omega) (hM.go hB) (tab_one ((hP.below hb).mono hb.size)) hA hn (fun z hz h0 h => ?_) (fun e he => ?_) (fun e he z hz h0 => (hfree e he z hz h0).go hB)).mono ?_
  · injection hz with hz
    subst hz
    have h2 := (hlt _ h.symm).2
    dsimp only at h2
    omega
  · rw [List.mem_singleton] at he
    subst he
    refine hP.off.imp fun b hb h => ?_
    have h2 := (hlt _ h.symm).1
    omega
  · rintro e w' ⟨v', m', h1, h2, h3, h4, h5⟩
    exact ⟨v', m', h1, h2, h3, (hB.mono hbase).trans h4, h5⟩

set_option maxRecDepth 100000 in
set_option maxHeartbeats 4000000 in
theorem series_Put_any (l : List (Ser × SerP)) (a : Option Addr) (len cap : Nat) (x : Ser) (p : SerP) (w : World) (hT : Tab w.heap.size w a len cap l) (hF : TabFit l) (hP : p.At w.heap.size w x) (hS : SerFit x p) (hG : GW w) :
    Calls Tryz.prog 8 #[.slice a len cap, .agg #[.slice p.la p.ll p.lc, .int .i64 x.sk.kind, .int .i64 x.sk.level, .slice p.ss.ea p.ss.el p.ss.ec, .int .i64 x.sk.hb, .string x.sk.hr, .int .i64 x.sk.cr, .int .i64 x.sk.cc, .slice p.ss.ca p.ss.cl p.ss.cc, .int .i64 x.sk.gf, .slice p.ss.ga p.ss.gl p.ss.gc, .int .u64 x.seen]] w (PutPost (l.map (·.1)) x w) := by
  have hlen := hT.row.1.1
  subst hlen
  obtain ⟨W0, hW0, hX0, hB0, hs0⟩ := boxes1 w #[.slice p.la p.ll p.lc, .int .i64 x.sk.kind, .int .i64 x.sk.level, .slice p.ss.ea p.ss.el p.ss.ec, .int .i64 x.sk.hb, .string x.sk.hr, .int .i64 x.sk.cr, .int .i64 x.sk.cc, .slice p.ss.ca p.ss.cl p.ss.cc, .int .i64 x.sk.gf, .slice p.ss.ga p.ss.gl p.ss.gc, .int .u64 x.seen] 48
  have c0 : W0.cell? ⟨w.heap.size, 0, none⟩ = some (.slice p.la p.ll p.lc) := cell_of_cells hX0 0
  have c1 : W0.cell? ⟨w.heap.size, 1, none⟩ = some (.int .i64 x.sk.kind) := cell_of_cells hX0 1
  have c2 : W0.cell? ⟨w.heap.size, 2, none⟩ = some (.int .i64 x.sk.level) := cell_of_cells hX0 2
  have c3 : W0.cell? ⟨w.heap.size, 3, none⟩ = some (.slice p.ss.ea p.ss.el p.ss.ec) := cell_of_cells hX0 3
  have c4 : W0.cell? ⟨w.heap.size, 4, none⟩ = some (.int .i64 x.sk.hb) := cell_of_cells hX0 4
  have c5 : W0.cell? ⟨w.heap.size, 5, none⟩ = some (.string x.sk.hr) := cell_of_cells hX0 5
  have c6 : W0.cell? ⟨w.heap.size, 6, none⟩ = some (.int .i64 x.sk.cr) := cell_of_cells hX0 6
  have c7 : W0.cell? ⟨w.heap.size, 7, none⟩ = some (.int .i64 x.sk.cc) := cell_of_cells hX0 7
  have c8 : W0.cell? ⟨w.heap.size, 8, none⟩ = some (.slice p.ss.ca p.ss.cl p.ss.cc) := cell_of_cells hX0 8
  have c9 : W0.cell? ⟨w.heap.size, 9, none⟩ = some (.int .i64 x.sk.gf) := cell_of_cells hX0 9
  have c10 : W0.cell? ⟨w.heap.size, 10, none⟩ = some (.slice p.ss.ga p.ss.gl p.ss.gc) := cell_of_cells hX0 10
  have c11 : W0.cell? ⟨w.heap.size, 11, none⟩ = some (.int .u64 x.seen) := cell_of_cells hX0 11
  have HT := Lib.hid hT
  have HT0 : Hid (Tab W0.heap.size W0 a l.length cap l) := hT.go hB0
  have HF := Lib.hid hF
  have HP := Lib.hid hP
  have HP0 : Hid (p.At W0.heap.size W0 x) := hP.go hB0
  have HS := Lib.hid hS
  have HG0 : Hid (GW W0) := hG.below hB0
  have hz0 : w.heap.size < W0.heap.size := by omega
  have hR := series_Right_any l a l.length cap W0 HT0.out HF.out HG0.out
  clear hT hF hP hS hG hs0
  cases hr : tabRight (l.map (·.1)) with
  | false =>
    rw [hr] at hR
    have H9 : Hid (putOk (l.map (·.1)) x = false) := by rw [Hid, putOk, hr]; rfl
    clear hr
    generalize l.map (·.1) = L at H9 ⊢
    go_enter Tryz.func8, Tryz.ntmps8
    go_wp2_with (go_at_call 11; refine hR.mono ?_; rintro e w1 ⟨rfl, hb1⟩)
    go_ret2
    exact ⟨hB0.trans (hb1.mono (by omega)), .inl ⟨H9.out, rfl⟩⟩
  | true =>
    rw [hr] at hR
    have HR2 : Hid (∀ w', Below W0.heap.size W0 w' → Calls Tryz.prog 15 #[.agg #[.slice p.la p.ll p.lc, .int .i64 x.sk.kind, .int .i64 x.sk.level, .slice p.ss.ea p.ss.el p.ss.ec, .int .i64 x.sk.hb, .string x.sk.hr, .int .i64 x.sk.cr, .int .i64 x.sk.cc, .slice p.ss.ca p.ss.cl p.ss.cc, .int .i64 x.sk.gf, .slice p.ss.ga p.ss.gl p.ss.gc, .int .u64 x.seen]] w' fun e w'' => e = .returned (.bool (serRight x)) ∧ Below w'.heap.size w' w'') := fun w' hb => rightSeries_any x p w' (HP0.out.go hb) HS.out (HG0.out.below hb)
    cases hsr : serRight x with
    | false =>
      have H9 : Hid (putOk (l.map (·.1)) x = false) := by rw [Hid, putOk, hr, hsr]; rfl
      rw [hsr] at HR2
      clear hr hsr
      generalize l.map (·.1) = L at H9 ⊢
      go_enter Tryz.func8, Tryz.ntmps8
      go_wp2_with (first
        | (go_at_call 11; refine hR.mono ?_; rintro e w1 ⟨rfl, hb1⟩; obtain ⟨hc1, hd1⟩ := bcell hb1)
        | (go_at_call 15; refine (HR2.out _ hb1).mono ?_; rintro e w2 ⟨rfl, hb2⟩))
      go_ret2
      exact ⟨hB0.trans ((hb1.trans (hb2.mono hb1.size)).mono (by omega)), .inl ⟨H9.out, rfl⟩⟩
    | true =>
      rw [hsr] at HR2
      have hk := findAt_le (l.map (·.1)) x.l
      rw [List.length_map] at hk
      have h20 : l.length ≤ 20 := by simp [tabRight] at hr; exact hr.1
      have hcap : l.length ≤ cap := HT.out.row.2.1
      have hpl : p.ll ≤ maxLen := Nat.le_trans HP.out.l.2.1 HP.out.l.2.2.1
      have HFd : Hid (∀ w', Below W0.heap.size W0 w' → Calls Tryz.prog 16 #[.slice a l.length cap, .slice p.la p.ll p.lc] w' fun e w'' => e = .returned (.tuple #[.int .i64 (findAt (l.map (·.1)) x.l : Int), .bool (thereAt (l.map (·.1)) x.l)]) ∧ Below w'.heap.size w' w'') := fun w' hb => by
        have := series_Find_any l a l.length cap x.l p.la p.ll p.lc w' (HT0.out.go hb) HF.out (HG0.out.below hb) (HP0.out.go hb).l.1 hpl
        rw [hr, if_pos rfl, Bool.true_and] at this
        exact this
      have HAF : Hid (AddFit l) := addFit_of hr HF.out HT.out
      have HAF1 : Hid (AddFit [(x, p)]) := fun e he => by
        rw [List.mem_singleton] at he
        subst he
        simp only [serRight, Bool.and_eq_true] at hsr
        exact HS.out.add hsr.1 HP.out
      have HOK : Hid (putOk (l.map (·.1)) x = (thereAt (l.map (·.1)) x.l || !((l.map (·.1)).length == 20))) := by rw [Hid, putOk, hr, hsr]; rfl
      have HPL : Hid (∀ m1 m2 m3 : List (Ser × SerP), m1.map (·.1) = (l.take (findAt (l.map (·.1)) x.l)).map (·.1) → m2.map (·.1) = [(x, p)].map (·.1) → m3.map (·.1) = (l.drop (findAt (l.map (·.1)) x.l + (if thereAt (l.map (·.1)) x.l then 1 else 0))).map (·.1) → ((([] ++ m1) ++ m2) ++ m3).map (fun e : Ser × SerP => e.1) = putL (l.map (·.1)) x) := fun m1 m2 m3 h1 h2 h3 => by
        rw [List.map_append, List.map_append, List.nil_append, h1, h2, h3, putL, List.map_take, List.map_drop]
        simp
      have HLL : Hid ((l.map (·.1)).length = l.length) := List.length_map ..
      have HK1 : Hid (thereAt (l.map (·.1)) x.l = true → findAt (l.map (·.1)) x.l < l.length) := fun h => by
        unfold thereAt at h
        cases hx : (l.map (·.1))[findAt (l.map (·.1)) x.l]? with
        | none => rw [hx] at h; cases h
        | some y => have := (List.getElem?_eq_some_iff.1 hx).1; rw [List.length_map] at this; exact this
      clear hr hsr
      generalize hkT : findAt (l.map (·.1)) x.l = kT at *
      generalize hbT : thereAt (l.map (·.1)) x.l = bT at *
      generalize l.map (·.1) = L at *
      clear hkT hbT
      cases bT with
      | false =>
        by_cases h19 : l.length = 20
        · have H9 : Hid (putOk L x = false) := by rw [Hid, HOK.out, HLL.out, h19]; rfl
          have h19' : (l.length : Int) = 20 := by omega
          clear h19
          go_enter Tryz.func8, Tryz.ntmps8
          go_wp2_with (first
            | (go_at_call 11; refine hR.mono ?_; rintro e w1 ⟨rfl, hb1⟩; obtain ⟨hc1, hd1⟩ := bcell hb1)
            | (go_at_call 15; refine (HR2.out _ hb1).mono ?_; rintro e w2 ⟨rfl, hb2⟩; have hb02 := hb1.trans (hb2.mono hb1.size); obtain ⟨hc2, hd2⟩ := bcell hb02)
            | (go_at_call 16; refine (HFd.out _ hb02).mono ?_; rintro e w3 ⟨rfl, hb3⟩))
          go_ret2
          exact ⟨hB0.trans ((hb02.trans (hb3.mono hb02.size)).mono (by omega)), .inl ⟨H9.out, rfl⟩⟩
        · have H9 : Hid (putOk L x = true) := by rw [Hid, HOK.out, HLL.out]; simp; omega
          have h19' : ¬ ((l.length : Int) = 20) := by omega
          clear h19
          go_enter Tryz.func8, Tryz.ntmps8
          go_wp2_with (first
            | (go_at_call 11; refine hR.mono ?_; rintro e w1 ⟨rfl, hb1⟩; obtain ⟨hc1, hd1⟩ := bcell hb1)
            | (go_at_call 15; refine (HR2.out _ hb1).mono ?_; rintro e w2 ⟨rfl, hb2⟩; have hb02 := hb1.trans (hb2.mono hb1.size); obtain ⟨hc2, hd2⟩ := bcell hb02)
            | (go_at_call 16; refine (HFd.out _ hb02).mono ?_; rintro e w3 ⟨rfl, hb3⟩; have hb03 := hb02.trans (hb3.mono hb02.size); obtain ⟨w4, hmk, hG4, hb4⟩ := make_table1 w3 l.length (by omega); have hsl := slice_to a l.length cap kT w4 (by omega); have hb04 := hb03.trans (hb4.mono hb03.size); obtain ⟨hc4, hd4⟩ := bcell hb04))
          have hz4 := hb04.size
          have hz3 := hb03.size
          have hz34 := hb4.size
          go_at_call 17
          refine (add_old w3.heap.size [] _ (l.take kT) a kT cap W0 w4 hz3 hb04 hz34 hG4 (HT0.out.take kT hk) (fun e he => HAF.out e (List.mem_of_mem_take he)) (by simp; omega) (fun e h => by cases h)).mono ?_
          rintro e w5 ⟨v5, m1, rfl, hG5, hm1, hb5, hf5⟩
          have hb05 : Below W0.heap.size W0 w5 := hb04.trans (hb5.mono hz3)
          obtain ⟨hc5, hd5⟩ := bcell hb05
          have hz5 := hb5.size
          have HG5 := Lib.hid hG5
          have HF5 := Lib.hid hf5
          clear hf5
          have HM1 := Lib.hid hm1
          clear hG4 hG5 hm1
          have hlm1 : m1.length ≤ 20 := by have := congrArg List.length HM1.out; simp at this; omega
          go_wp2_with fail
          refine (add_new w3.heap.size _ _ x p W0 w5 hz3 hb05 (by omega) HG5.out HP0.out HAF1.out (by simp; omega) HF5.out).mono ?_
          rintro e w6 ⟨v6, m2, rfl, hG6, hm2, hb6, hf6⟩
          have hb06 : Below W0.heap.size W0 w6 := hb05.trans (hb6.mono hz3)
          have hz6 := hb6.size
          have HG6 := Lib.hid hG6
          have HF6 := Lib.hid hf6
          clear hf6
          have HM2 := Lib.hid hm2
          have hlm2 : m2.length = 1 := by have := congrArg List.length hm2; simpa using this
          have HL2 := Lib.hid hlm2
          have hsl6 := slice_from a l.length cap kT w6 hk
          clear hG6 hm2 hlm2 hsl
          go_wp2_with fail
          refine (add_old w3.heap.size _ _ (l.drop kT) _ _ _ W0 w6 hz3 hb06 (by omega) HG6.out (HT0.out.drop kT (by omega)) (fun e he => HAF.out e (List.mem_of_mem_drop he)) (by simp [HL2.out]; omega) HF6.out).mono ?_
          rintro e w7 ⟨v7, m3, rfl, hG7, hm3, hb7, hf7⟩
          have hb07 : Below W0.heap.size W0 w7 := hb06.trans (hb7.mono hz3)
          have HG7 := Lib.hid hG7
          have HF7 := Lib.hid hf7
          clear hf7
          have HM3 := Lib.hid hm3
          clear hG7 hm3
          go_wp2_with fail
          go_ret2
          exact put_close H9.out (hB0.trans (hb07.mono (by omega))) (by omega) HG7.out (HPL.out m1 m2 m3 HM1.out HM2.out HM3.out) HF7.out
      | true =>
        have H9 : Hid (putOk L x = true) := HOK.out
        have hk1 : kT < l.length := HK1.out rfl
        go_enter Tryz.func8, Tryz.ntmps8
        go_wp2_with (first
          | (go_at_call 11; refine hR.mono ?_; rintro e w1 ⟨rfl, hb1⟩; obtain ⟨hc1, hd1⟩ := bcell hb1)
          | (go_at_call 15; refine (HR2.out _ hb1).mono ?_; rintro e w2 ⟨rfl, hb2⟩; have hb02 := hb1.trans (hb2.mono hb1.size); obtain ⟨hc2, hd2⟩ := bcell hb02)
          | (go_at_call 16; refine (HFd.out _ hb02).mono ?_; rintro e w3 ⟨rfl, hb3⟩; have hb03 := hb02.trans (hb3.mono hb02.size); obtain ⟨w4, hmk, hG4, hb4⟩ := make_table1 w3 l.length (by omega); have hsl := slice_to a l.length cap kT w4 (by omega); have hb04 := hb03.trans (hb4.mono hb03.size); obtain ⟨hc4, hd4⟩ := bcell hb04))
        have hz4 := hb04.size
        have hz3 := hb03.size
        have hz34 := hb4.size
        go_at_call 17
        refine (add_old w3.heap.size [] _ (l.take kT) a kT cap W0 w4 hz3 hb04 hz34 hG4 (HT0.out.take kT hk) (fun e he => HAF.out e (List.mem_of_mem_take he)) (by simp; omega) (fun e h => by cases h)).mono ?_
        rintro e w5 ⟨v5, m1, rfl, hG5, hm1, hb5, hf5⟩
        have hb05 : Below W0.heap.size W0 w5 := hb04.trans (hb5.mono hz3)
        obtain ⟨hc5, hd5⟩ := bcell hb05
        have hz5 := hb5.size
        have HG5 := Lib.hid hG5
        have HF5 := Lib.hid hf5
        clear hf5
        have HM1 := Lib.hid hm1
        clear hG4 hG5 hm1
        have hlm1 : m1.length ≤ 20 := by have := congrArg List.length HM1.out; simp at this; omega
        go_wp2_with fail
        refine (add_new w3.heap.size _ _ x p W0 w5 hz3 hb05 (by omega) HG5.out HP0.out HAF1.out (by simp; omega) HF5.out).mono ?_
        rintro e w6 ⟨v6, m2, rfl, hG6, hm2, hb6, hf6⟩
        have hb06 : Below W0.heap.size W0 w6 := hb05.trans (hb6.mono hz3)
        have hz6 := hb6.size
        have HG6 := Lib.hid hG6
        have HF6 := Lib.hid hf6
        clear hf6
        have HM2 := Lib.hid hm2
        have hlm2 : m2.length = 1 := by have := congrArg List.length hm2; simpa using this
        have HL2 := Lib.hid hlm2
        have hsl6 := slice_from1 a l.length cap kT w6 hk1
        clear hG6 hm2 hlm2 hsl
        go_wp2_with fail
        refine (add_old w3.heap.size _ _ (l.drop (kT + 1)) _ _ _ W0 w6 hz3 hb06 (by omega) HG6.out (HT0.out.drop (kT + 1) (by omega)) (fun e he => HAF.out e (List.mem_of_mem_drop he)) (by simp [HL2.out]; omega) HF6.out).mono ?_
        rintro e w7 ⟨v7, m3, rfl, hG7, hm3, hb7, hf7⟩
        have hb07 : Below W0.heap.size W0 w7 := hb06.trans (hb7.mono hz3)
        have HG7 := Lib.hid hG7
        have HF7 := Lib.hid hf7
        clear hf7
        have HM3 := Lib.hid hm3
        clear hG7 hm3
        go_wp2_with fail
        go_ret2
        exact put_close H9.out (hB0.trans (hb07.mono (by omega))) (by omega) HG7.out (HPL.out m1 m2 m3 HM1.out HM2.out HM3.out) HF7.out

end Go.Proofs.YthnfhklfmaeccaaGreatDoor
