/- aviarylaw12.SeriesCosts answers true. -/
import Derived.Test.YtnmgfdkacibinaaDoorT8
import Derived.Test.YtnmgfdkacibinaaDoorP1
namespace Go.Proofs.YtnmgfdkacibinaaDoor
open Go Go.RowKit Go.Shelf

set_option maxRecDepth 100000 in
set_option maxHeartbeats 4000000 in
theorem costs_any (l : List (Ser × SerP)) (a : Option Addr) (len cap : Nat) (w : World) (hT : Tab w.heap.size w a len cap l) (hW : ∀ x ∈ l.map (·.1), x.wf) (hG : GW w) :
    Calls Tryd.prog 5 #[.slice a len cap] w fun e w' => e = .returned (.bool true) ∧ Below w.heap.size w w' := by
  have HT := Lib.hid hT
  have HW := Lib.hid hW
  have HG := Lib.hid hG
  clear hT hW hG
  go_enter Tryd.func5, Tryd.ntmps5
  go_wp2_with (first
    | (go_at_call 17; refine (shown12_any w HG.out).mono ?_; rintro e w1 ⟨rfl, hb1⟩)
    | (go_at_call 18; refine (few12_any l a len cap w1 (HT.out.go hb1)).mono ?_; rintro e w2 ⟨a2, cap2, m, rfl, hT2, hm, hlo, hla, hb2⟩; clear hlo hla))
  have HT2 := Lib.hid hT2
  have hB2 : Below w.heap.size w w2 := hb1.trans (hb2.mono hb1.size)
  have HF : Hid (TabFit m) := tabFit_of hT2 (by rw [hm]; exact fine_few HW.out)
  have HG2 : Hid (GW w2) := HG.out.below hB2
  clear hm hT2
  have hmm : m.length ≤ maxLen := Nat.le_trans HT2.out.row.2.1 HT2.out.row.2.2.1
  unfold maxLen at hmm
  have HRi := Lib.hid (series_Right_any m a2 m.length cap2 w2 HT2.out HF.out HG2.out)
  have HCo : Hid (∀ w', Below w2.heap.size w2 w' → Calls Tryd.prog 20 #[.slice a2 m.length cap2] w' fun e w'' => e = .returned (.int .i64 (tabCost (m.map (·.1)))) ∧ Below w'.heap.size w' w'') := fun w' hb => series_Cost_any m a2 m.length cap2 w' (HT2.out.go hb) HF.out (HG2.out.below hb)
  cases hr : tabRight (m.map (·.1)) with
  | false =>
    have hc0 : tabCost (m.map (·.1)) = 0 := by rw [tabCost, hr]; rfl
    rw [hc0] at HCo
    rw [hr] at HRi
    clear hr hc0
    go_wp2_with (first
      | (go_at_call 19; refine HRi.out.mono ?_; rintro e w3 ⟨rfl, hb3⟩)
      | (go_at_call 20; refine (HCo.out _ hb3).mono ?_; rintro e w4 ⟨rfl, hb4⟩))
    go_ret
    exact ⟨rfl, hB2.trans ((hb3.trans (hb4.mono hb3.size)).mono hB2.size)⟩
  | true =>
    have hc0 : tabCost (m.map (·.1)) = costL (m.map (·.1)) := by rw [tabCost, hr]; rfl
    rw [hc0] at HCo
    rw [hr] at HRi
    have HS := Lib.hid ((tabRight_iff _).1 hr).2.1
    have h20 : m.length ≤ 20 := by have := ((tabRight_iff _).1 hr).1; rwa [List.length_map] at this
    clear hr hc0
    go_wp2_with (go_at_call 19; refine HRi.out.mono ?_; rintro e w3 ⟨rfl, hb3⟩)
    clear HRi
    go_loopw [4, 5] (fun c i wr => ∃ (k : Nat) (s : Int), i = .int .i64 k ∧ c = .int .i64 s ∧ k ≤ m.length ∧ Below w2.heap.size w2 wr ∧ Hid (s = costL ((m.map (·.1)).take k)) ∧ 0 ≤ s ∧ s ≤ 220000000000 * k) (fun _ i _ => m.length - (intOf i).toNat)
    case atStart => exact ⟨0, 0, rfl, rfl, Nat.zero_le _, hb3, rfl, by omega, by omega⟩
    case round =>
      obtain ⟨k, s, rfl, rfl, hk, hB, HSu, hs0, hs1⟩ := hrel
      have hsz := hB.size
      by_cases hlt : k < m.length
      · obtain ⟨⟨x, p⟩, hx⟩ : ∃ x, m[k]? = some x := ⟨_, List.getElem?_eq_getElem hlt⟩
        obtain ⟨b, off, rfl, hbb, hc⟩ := (HT2.out.below hB).row.1.2 k (x, p) hx
        have c0 : wr.cell? ⟨b, off + k * 12, none⟩ = some (.slice p.la p.ll p.lc) := hc 0 (by omega)
        have c1 : wr.cell? ⟨b, off + k * 12 + 1, none⟩ = some (.int .i64 x.sk.kind) := hc 1 (by omega)
        have c2 : wr.cell? ⟨b, off + k * 12 + 2, none⟩ = some (.int .i64 x.sk.level) := hc 2 (by omega)
        have c3 : wr.cell? ⟨b, off + k * 12 + 3, none⟩ = some (.slice p.ss.ea p.ss.el p.ss.ec) := hc 3 (by omega)
        have c4 : wr.cell? ⟨b, off + k * 12 + 4, none⟩ = some (.int .i64 x.sk.hb) := hc 4 (by omega)
        have c5 : wr.cell? ⟨b, off + k * 12 + 5, none⟩ = some (.string x.sk.hr) := hc 5 (by omega)
        have c6 : wr.cell? ⟨b, off + k * 12 + 6, none⟩ = some (.int .i64 x.sk.cr) := hc 6 (by omega)
        have c7 : wr.cell? ⟨b, off + k * 12 + 7, none⟩ = some (.int .i64 x.sk.cc) := hc 7 (by omega)
        have c8 : wr.cell? ⟨b, off + k * 12 + 8, none⟩ = some (.slice p.ss.ca p.ss.cl p.ss.cc) := hc 8 (by omega)
        have c9 : wr.cell? ⟨b, off + k * 12 + 9, none⟩ = some (.int .i64 x.sk.gf) := hc 9 (by omega)
        have c10 : wr.cell? ⟨b, off + k * 12 + 10, none⟩ = some (.slice p.ss.ga p.ss.gl p.ss.gc) := hc 10 (by omega)
        have c11 : wr.cell? ⟨b, off + k * 12 + 11, none⟩ = some (.int .u64 x.seen) := hc 11 (by omega)
        have HX : Hid ((m.map (·.1))[k]? = some x) := by rw [Hid, List.getElem?_map, hx]; rfl
        have HP : Hid (p.At wr.heap.size wr x) := ((HT2.out.at_ _ (List.mem_of_getElem? hx)).below hB).mono hsz
        have HFx := Lib.hid (HF.out _ (List.mem_of_getElem? hx))
        have HGr : Hid (GW wr) := HG2.out.below hB
        have hT2 := textS_small HFx.out.lab
        obtain ⟨hC1, hC2⟩ := costOf_small HP.out.s HFx.out.short HFx.out.hr
        have H9 : Hid (costL ((m.map (·.1)).take (k + 1)) = s + (costOf x.sk + ((textS x.l).size : Int))) := by
          rw [Hid, take_snoc' HX.out, costL_append, ← HSu.out]; simp [costL, serCost]
        have hte : textE x.l = 0 := by
          have := HS.out x (List.mem_of_getElem? HX.out)
          simp only [serRight, Bool.and_eq_true] at this
          rw [textE, if_pos this.1]
        have HTx := label_Text_E p.la p.ll p.lc x.l wr HP.out.l.1 HFx.out.lab HGr.out HFx.out.ll
        rw [hte] at HTx
        have HCx : Hid (∀ w', Below wr.heap.size wr w' → Calls Tryd.prog 22 #[.agg #[.int .i64 x.sk.kind, .int .i64 x.sk.level, .slice p.ss.ea p.ss.el p.ss.ec, .int .i64 x.sk.hb, .string x.sk.hr, .int .i64 x.sk.cr, .int .i64 x.sk.cc, .slice p.ss.ca p.ss.cl p.ss.cc, .int .i64 x.sk.gf, .slice p.ss.ga p.ss.gl p.ss.gc]] w' fun e w'' => e = .returned (.int .i64 (costOf x.sk)) ∧ Below w'.heap.size w' w'') := fun w' hb => ladder_Cost_any x.sk p.ss w' (HP.out.go hb).s HFx.out.short HFx.out.fit HFx.out.hr
        generalize textS x.l = tx at *
        generalize costOf x.sk = cx at *
        clear hc hx hte
        have hbw : b < wr.heap.size := by omega
        go_wp2_with (first
          | (go_at_call 21; refine HTx.mono ?_; rintro e w4 ⟨rfl, hb4⟩; obtain ⟨hc4, hd4⟩ := bcell hb4)
          | (go_at_call 22; refine (HCx.out _ hb4).mono ?_; rintro e w5 ⟨rfl, hb5⟩))
        have hBB : Below w2.heap.size w2 w5 := hB.trans ((hb4.trans (hb5.mono hb4.size)).mono hsz)
        go_roundw
        case rel => exact ⟨k + 1, s + (tx.size : Int) + cx, by go_num, by go_num, by omega, hBB, by rw [Hid, H9.out]; omega, by omega, by omega⟩
        case measure => simp [intOf]; omega
      · obtain rfl : k = m.length := by omega
        have H9 : Hid (costL (m.map (·.1)) = s) := by rw [Hid, HSu.out, List.take_of_length_le (by rw [List.length_map]; exact Nat.le_refl _)]
        rw [H9.out] at HCo
        go_wp2_with (go_at_call 20; refine (HCo.out _ hB).mono ?_; rintro e w4 ⟨rfl, hb4⟩)
        go_ret
        exact ⟨rfl, hB2.trans ((hB.trans (hb4.mono hB.size)).mono hB2.size)⟩
end Go.Proofs.YtnmgfdkacibinaaDoor
