/- aviarylaw13.QuotaVictims answers true. -/
import Derived.Test.YthbhmnakmhambaaGreatDoorZQE
import Derived.Test.YthbhmnakmhambaaGreatDoorZRS
namespace Go.Proofs.YthbhmnakmhambaaGreatDoor
open Go Go.RowKit Go.Shelf
theorem Tab.blk {n : Nat} {w : World} {a : Option Addr} {len cap : Nat} {l : List (Ser × SerP)} (h : Tab n w a len cap l) {k : Nat} {e : Ser × SerP} (he : l[k]? = some e) : ∃ b off, a = some ⟨b, off, none⟩ ∧ b < n ∧ ∀ (j : Nat) (x : Ser × SerP), l[j]? = some x → ∀ i, (hi : i < 12) → w.cell? ⟨b, off + j * 12 + i, none⟩ = some ((serEnc x)[i]'(by rw [serEnc_len]; exact hi)) := by
 obtain ⟨b, off, ha, hb, hc⟩ := h.row.1.2 k e he
 refine ⟨b, off, ha, hb, fun j x hx i hi => ?_⟩
 obtain ⟨b', off', e', hb', hc'⟩ := h.row.1.2 j x hx
 rw [ha] at e'
 cases e'
 rw [hc' i hi]
 exact List.getElem?_eq_getElem _
def anyMay (L : List Ser) (k : Nat) : Bool := (L.take k).any mayLow
theorem anyMay_succ {L : List Ser} {k : Nat} {x : Ser} (h : L[k]? = some x) : anyMay L (k + 1) = (anyMay L k || mayLow x) := by
 unfold anyMay
 rw [take_snoc' h, List.any_append]
 simp
set_option maxRecDepth 100000 in
set_option maxHeartbeats 4000000 in
theorem quotaVictims_any (l : List (Ser × SerP)) (a : Option Addr) (len cap : Nat) (w : World) (hT : Tab w.heap.size w a len cap l) (hU : ∀ x ∈ l.map (·.1), Ser.wn x) (hG : GW w) (_ : GT w) :
  Calls Tryz.prog 3 #[.slice a len cap] w fun e w' => e = .returned (.bool true) ∧ Below w.heap.size w w' := by
 have HT := Lib.hid hT
 have HG := Lib.hid hG
 obtain ⟨L, hL⟩ : ∃ L, few12 (l.map (·.1)) = L := ⟨_, rfl⟩
 have HQ : Hid (tabRight L = true → QT L) := by rw [← hL]; exact qt_few hU
 have HFi : Hid (∀ x ∈ L, x.fine) := by rw [← hL]; exact fine_few (fun y hy => (hU y hy).wf)
 have HL := Lib.hid hL
 clear hT hU hG hL
 go_enter Tryz.func3, Tryz.ntmps3
 go_wp2_with (first
  | (go_at_call 7; refine (shown13_any w HG.out).mono ?_; rintro e w1 ⟨rfl, hb1⟩)
  | (go_at_call 8; refine (few12_any l a len cap w1 (HT.out.go hb1)).mono ?_; rintro e w2 ⟨a2, cap2, m, rfl, hT2, hm, hlo, hla, hb2⟩; clear hlo hla))
 have hB2 := hb1.trans (hb2.mono hb1.size)
 have HM : Hid (m.map (·.1) = L) := hm.trans HL.out
 have HT2 := Lib.hid hT2
 have HF : Hid (TabFit m) := tabFit_of hT2 (by rw [HM.out]; exact HFi.out)
 have HG2 : Hid (∀ W, Below w2.heap.size w2 W → GW W) := fun W hb => HG.out.below (hB2.trans (hb.mono hB2.size))
 have hV := Victim_any m a2 m.length cap2 w2 hT2 HF.out (HG2.out _ (Below.refl _ _))
 have HR : Hid (∀ W, Below w2.heap.size w2 W → Calls Tryz.prog 10 #[.slice a2 m.length cap2] W fun e w' => e = .returned (.bool (tabRight L)) ∧ Below W.heap.size W w') := fun W hb => by
  have h := series_Right_any m a2 m.length cap2 W (HT2.out.go hb) HF.out (HG2.out W hb)
  rw [HM.out] at h
  exact h
 have hm1 : m.length ≤ maxLen := Nat.le_trans hT2.row.2.1 hT2.row.2.2.1
 have hcap : m.length ≤ cap2 := hT2.row.2.1
 unfold maxLen at hm1
 rw [HM.out] at hV
 have HB2 := Lib.hid hB2
 clear hT2 hm HL HT hb1 hb2 hB2
 refine hV.mono ?_
 rintro e w3 ⟨rfl, hb3⟩
 clear hV
 cases hr : tabRight L with
 | false =>
  rw [hr] at HR
  have t1 : vicB L = false := by rw [vicB, hr]; rfl
  rw [t1]
  generalize vicP L = vp
  clear hr t1
  go_wp2_with fail
  refine (HR.out w3 hb3).mono ?_
  rintro e w4 ⟨rfl, hb4⟩
  go_wp2_with fail
  go_ret
  exact ⟨rfl, HB2.out.trans ((hb3.trans (hb4.mono hb3.size)).mono HB2.out.size)⟩
 | true =>
 rw [hr] at HR
 have hq := HQ.out hr
 have t1 : vicB L = (vic L).2.2 := by rw [vicB, hr]; rfl
 have t2 : vicP L = ((vic L).1 : Int) := by rw [vicP, hr]; rfl
 have hva := vic_at L
 rw [t1, t2]
 have HQT := Lib.hid hq
 have hlen : L.length = m.length := by rw [← HM.out, List.length_map]
 have HLen := Lib.hid hlen
 obtain ⟨v, hv⟩ : ∃ v, (vic L).1 = v := ⟨_, rfl⟩
 obtain ⟨g, hg⟩ : ∃ g, (vic L).2.1 = g := ⟨_, rfl⟩
 obtain ⟨ok, hok⟩ : ∃ ok, (vic L).2.2 = ok := ⟨_, rfl⟩
 have hva' : VicAt L L.length (v, g, ok) := by rw [← hv, ← hg, ← hok]; exact hva
 rw [hv, hok]
 have HBT : Hid (∀ (x : Ser) w, Calls Tryz.prog 11 #[.int .i64 x.sk.kind] w fun e w' => e = .returned (.int .i64 (bottomB x.sk.kind)) ∧ w' = w) := fun x w => (Bottom_any x.sk.kind w).mono fun e w' ⟨h1, h2⟩ => ⟨h1, h2.symm⟩
 have HS := Lib.hid ((tabRight_iff _).1 hr).2.1
 have HXM : Hid (∀ (k : Nat) (x : Ser) (p : SerP), m[k]? = some (x, p) → L[k]? = some x) := fun k x p h => by rw [← HM.out, List.getElem?_map, h]; rfl
 have HCo : Hid (∀ (k : Nat) (x : Ser) (p : SerP) W, m[k]? = some (x, p) → Below w2.heap.size w2 W → Calls Tryz.prog 12 #[.slice (dropA a2 cap2 k 12) 1 (cap2 - k)] W fun e w' => e = .returned (.int .i64 (serCost x)) ∧ Below W.heap.size W w') := fun k x p W hx hW => by
  have hF1 : TabFit [(x, p)] := fun e he => by rw [List.mem_singleton] at he; subst he; exact HF.out _ (List.mem_of_getElem? hx)
  have := series_Cost_any _ _ _ _ W (((HT2.out.below hW).mono hW.size).mid hx) hF1 (HG2.out W hW)
  rw [show ([(x, p)] : List (Ser × SerP)).map (·.1) = [x] from rfl, tabCost_one (HS.out x (List.mem_of_getElem? (HXM.out k x p hx)))] at this
  exact this
 have HSm : Hid (∀ (k : Nat) (x : Ser) (p : SerP), m[k]? = some (x, p) → 0 ≤ serCost x ∧ serCost x ≤ 220000000000) := fun k x p hx => serCost_small (HT2.out.at_ _ (List.mem_of_getElem? hx)) (HF.out _ (List.mem_of_getElem? hx))
 clear hr t1 t2 hva hq hlen hv hg hok
 go_wp2_with fail
 refine (HR.out w3 hb3).mono ?_
 rintro e w4 ⟨rfl, hb4⟩
 have hb24 := hb3.trans (hb4.mono hb3.size)
 clear HR
 cases ok with
 | false =>
  obtain ⟨h1, h2, h3⟩ := hva'.none rfl
  dsimp only at h1 h2
  subst h1 h2
  have HNo := Lib.hid h3
  clear h3 hva'
  go_wp2_with fail
  go_loopw [6, 7] (fun so i wr => ∃ (k : Nat), i = .int .i64 k ∧ so = .bool false ∧ k ≤ m.length ∧ Below w2.heap.size w2 wr) (fun _ i _ => m.length - (intOf i).toNat)
  case atStart => exact ⟨0, rfl, rfl, Nat.zero_le _, hb24⟩
  case round =>
   obtain ⟨k, rfl, rfl, hk, hB⟩ := hrel
   by_cases hlt : k < m.length
   ·obtain ⟨⟨x, p⟩, hx⟩ : ∃ x, m[k]? = some x := ⟨_, List.getElem?_eq_getElem hlt⟩
    obtain ⟨bb, off, rfl, hbb, hc⟩ := (HT2.out.below hB).blk hx
    have c1 : wr.cell? ⟨bb, off + k * 12 + 1, none⟩ = some (.int .i64 x.sk.kind) := hc k _ hx 1 (by decide)
    have c2 : wr.cell? ⟨bb, off + k * 12 + 2, none⟩ = some (.int .i64 x.sk.level) := hc k _ hx 2 (by decide)
    have hn : mayLow x = false := HNo.out k x (by rw [HLen.out]; exact hlt) (HXM.out k x p hx)
    have hn2 : decide (x.sk.level < bottomB x.sk.kind) = false := hn
    have HB9 := Lib.hid (HBT.out x)
    generalize bottomB x.sk.kind = bt at HB9 hn2
    have i0 : (0 : Int) ≤ (k : Int) := by omega
    have i1 : (k : Int) < (m.length : Int) := by omega
    have hn3 : ¬ x.sk.level < bt := of_decide_eq_false hn2
    clear hc hx hn hn2
    go_wp2_with fail
    go_quiet ((go_at_call 11; exact Calls.quiet_of_same (HB9.out _)))
    go_wp2_with fail
    all_goals go_roundw
    case rel => exact ⟨k + 1, by go_num, rfl, by omega, hB.trans ((drewN_below nq).mono hB.size)⟩
    case measure => simp [intOf]; omega
   ·obtain rfl : k = m.length := by omega
    go_wp2_with fail
    go_ret
    exact ⟨rfl, HB2.out.trans (hB.mono HB2.out.size)⟩
 | true =>
  obtain ⟨hv1, ⟨xv, hxv, hmv, hgv⟩, hle⟩ := hva'.some rfl
  dsimp only at hv1 hxv hgv hle
  have hvm : v < m.length := by rw [← HLen.out]; exact hv1
  obtain ⟨⟨yv, pv⟩, hyv⟩ : ∃ x, m[v]? = some x := ⟨_, List.getElem?_eq_getElem hvm⟩
  obtain rfl : yv = xv := Option.some.inj ((HXM.out v yv pv hyv).symm.trans hxv)
  have HYV := Lib.hid hyv
  have HLE := Lib.hid hle
  have HMV := Lib.hid (And.intro hxv (And.intro hmv hgv))
  have HRf : Hid (∀ W, Below w2.heap.size w2 W → Calls Tryz.prog 13 #[.agg #[.int .i64 yv.sk.kind, .int .i64 yv.sk.level, .slice pv.ss.ea pv.ss.el pv.ss.ec, .int .i64 yv.sk.hb, .string yv.sk.hr, .int .i64 yv.sk.cr, .int .i64 yv.sk.cc, .slice pv.ss.ca pv.ss.cl pv.ss.cc, .int .i64 yv.sk.gf, .slice pv.ss.ga pv.ss.gl pv.ss.gc]] W fun e w' => e = .returned (.bool true) ∧ Below W.heap.size W w') := fun W hb => by
   have hgd := HQT.out.good yv (List.mem_of_getElem? hxv)
   have h1 := ref10_Right_good yv.sk pv.ss W hgd.sk ((HT2.out.go hb).at_ _ (List.mem_of_getElem? HYV.out)).s
   exact h1
  have hsv := HSm.out v yv pv hyv
  have hcv := HCo.out v yv pv
  have hcv' := Lib.hid (fun W => hcv W HYV.out)
  have hslv := fun W => slice_mid a2 m.length cap2 v W (by omega)
  rw [hgv] at hsv hcv'
  have g0 : ¬ ((v : Int) < 0) := by omega
  have g1 : ¬ ((m.length : Int) ≤ (v : Int)) := by omega
  obtain ⟨sv0, sv1⟩ := hsv
  clear hva' hle hxv hmv hgv hyv hcv hv1
  go_wp2_with fail
  go_loopw [6, 7] (fun so i wr => ∃ (k : Nat) (b : Bool), i = .int .i64 k ∧ so = .bool b ∧ k ≤ m.length ∧ Hid (b = anyMay L k) ∧ Below w2.heap.size w2 wr) (fun _ i _ => m.length - (intOf i).toNat)
  case atStart => exact ⟨0, false, rfl, rfl, Nat.zero_le _, rfl, hb24⟩
  case round =>
   obtain ⟨k, b, rfl, rfl, hk, HA, hB⟩ := hrel
   by_cases hlt : k < m.length
   ·obtain ⟨⟨x, p⟩, hx⟩ : ∃ x, m[k]? = some x := ⟨_, List.getElem?_eq_getElem hlt⟩
    obtain ⟨bb, off, ha2, hbb, hc⟩ := (HT2.out.below hB).blk hx
    have hsl := fun W => slice_mid a2 m.length cap2 k W (by omega)
    have hcx := HCo.out k x p
    have HCx := Lib.hid (fun W => hcx W hx)
    have c1 : wr.cell? ⟨bb, off + k * 12 + 1, none⟩ = some (.int .i64 x.sk.kind) := hc k _ hx 1 (by decide)
    have c2 : wr.cell? ⟨bb, off + k * 12 + 2, none⟩ = some (.int .i64 x.sk.level) := hc k _ hx 2 (by decide)
    have HB9 := Lib.hid (HBT.out x)
    have HN : Hid (anyMay L (k + 1) = (b || mayLow x)) := by rw [Hid, anyMay_succ (HXM.out k x p hx), ← HA.out]
    have i0 : (0 : Int) ≤ (k : Int) := by omega
    have i1 : (k : Int) < (m.length : Int) := by omega
    have hle := HLE.out k x (by rw [HLen.out]; exact hlt) (HXM.out k x p hx)
    obtain ⟨sx0, sx1⟩ := HSm.out k x p hx
    cases hn : mayLow x with
    | false =>
     have hn2 : decide (x.sk.level < bottomB x.sk.kind) = false := hn
     rw [hn] at HN
     generalize bottomB x.sk.kind = bt at HB9 hn2
     have hn3 : ¬ x.sk.level < bt := of_decide_eq_false hn2
     subst ha2
     clear hc hx hn hn2 hle hcx HCx hsl hslv
     cases b with
     | false =>
      go_wp2_with fail
      go_quiet ((go_at_call 11; exact Calls.quiet_of_same (HB9.out _)))
      go_wp2_with fail
      all_goals go_roundw
      case rel => exact ⟨k + 1, false, by go_num, rfl, by omega, by rw [Hid, HN.out]; rfl, hB.trans ((drewN_below nq).mono hB.size)⟩
      case measure => simp [intOf]; omega
     | true =>
      go_wp2_with fail
      go_quiet ((go_at_call 11; exact Calls.quiet_of_same (HB9.out _)))
      go_wp2_with fail
      all_goals go_roundw
      case rel => exact ⟨k + 1, true, by go_num, rfl, by omega, by rw [Hid, HN.out]; rfl, hB.trans ((drewN_below nq).mono hB.size)⟩
      case measure => simp [intOf]; omega
    | true =>
     have hn2 : decide (x.sk.level < bottomB x.sk.kind) = true := hn
     obtain ⟨le1, le2⟩ := hle hn
     rw [hn, Bool.or_true] at HN
     generalize bottomB x.sk.kind = bt at HB9 hn2
     have hn3 : x.sk.level < bt := of_decide_eq_true hn2
     have HLe2 := Lib.hid le2
     generalize serCost x = sc at HCx HLe2 le1 sx0 sx1
     have n1 : ¬ (g < sc) := by omega
     subst ha2
     clear hc hx hn hn2 hle hcx le2
     rcases Decidable.em (sc = g) with hsg | hsg
     ·have le3 := HLe2.out hsg
      have n2 : ¬ ((k : Int) < (v : Int)) := by omega
      subst hsg
      clear HLe2 le3 le1
      cases b with
      | false =>
      go_wp2_with fail
      go_quiet ((go_at_call 11; exact Calls.quiet_of_same (HB9.out _)))
      have hBq := hB.trans ((drewN_below nq).mono hB.size)
      go_wp2_with fail
      refine (HCx.out _ hBq).mono ?_
      rintro e w5 ⟨rfl, hb5⟩
      have hB5 := hBq.trans (hb5.mono hBq.size)
      go_wp2_with fail
      refine (hcv'.out _ hB5).mono ?_
      rintro e w6 ⟨rfl, hb6⟩
      have hB6 := hB5.trans (hb6.mono hB5.size)
      clear hB5 hb6 hb5 hBq hB
      go_wp2_with fail
      all_goals go_roundw
      case rel => exact ⟨k + 1, true, by go_num, rfl, by omega, by rw [Hid, HN.out], hB6⟩
      case measure => simp [intOf]; omega
      | true =>
      go_wp2_with fail
      go_quiet ((go_at_call 11; exact Calls.quiet_of_same (HB9.out _)))
      have hBq := hB.trans ((drewN_below nq).mono hB.size)
      go_wp2_with fail
      refine (HCx.out _ hBq).mono ?_
      rintro e w5 ⟨rfl, hb5⟩
      have hB5 := hBq.trans (hb5.mono hBq.size)
      go_wp2_with fail
      refine (hcv'.out _ hB5).mono ?_
      rintro e w6 ⟨rfl, hb6⟩
      have hB6 := hB5.trans (hb6.mono hB5.size)
      clear hB5 hb6 hb5 hBq hB
      go_wp2_with fail
      all_goals go_roundw
      case rel => exact ⟨k + 1, true, by go_num, rfl, by omega, by rw [Hid, HN.out], hB6⟩
      case measure => simp [intOf]; omega
     ·have n2 : (sc == g) = false := by simpa using hsg
      clear HLe2
      cases b with
      | false =>
      go_wp2_with fail
      go_quiet ((go_at_call 11; exact Calls.quiet_of_same (HB9.out _)))
      have hBq := hB.trans ((drewN_below nq).mono hB.size)
      go_wp2_with fail
      refine (HCx.out _ hBq).mono ?_
      rintro e w5 ⟨rfl, hb5⟩
      have hB5 := hBq.trans (hb5.mono hBq.size)
      go_wp2_with fail
      refine (hcv'.out _ hB5).mono ?_
      rintro e w6 ⟨rfl, hb6⟩
      have hB6 := hB5.trans (hb6.mono hB5.size)
      clear hB5 hb6 hb5 hBq hB
      go_wp2_with fail
      all_goals go_roundw
      case rel => exact ⟨k + 1, true, by go_num, rfl, by omega, by rw [Hid, HN.out], hB6⟩
      case measure => simp [intOf]; omega
      | true =>
      go_wp2_with fail
      go_quiet ((go_at_call 11; exact Calls.quiet_of_same (HB9.out _)))
      have hBq := hB.trans ((drewN_below nq).mono hB.size)
      go_wp2_with fail
      refine (HCx.out _ hBq).mono ?_
      rintro e w5 ⟨rfl, hb5⟩
      have hB5 := hBq.trans (hb5.mono hBq.size)
      go_wp2_with fail
      refine (hcv'.out _ hB5).mono ?_
      rintro e w6 ⟨rfl, hb6⟩
      have hB6 := hB5.trans (hb6.mono hB5.size)
      clear hB5 hb6 hb5 hBq hB
      go_wp2_with fail
      all_goals go_roundw
      case rel => exact ⟨k + 1, true, by go_num, rfl, by omega, by rw [Hid, HN.out], hB6⟩
      case measure => simp [intOf]; omega
   ·obtain rfl : k = m.length := by omega
    have hb : b = true := by
     rw [HA.out]
     unfold anyMay
     rw [← HLen.out, List.take_length, List.any_eq_true]
     exact ⟨yv, List.mem_of_getElem? HMV.out.1, HMV.out.2.1⟩
    subst hb
    obtain ⟨bb, off, ha2, hbb, hc⟩ := (HT2.out.below hB).blk HYV.out
    have hcv := hc v _ HYV.out
    subst ha2
    have c0 : wr.cell? ⟨bb, off + v * 12, none⟩ = some (.slice pv.la pv.ll pv.lc) := hcv 0 (by omega)
    have c1 : wr.cell? ⟨bb, off + v * 12 + 1, none⟩ = some (.int .i64 yv.sk.kind) := hcv 1 (by omega)
    have c2 : wr.cell? ⟨bb, off + v * 12 + 2, none⟩ = some (.int .i64 yv.sk.level) := hcv 2 (by omega)
    have c3 : wr.cell? ⟨bb, off + v * 12 + 3, none⟩ = some (.slice pv.ss.ea pv.ss.el pv.ss.ec) := hcv 3 (by omega)
    have c4 : wr.cell? ⟨bb, off + v * 12 + 4, none⟩ = some (.int .i64 yv.sk.hb) := hcv 4 (by omega)
    have c5 : wr.cell? ⟨bb, off + v * 12 + 5, none⟩ = some (.string yv.sk.hr) := hcv 5 (by omega)
    have c6 : wr.cell? ⟨bb, off + v * 12 + 6, none⟩ = some (.int .i64 yv.sk.cr) := hcv 6 (by omega)
    have c7 : wr.cell? ⟨bb, off + v * 12 + 7, none⟩ = some (.int .i64 yv.sk.cc) := hcv 7 (by omega)
    have c8 : wr.cell? ⟨bb, off + v * 12 + 8, none⟩ = some (.slice pv.ss.ca pv.ss.cl pv.ss.cc) := hcv 8 (by omega)
    have c9 : wr.cell? ⟨bb, off + v * 12 + 9, none⟩ = some (.int .i64 yv.sk.gf) := hcv 9 (by omega)
    have c10 : wr.cell? ⟨bb, off + v * 12 + 10, none⟩ = some (.slice pv.ss.ga pv.ss.gl pv.ss.gc) := hcv 10 (by omega)
    have c11 : wr.cell? ⟨bb, off + v * 12 + 11, none⟩ = some (.int .u64 yv.seen) := hcv 11 (by omega)
    have HRr := HRf.out wr hB
    clear hc hcv hslv HCo hcv' HRf
    go_wp2_with fail
    refine HRr.mono ?_
    rintro e w5 ⟨rfl, hb5⟩
    go_wp2_with fail
    go_ret
    exact ⟨rfl, HB2.out.trans ((hB.trans (hb5.mono hB.size)).mono HB2.out.size)⟩
end Go.Proofs.YthbhmnakmhambaaGreatDoor
