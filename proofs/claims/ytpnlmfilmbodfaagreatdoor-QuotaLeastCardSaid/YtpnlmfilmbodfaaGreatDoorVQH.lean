/- quota.Fits; aviaryref12.Ints; aviarylaw13.shown. aviarylaw13.QuotaMore answers true. aviarylaw13.QuotaTwice answers true. aviarylaw13.QuotaBound answers true. -/
import Derived.Test.YtpnlmfilmbodfaaGreatDoorVQD
import Derived.Test.YtpnlmfilmbodfaaGreatDoorVL0
import Derived.Test.YtpnlmfilmbodfaaGreatDoorVV1
import Derived.Test.YtpnlmfilmbodfaaGreatDoorVP1
namespace Go.Proofs.YtpnlmfilmbodfaaGreatDoor
open Go Go.RowKit Go.Shelf
def fitsB (b : Int) (L : List Ser) : Bool := tabRight L && isBudgetB b && decide (costL L ≤ b)
set_option maxHeartbeats 1000000 in
theorem QFits_any (b : Int) (l : List (Ser × SerP)) (a : Option Addr) (len cap : Nat) (w : World) (hT : Tab w.heap.size w a len cap l) (hF : TabFit l) (hG : GW w) :
    Calls Tryz.prog 48 #[.slice a len cap, .int .i64 b] w fun e w' => e = .returned (.bool (fitsB b (l.map (·.1)))) ∧ Below w.heap.size w w' := by
  have hR := series_Right_any l a len cap w hT hF hG
  have HC : Hid (∀ w', Below w.heap.size w w' → Calls Tryz.prog 44 #[.slice a len cap] w' fun e w'' => e = .returned (.int .i64 (tabCost (l.map (·.1)))) ∧ Below w'.heap.size w' w'') := fun w' hb => series_Cost_any l a len cap w' (hT.go hb) hF (hG.below hb)
  have HB : Hid (∀ w, Calls Tryz.prog 111 #[.int .i64 b] w fun e w' => e = .returned (.bool (isBudgetB b)) ∧ w' = w) := fun w => isBudget_any b w
  have HR : Hid (fitsB b (l.map (·.1)) = (tabRight (l.map (·.1)) && isBudgetB b && decide (costL (l.map (·.1)) ≤ b))) := rfl
  have hsm := costL_small l _ _ hT.at_ hF
  clear hT hF hG
  generalize fitsB b (l.map (·.1)) = bR at HR ⊢
  cases hr : tabRight (l.map (·.1)) with
  | false =>
    rw [hr] at hR
    have H9 : Hid (bR = false) := by rw [Hid, HR.out, hr]; rfl
    clear hr HR
    go_enter Tryz.func48, Tryz.ntmps48
    go_wp2_with (go_at_call 43; refine hR.mono ?_; rintro e w1 ⟨rfl, hb1⟩)
    go_ret
    exact ⟨by rw [H9.out]; rfl, hb1⟩
  | true =>
    have htc : tabCost (l.map (·.1)) = costL (l.map (·.1)) := by rw [tabCost, hr, if_pos rfl]
    have h20 : l.length ≤ 20 := by have := ((tabRight_iff _).1 hr).1; rwa [List.length_map] at this
    rw [hr] at hR
    rw [htc] at HC
    cases hbu : isBudgetB b with
    | false =>
      rw [hbu] at HB
      have H9 : Hid (bR = false) := by rw [Hid, HR.out, hr, hbu]; rfl
      clear hr HR hbu htc
      go_enter Tryz.func48, Tryz.ntmps48
      go_wp2_with (first
        | (go_at_call 43; refine hR.mono ?_; rintro e w1 ⟨rfl, hb1⟩)
        | (go_at_call 111; refine (HB.out _).mono ?_; rintro e w2 ⟨rfl, rfl⟩))
      go_ret
      exact ⟨by rw [H9.out]; rfl, hb1⟩
    | true =>
      rw [hbu] at HB
      have H9 : Hid (bR = decide (costL (l.map (·.1)) ≤ b)) := by rw [Hid, HR.out, hr, hbu]; rfl
      clear hr HR hbu htc
      generalize costL (l.map (·.1)) = cc at HC H9 hsm
      obtain ⟨k0, k1⟩ := hsm
      have k2 : cc ≤ 4400000000000 := by omega
      clear k1
      go_enter Tryz.func48, Tryz.ntmps48
      go_wp2_with (first
        | (go_at_call 43; refine hR.mono ?_; rintro e w1 ⟨rfl, hb1⟩)
        | (go_at_call 111; refine (HB.out _).mono ?_; rintro e w2 ⟨rfl, rfl⟩)
        | (go_at_call 44; refine (HC.out _ hb1).mono ?_; rintro e w3 ⟨rfl, hb3⟩))
      go_ret
      exact ⟨by rw [H9.out]; rfl, hb1.trans (hb3.mono hb1.size)⟩
set_option maxRecDepth 100000 in
set_option maxHeartbeats 1000000 in
theorem ref12_Ints_any (a1 : Option Addr) (len1 cap1 : Nat) (l1 : List Nat) (a2 : Option Addr) (len2 cap2 : Nat) (l2 : List Nat) (w : World) (h1 : SlE encP 1 w.heap.size w a1 len1 l1) (h2 : SlE encP 1 w.heap.size w a2 len2 l2) (hm : len1 ≤ maxLen) :
    Calls Tryz.prog 46 #[.slice a1 len1 cap1, .slice a2 len2 cap2] w fun e w' => e = .returned (.bool (l1 == l2)) ∧ Below w.heap.size w w' := by
  have e1 := h1.1
  have e2 := h2.1
  unfold maxLen at hm
  by_cases hl : len1 = len2
  · subst hl
    have t0 : ((len1 : Int) != (len1 : Int)) = false := by simp
    have E1 := Lib.hid e1
    have E2 := Lib.hid e2
    clear e1 e2
    go_enter Tryz.func46, Tryz.ntmps46
    go_wp2_with fail
    go_loopw [5] (fun i wr => ∃ (k : Nat), i = .int .i64 k ∧ k ≤ len1 ∧ Below w.heap.size w wr ∧ Hid (l1.take k = l2.take k)) (fun i _ => len1 - (intOf i).toNat)
    case atStart => exact ⟨0, rfl, Nat.zero_le _, Below.refl _ _, rfl⟩
    case round =>
      obtain ⟨k, rfl, hk, hB, HF⟩ := hrel
      by_cases hlt : k < len1
      · obtain ⟨x, b1, o1, hx, ea1, hb1, hc1⟩ := (h1.below hB).at hlt
        obtain ⟨y, b2, o2, hy, ea2, hb2, hc2⟩ := (h2.below hB).at hlt
        subst ea1; subst ea2
        have p0 : wr.cell? ⟨b1, o1 + k * 1 + 0, none⟩ = some (.int .i64 (x : Int)) := hc1 0 (by omega)
        have q0 : wr.cell? ⟨b2, o2 + k * 1 + 0, none⟩ = some (.int .i64 (y : Int)) := hc2 0 (by omega)
        simp only [Nat.mul_one, Nat.add_zero] at p0 q0
        have i0 : (0 : Int) ≤ (k : Int) := by omega
        have i1 : (k : Int) < (len1 : Int) := by omega
        have HX := Lib.hid hx
        have HY := Lib.hid hy
        clear hc1 hc2 hx hy h1 h2
        by_cases hxy : x = y
        · have n1 : ((x : Int) != (y : Int)) = false := by simp [hxy]
          have HXY : Hid (x = y) := hxy
          clear hxy
          go_wp2_with fail
          go_quiet (fail)
          go_wp2_with fail
          go_roundw
          case rel => exact ⟨k + 1, by go_num, by omega, bDr hB _, by rw [Hid, take_snoc' HX.out, take_snoc' HY.out, HF.out, HXY.out]⟩
          case measure => simp [intOf]; omega
        · have n1 : ((x : Int) != (y : Int)) = true := by rw [bne_iff_ne]; omega
          have HXY : Hid (¬ x = y) := hxy
          clear hxy
          go_wp2_with fail
          go_quiet (fail)
          go_wp2_with fail
          go_ret
          have hne : (l1 == l2) = false := by
            rw [beq_eq_false_iff_ne]
            intro e
            have hx := HX.out
            rw [e, HY.out] at hx
            exact HXY.out (Option.some.inj hx).symm
          exact ⟨by rw [hne]; rfl, bDr hB _⟩
      · obtain rfl : k = len1 := by omega
        clear h1 h2
        go_wp2_with fail
        go_ret
        have h9 := HF.out
        rw [List.take_of_length_le (by rw [← E1.out]; omega), List.take_of_length_le (by rw [← E2.out]; omega)] at h9
        exact ⟨by rw [h9]; simp, hB⟩
  · have t0 : ((len1 : Int) != (len2 : Int)) = true := by rw [bne_iff_ne]; omega
    have hne : Hid ((l1 == l2) = false) := by
      rw [Hid, beq_eq_false_iff_ne]
      intro e
      rw [e] at e1
      omega
    clear e1 e2
    go_enter Tryz.func46, Tryz.ntmps46
    go_wp2_with fail
    go_ret
    exact ⟨by rw [hne.out]; rfl, Below.refl _ _⟩
def shSk13 : Sk := skOf 2 0 (bdNew 2)
def shS13 : Ser := ⟨[⟨⟨#[97]⟩, ⟨#[120]⟩⟩], shSk13, 0⟩
theorem sh13_put : putOk [] shS13 = true := by kernel_rfl
theorem sh13_putL : putL [] shS13 = [shS13] := by kernel_rfl
theorem sh13_right : tabRight [shS13] = true := by kernel_rfl
theorem sh13_good : shS13.good := by
  refine ⟨⟨fun y hy => ?_, by decide, by decide +kernel, by decide +kernel, by decide +kernel, skOf_fit (bdNew_ok 2 (.inr (.inl rfl))), by decide +kernel, by unfold U64; decide⟩, ⟨2, 0, bdNew 2, rfl, bdNew_ok 2 (.inr (.inl rfl))⟩⟩
  simp only [shS13, List.mem_singleton] at hy
  subst hy
  exact ⟨by decide, by decide⟩
theorem sh13_200 : (fitAll 200 [shS13]).2 = ([0, 0], 0) := by kernel_rfl
theorem sh13_cost : tabCost (fitAll 200 [shS13]).1 = 147 := by kernel_rfl
theorem sh13_50 : (fitAll 50 [shS13]).2 = ([], 130) := by kernel_rfl
theorem fitAll_ok {b : Int} {L : List Ser} (h : (fitAll b L).2.2 = 0) : tabRight L = true ∧ isBudgetB b = true ∧ fit b L = some ((fitAll b L).1, (fitAll b L).2.1) := by
  unfold fitAll at h ⊢
  cases hr : tabRight L with
  | false => rw [hr] at h; cases h
  | true =>
    rw [hr] at h
    cases hb : isBudgetB b with
    | false => rw [hb] at h; cases h
    | true =>
      rw [hb] at h
      cases hf : fit b L with
      | none => rw [hf] at h; cases h
      | some r => exact ⟨rfl, rfl, rfl⟩
theorem Fit_got (b : Int) (L : List Ser) (ps : List Nat) (he : (fitAll b L).2 = (ps, 0)) (m : List (Ser × SerP)) (a : Option Addr) (len cap : Nat) (w : World) (hT : Tab w.heap.size w a len cap m) (hm : m.map (·.1) = L) (hQ : QT L) (hG : GW w) :
    Calls Tryz.prog 45 #[.slice a len cap, .int .i64 b] w fun e w' => ∃ (m4 : List (Ser × SerP)) (ta : Option Addr) (n tc : Nat) (pa : Option Addr) (pc : Nat), e = .returned (.tuple #[.slice ta n tc, .slice pa ps.length pc, .int .i64 0]) ∧ Tab w'.heap.size w' ta n tc m4 ∧ m4.map (·.1) = (fitAll b L).1 ∧ QT (m4.map (·.1)) ∧ SlE encP 1 w'.heap.size w' pa ps.length ps ∧ Below w.heap.size w w' := by
  refine (Fit_any b m a len cap w hT (tabFit_of hT (by rw [hm]; exact hQ.fine)) (fun _ => by rw [hm]; exact hQ) hG).mono ?_
  rintro e w' h
  rw [hm] at h
  have e3 := (fitAll_ok (b := b) (L := L) (by rw [he])).2.2
  have hq := (fit_says b _ hQ _ _ e3).qt
  obtain ⟨m4, ta, tc, pa, pc, h1, h2, h3, -, -, h4, -, h5⟩ := h
  rw [he] at h1 h4
  exact ⟨m4, ta, m4.length, tc, pa, pc, h1, h2, h3, by rw [h3]; exact hq, h4.1, h5⟩
theorem Fit_not (b : Int) (L : List Ser) (n : Int) (he : (fitAll b L).2 = ([], n)) (m : List (Ser × SerP)) (a : Option Addr) (len cap : Nat) (w : World) (hT : Tab w.heap.size w a len cap m) (hm : m.map (·.1) = L) (hQ : QT L) (hG : GW w) :
    Calls Tryz.prog 45 #[.slice a len cap, .int .i64 b] w fun e w' => ∃ (ta : Option Addr) (k tc : Nat) (pa : Option Addr) (pc : Nat), e = .returned (.tuple #[.slice ta k tc, .slice pa 0 pc, .int .i64 n]) ∧ Below w.heap.size w w' := by
  refine (Fit_any b m a len cap w hT (tabFit_of hT (by rw [hm]; exact hQ.fine)) (fun _ => by rw [hm]; exact hQ) hG).mono ?_
  rintro e w' h
  rw [hm] at h
  obtain ⟨m4, ta, tc, pa, pc, h1, h2, h3, -, -, h4, -, h5⟩ := h
  rw [he] at h1
  exact ⟨ta, m4.length, tc, pa, pc, h1, h5⟩
theorem sh13_qt : QT [shS13] := ⟨sh13_right, fun x hx => by rw [List.mem_singleton] at hx; subst hx; exact sh13_good⟩
def Fit200 (a : Option Addr) (len cap : Nat) (w : World) : Prop := Calls Tryz.prog 45 #[.slice a len cap, .int .i64 200] w fun e w' => ∃ (m4 : List (Ser × SerP)) (ta : Option Addr) (n tc : Nat) (pa : Option Addr) (pc : Nat), e = .returned (.tuple #[.slice ta n tc, .slice pa 2 pc, .int .i64 0]) ∧ Tab w'.heap.size w' ta n tc m4 ∧ TabFit m4 ∧ tabCost (m4.map (·.1)) = 147 ∧ SlE encP 1 w'.heap.size w' pa 2 [0, 0] ∧ Below w.heap.size w w'
def Fit50 (a : Option Addr) (len cap : Nat) (w : World) : Prop := Calls Tryz.prog 45 #[.slice a len cap, .int .i64 50] w fun e w' => ∃ (ta : Option Addr) (k tc : Nat) (pa : Option Addr) (pc : Nat), e = .returned (.tuple #[.slice ta k tc, .slice pa 0 pc, .int .i64 130]) ∧ Below w.heap.size w w'
theorem sh13_fit (m : List (Ser × SerP)) (a : Option Addr) (len cap : Nat) (w : World) (hT : Tab w.heap.size w a len cap m) (hm : m.map (·.1) = [shS13]) (hG : GW w) :
    Fit200 a len cap w := by
  refine (Fit_got 200 [shS13] [0, 0] sh13_200 m a len cap w hT hm sh13_qt hG).mono ?_
  rintro e w' ⟨m4, ta, n, tc, pa, pc, h1, h2, h3, h4, h5, h6⟩
  exact ⟨m4, ta, n, tc, pa, pc, h1, h2, tabFit_of h2 h4.fine, by rw [h3]; exact sh13_cost, h5, h6⟩
theorem sh13_not (m : List (Ser × SerP)) (a : Option Addr) (len cap : Nat) (w : World) (hT : Tab w.heap.size w a len cap m) (hm : m.map (·.1) = [shS13]) (hG : GW w) :
    Fit50 a len cap w :=
  Fit_not 50 [shS13] 130 sh13_50 m a len cap w hT hm sh13_qt hG
set_option maxRecDepth 100000 in
set_option maxHeartbeats 4000000 in
theorem shown13_any (w : World) (hG : GW w) : Calls Tryz.prog 40 #[] w fun e w' => e = .returned (.bool true) ∧ Below w.heap.size w w' := by
  have HG := Lib.hid hG
  have HN := Lib.hid (New_any 2 (.inr (.inl rfl)) w)
  clear hG
  go_enter Tryz.func40, Tryz.ntmps40
  go_wp2_with (go_at_call 27; refine HN.out.mono ?_; rintro e w1 ⟨v, rfl, ⟨y, s, hy, rfl, hA⟩, hb1⟩; have HY := Lib.hid hy; clear hy)
  obtain ⟨W2, hW2, hXa, hXb, hB2, hs2⟩ := boxes2 w1 #[.int .i64 y.kind, .int .i64 y.level, .slice s.ea s.el s.ec, .int .i64 y.hb, .string y.hr, .int .i64 y.cr, .int .i64 y.cc, .slice s.ca s.cl s.cc, .int .i64 y.gf, .slice s.ga s.gl s.gc] 33 #[.string ⟨#[97]⟩, .string ⟨#[120]⟩] 148
  rw [hW2]
  have hb02 : Below w.heap.size w W2 := hb1.trans (hB2.mono hb1.size)
  have HP : Hid (SerP.At ⟨some ⟨w1.heap.size + 1, 0, none⟩, 1, 1, s⟩ W2.heap.size W2 ⟨[⟨⟨#[97]⟩, ⟨#[120]⟩⟩], y, 0⟩) := ⟨slC_one (t := 148) hXb, hA.go hB2⟩
  have HXS : Hid ((⟨[⟨⟨#[97]⟩, ⟨#[120]⟩⟩], y, 0⟩ : Ser) = shS13) := by rw [Hid, HY.out]; rfl
  refine (series_Put_fn [] none 0 0 ⟨[⟨⟨#[97]⟩, ⟨#[120]⟩⟩], y, 0⟩ ⟨some ⟨w1.heap.size + 1, 0, none⟩, 1, 1, s⟩ W2 Tab.nil (fun x h => by cases h) HP.out (by rw [HXS.out]; exact sh13_good.fine) (HG.out.below hb02)).mono ?_
  rintro e w3 ⟨a', cap', m, rfl, hT3, hm3, hb3, -⟩
  have hput : putE (([] : List (Ser × SerP)).map (·.1)) ⟨[⟨⟨#[97]⟩, ⟨#[120]⟩⟩], y, 0⟩ = 0 := by rw [HXS.out]; exact putE_of sh13_put
  have hm3' : m.map (·.1) = [shS13] := by
    rw [hm3, HXS.out]
    exact (putR_ok sh13_put).trans sh13_putL
  rw [hput]
  have hb03 := hb02.trans (hb3.mono hb02.size)
  have HT3 := Lib.hid hT3
  have HM3 := Lib.hid hm3'
  have HF200 : Hid (∀ W, Below w3.heap.size w3 W → Fit200 a' m.length cap' W) := fun W hb => sh13_fit m a' m.length cap' W (HT3.out.go hb) HM3.out (HG.out.below (hb03.trans (hb.mono hb03.size)))
  have HF50 : Hid (∀ W, Below w3.heap.size w3 W → Fit50 a' m.length cap' W) := fun W hb => sh13_not m a' m.length cap' W (HT3.out.go hb) HM3.out (HG.out.below (hb03.trans (hb.mono hb03.size)))
  clear hT3 hm3 hm3' hput hXa hXb hB2 hW2 hs2 hA hb1 hb02
  generalize m.length = ml at HF200 HF50
  have HIn : Hid (∀ (pa : Option Addr) (pc b cap : Nat) W, SlE encP 1 W.heap.size W pa 2 [0, 0] → W.heap[b]? = some (.cells #[.int .i64 0, .int .i64 0] 3 (0, 0)) → Calls Tryz.prog 46 #[.slice pa 2 pc, .slice (some ⟨b, 0, none⟩) 2 cap] W fun e w' => e = .returned (.bool true) ∧ Below W.heap.size W w') := fun pa pc b cap W h1 h2 => by
    refine ref12_Ints_any pa 2 pc [0, 0] (some ⟨b, 0, none⟩) 2 cap [0, 0] W h1 ⟨rfl, fun j x hx => ?_⟩ (by decide)
    refine ⟨b, 0, rfl, (Array.getElem?_eq_some_iff.1 h2).1, fun i hi => ?_⟩
    obtain rfl : i = 0 := by omega
    rw [cCc h2]
    rcases j with _ | _ | j
    · simp at hx; subst hx; rfl
    · simp at hx; subst hx; rfl
    · simp at hx
  have hF := HF200.out _ (Below.refl _ _)
  unfold Fit200 at hF
  go_wp2_with fail
  refine hF.mono ?_
  clear hF
  rintro e w4 ⟨m4, ta, n4, tc, pa, pc, rfl, hT4, hF4, hc4, hp4, hb4⟩
  have hF := HF50.out _ hb4
  unfold Fit50 at hF
  go_wp2_with fail
  refine hF.mono ?_
  clear hF
  rintro e w5 ⟨ta5, n5, tc5, pa5, pc5, rfl, hb5⟩
  have hb05 := hb03.trans ((hb4.trans (hb5.mono hb4.size)).mono hb03.size)
  obtain ⟨W6, hW6, hX6, hB6, hs6⟩ := boxes1 w5 #[.int .i64 0, .int .i64 0] 3
  have hb56 := hb5.trans (hB6.mono hb5.size)
  have HI6 := Lib.hid (HIn.out pa pc w5.heap.size 2 W6 ((hp4.below hb56).mono hb56.size) hX6)
  have HC6 : Hid (∀ W, Below W6.heap.size W6 W → Calls Tryz.prog 44 #[.slice ta n4 tc] W fun e w' => e = .returned (.int .i64 147) ∧ Below W.heap.size W w') := fun W hb => by
    have h1 := series_Cost_any m4 ta n4 tc W ((hT4.go hb56).go hb) hF4 (HG.out.below (hb05.trans ((hB6.trans (hb.mono hB6.size)).mono hb05.size)))
    rw [hc4] at h1
    exact h1
  clear hT4 hF4 hc4 hp4 HF50 HF200 HIn hX6
  go_wp2_with (first
    | (go_at_call 46; refine HI6.out.mono ?_; rintro e w7 ⟨rfl, hb7⟩)
    | (go_at_call 44; refine (HC6.out _ hb7).mono ?_; rintro e w8 ⟨rfl, hb8⟩))
  go_ret
  exact ⟨rfl, hb05.trans ((hB6.trans ((hb7.trans (hb8.mono hb7.size)).mono hB6.size)).mono hb05.size)⟩
end Go.Proofs.YtpnlmfilmbodfaaGreatDoor
namespace Go.Proofs.YtpnlmfilmbodfaaGreatDoor
open Go Go.RowKit Go.Shelf
theorem qt_few {L : List Ser} (h : ∀ x ∈ L, Ser.wn x) (hr : tabRight (few12 L) = true) : QT (few12 L) := by
  refine ⟨hr, fun x hx => ⟨fine_few (fun y hy => (h y hy).wf) x hx, ?_⟩⟩
  have h1 := ((tabRight_iff _).1 hr).2.1 x hx
  simp only [serRight, Bool.and_eq_true] at h1
  simp only [few12, List.mem_map] at hx
  obtain ⟨y, hy, rfl⟩ := hx
  have h2 := (h y (List.mem_of_mem_take hy)).1
  exact .of h1.2 (fun n hn => h2.e n (List.mem_of_mem_take hn)) (fun n hn => h2.c n (List.mem_of_mem_take hn)) (fun z hz => (h2.g z (List.mem_of_mem_take hz)).2)
def FitP (b : Int) (L : List Ser) (ps : List Nat) (er : Int) (w : World) (e : Ending) (w' : World) : Prop :=
  ∃ (m : List (Ser × SerP)) (ta : Option Addr) (tc : Nat) (pa : Option Addr) (pc : Nat), e = .returned (.tuple #[.slice ta m.length tc, .slice pa ps.length pc, .int .i64 er]) ∧ Tab w'.heap.size w' ta m.length tc m ∧ m.map (·.1) = (fitAll b L).1 ∧ SlC encP 1 w'.heap.size w' pa ps.length pc ps ∧ Below w.heap.size w w'
theorem Fit_named {b : Int} {L : List Ser} {ps : List Nat} {er : Int} (h1 : (fitAll b L).2.1 = ps) (h2 : (fitAll b L).2.2 = er) {m : List (Ser × SerP)} {a : Option Addr} {len cap : Nat} {w : World} (hT : Tab w.heap.size w a len cap m) (hm : m.map (·.1) = L) (hf : ∀ x ∈ L, x.fine) (hQ : tabRight L = true → QT L) (hG : GW w) :
    Calls Tryz.prog 45 #[.slice a len cap, .int .i64 b] w (FitP b L ps er w) := by
  refine (Fit_any b m a len cap w hT (tabFit_of hT (by rw [hm]; exact hf)) (fun hr => by rw [hm] at hr ⊢; exact hQ hr) hG).mono ?_
  rintro e w' ⟨m4, ta, tc, pa, pc, k1, k2, k3, -, -, k4, -, k5⟩
  rw [hm] at k1 k3 k4
  rw [h1] at k1 k4
  rw [h2] at k1
  exact ⟨m4, ta, tc, pa, pc, k1, k2, k3, k4, k5⟩
theorem fitAll_no {b : Int} {L : List Ser} (hr : tabRight L = true) (hb : isBudgetB b = false) : fitAll b L = ([], [], 130) := by unfold fitAll; rw [hr, hb]; rfl
theorem fitAll_some {b : Int} {L a : List Ser} {ps : List Nat} (hr : tabRight L = true) (hb : isBudgetB b = true) (h : fit b L = some (a, ps)) : fitAll b L = (a, ps, 0) := by unfold fitAll; rw [hr, hb, h]; rfl
theorem fitAll_none {b : Int} {L : List Ser} (hr : tabRight L = true) (hb : isBudgetB b = true) (h : fit b L = none) : fitAll b L = ([], [], 130) := by unfold fitAll; rw [hr, hb, h]; rfl
theorem fitAll_wrong {b : Int} {L : List Ser} (hr : tabRight L = false) : fitAll b L = ([], [], 120) := by unfold fitAll; rw [hr]; rfl
theorem more_plain {lo hi : Int} (hle : lo ≤ hi) {L : List Ser} (hQ : tabRight L = true → QT L) (h0 : (fitAll lo L).2.2 = 0) : ((fitAll hi L).2.2 ≠ 0 → 1000000 < hi) ∧ ((fitAll hi L).2.2 = 0 → (fitAll hi L).2.1.length ≤ (fitAll lo L).2.1.length ∧ (fitAll lo L).2.1.take (fitAll hi L).2.1.length = (fitAll hi L).2.1) := by
  obtain ⟨hr, hb, hf⟩ := fitAll_ok h0
  obtain ⟨a', ps', h1, h2, h3⟩ := fit_more lo hi hle L (hQ hr) _ _ hf
  have hb2 : 0 ≤ lo ∧ lo ≤ 1000000 := by simpa [isBudgetB] using hb
  by_cases hh : hi ≤ 1000000
  · have hb3 : isBudgetB hi = true := by simp [isBudgetB]; omega
    rw [fitAll_some hr hb3 h1]
    exact ⟨fun h => absurd rfl h, fun _ => ⟨h2, h3⟩⟩
  · have hb3 : isBudgetB hi = false := by simp [isBudgetB]; omega
    rw [fitAll_no hr hb3]
    exact ⟨fun _ => by omega, fun h => by cases h⟩
theorem take_ints (a : Option Addr) (len cap m : Nat) (w : World) (h : m ≤ cap) : (Instr.slice 66 (.slice a len cap) none (some (.int .i64 (m : Int))) none).run Tryz.prog w = .ok (.slice a m cap) w := by
  have hz := dropA_zero a cap 1
  unfold dropA at hz
  have hs : (sizeOf 3).run Tryz.prog w = .ok 1 w := by kernel_rfl
  have he : Tryz.prog.elem 66 = 3 := by kernel_rfl
  rw [run_slice_h (t := 66) (a := a) (len := len) (cap := cap) (w := w) (ht := by rw [he]; exact und_ints) (kh := .i64) (h := (m : Int)) (by omega) (by omega), he, hs]
  simp only [Result.andThen, sliced, Int.toNat_natCast, Nat.sub_zero, hz]
set_option maxRecDepth 100000 in
set_option maxHeartbeats 4000000 in
theorem quotaMore_any (l : List (Ser × SerP)) (a : Option Addr) (len cap : Nat) (n1 n2 : Int) (w : World) (hT : Tab w.heap.size w a len cap l) (hU : ∀ x ∈ l.map (·.1), Ser.wn x) (_h1 : I64 n1) (_h2 : I64 n2) (hG : GW w) (_ : GT w) :
    Calls Tryz.prog 7 #[.slice a len cap, .int .i64 n1, .int .i64 n2] w fun e w' => e = .returned (.bool true) ∧ Below w.heap.size w w' := by
  have HT := Lib.hid hT
  have HG := Lib.hid hG
  obtain ⟨L, hL⟩ : ∃ L, few12 (l.map (·.1)) = L := ⟨_, rfl⟩
  have HQ : Hid (tabRight L = true → QT L) := by rw [← hL]; exact qt_few hU
  have HFi : Hid (∀ x ∈ L, x.fine) := by rw [← hL]; exact fine_few (fun y hy => (hU y hy).wf)
  have HL := Lib.hid hL
  obtain ⟨lo, hlo⟩ : ∃ lo, min n1 n2 = lo := ⟨_, rfl⟩
  obtain ⟨hi, hhi⟩ : ∃ hi, max n1 n2 = hi := ⟨_, rfl⟩
  have hle : lo ≤ hi := by omega
  obtain ⟨ps1, hp1⟩ : ∃ ps, (fitAll lo L).2.1 = ps := ⟨_, rfl⟩
  obtain ⟨er1, he1⟩ : ∃ er, (fitAll lo L).2.2 = er := ⟨_, rfl⟩
  obtain ⟨ps2, hp2⟩ : ∃ ps, (fitAll hi L).2.1 = ps := ⟨_, rfl⟩
  obtain ⟨er2, he2⟩ : ∃ er, (fitAll hi L).2.2 = er := ⟨_, rfl⟩
  have HP : Hid (er1 = 0 → (er2 ≠ 0 → 1000000 < hi) ∧ (er2 = 0 → ps2.length ≤ ps1.length ∧ ps1.take ps2.length = ps2)) := fun h => by
    rw [← hp1, ← hp2, ← he2]
    exact more_plain hle HQ.out (he1.trans h)
  have HF1 : Hid (∀ (m : List (Ser × SerP)) (a2 : Option Addr) (len2 cap2 : Nat) W, Tab W.heap.size W a2 len2 cap2 m → m.map (·.1) = L → GW W → Calls Tryz.prog 45 #[.slice a2 len2 cap2, .int .i64 lo] W (FitP lo L ps1 er1 W)) := fun m a2 len2 cap2 W hT hm hG => Fit_named hp1 he1 hT hm HFi.out HQ.out hG
  have HF2 : Hid (∀ (m : List (Ser × SerP)) (a2 : Option Addr) (len2 cap2 : Nat) W, Tab W.heap.size W a2 len2 cap2 m → m.map (·.1) = L → GW W → Calls Tryz.prog 45 #[.slice a2 len2 cap2, .int .i64 hi] W (FitP hi L ps2 er2 W)) := fun m a2 len2 cap2 W hT hm hG => Fit_named hp2 he2 hT hm HFi.out HQ.out hG
  clear hT hU hG hL hp1 he1 hp2 he2 hle
  go_enter Tryz.func7, Tryz.ntmps7
  go_wp2_with (first
    | (go_at_call 40; refine (shown13_any w HG.out).mono ?_; rintro e w1 ⟨rfl, hb1⟩)
    | (go_at_call 41; refine (few12_any l a len cap w1 (HT.out.go hb1)).mono ?_; rintro e w2 ⟨a2, cap2, m, rfl, hT2, hm, hlo2, hla, hb2⟩; clear hlo2 hla))
  have hb02 := hb1.trans (hb2.mono hb1.size)
  have hm' := hm.trans HL.out
  refine (HF1.out m a2 _ cap2 w2 hT2 hm' (HG.out.below hb02)).mono ?_
  rintro e w3 ⟨m3, ta3, tc3, pa3, pc3, rfl, -, -, hp3, hb3⟩
  have hF2 := Lib.hid (HF2.out m a2 _ cap2 w3 (hT2.go hb3) hm' (HG.out.below (hb02.trans (hb3.mono hb02.size))))
  have hs3 : ps1.length ≤ pc3 ∧ pc3 ≤ maxLen := ⟨hp3.2.1, hp3.2.2.1⟩
  have HP3 := Lib.hid hp3
  unfold maxLen at hs3
  obtain ⟨hs31, hs32⟩ := hs3
  clear hT2 hm hm' HF1 HF2 hp3 hlo HQ HFi HT HL
  generalize m.length = ml at hF2
  generalize m3.length = ml3
  go_wp2_with fail
  refine hF2.out.mono ?_
  clear hF2
  rintro e w4 ⟨m4, ta4, tc4, pa4, pc4, rfl, -, -, hp4, hb4⟩
  have hs4 : ps2.length ≤ pc4 ∧ pc4 ≤ maxLen := ⟨hp4.2.1, hp4.2.2.1⟩
  have HP4 := Lib.hid hp4
  have hb04 := hb02.trans ((hb3.trans (hb4.mono hb3.size)).mono hb02.size)
  unfold maxLen at hs4
  obtain ⟨hs41, hs42⟩ := hs4
  generalize m4.length = ml4
  clear hp4
  by_cases e1 : er1 = 0
  case neg =>
    have t1 : (er1 != 0) = true := by rw [bne_iff_ne]; exact e1
    clear e1 HP
    go_wp2_with fail
    go_ret
    exact ⟨rfl, hb04⟩
  subst e1
  obtain ⟨hp1, hp2⟩ := HP.out rfl
  clear HP
  by_cases e2 : er2 = 0
  case neg =>
    have h6 := hp1 e2
    have t2 : (er2 != 0) = true := by rw [bne_iff_ne]; exact e2
    clear e2 hp1 hp2
    go_wp2_with fail
    go_ret
    exact ⟨rfl, hb04⟩
  subst e2
  obtain ⟨hl, htk⟩ := hp2 rfl
  clear hp1 hp2
  have hmn : min (ps2.length : Int) (ps1.length : Int) = (ps2.length : Int) := by omega
  have htake := fun W => take_ints pa3 ps1.length pc3 ps2.length W (by omega)
  have HIn : Hid (Calls Tryz.prog 46 #[.slice pa3 ps2.length pc3, .slice pa4 ps2.length pc4] w4 fun e w' => e = .returned (.bool true) ∧ Below w4.heap.size w4 w') := by
    have h1 := ref12_Ints_any pa3 ps2.length pc3 ps2 pa4 ps2.length pc4 ps2 w4 (by have h2 := ((HP3.out.go hb4).1).take ps2.length hl; rw [htk] at h2; exact h2) HP4.out.1 (by unfold maxLen; omega)
    rw [show (ps2 == ps2) = true by simp] at h1
    exact h1
  have htk4 := htake w4
  clear htk htake
  go_wp2_with (go_at_call 46; refine HIn.out.mono ?_; rintro e w5 ⟨rfl, hb5⟩)
  go_ret
  exact ⟨rfl, hb04.trans (hb5.mono hb04.size)⟩
end Go.Proofs.YtpnlmfilmbodfaaGreatDoor
namespace Go.Proofs.YtpnlmfilmbodfaaGreatDoor
open Go Go.RowKit Go.Shelf
theorem fitAll_qt {b : Int} {L : List Ser} (hQ : tabRight L = true → QT L) : (∀ x ∈ (fitAll b L).1, x.fine) ∧ (tabRight (fitAll b L).1 = true → QT (fitAll b L).1) := by
  have hnil : (∀ x ∈ ([] : List Ser), x.fine) ∧ (tabRight ([] : List Ser) = true → QT []) := ⟨(fun x h => by cases h), fun _ => ⟨rfl, fun x h => by cases h⟩⟩
  cases hr : tabRight L with
  | false => rw [fitAll_wrong hr]; exact hnil
  | true =>
    cases hb : isBudgetB b with
    | false => rw [fitAll_no hr hb]; exact hnil
    | true =>
      cases hf : fit b L with
      | none => rw [fitAll_none hr hb hf]; exact hnil
      | some r =>
        rw [fitAll_some (a := r.1) (ps := r.2) hr hb hf]
        have h := (fit_says b L (hQ hr) r.1 r.2 hf).qt
        exact ⟨h.fine, fun _ => h⟩
theorem twice_plain {lo hi : Int} (hle : lo ≤ hi) {L : List Ser} (hQ : tabRight L = true → QT L) :
    ((fitAll hi L).2.2 ≠ 0 → (fitAll lo L).2.2 = (fitAll hi L).2.2 ∨ 1000000 < hi) ∧
    ((fitAll hi L).2.2 = 0 → (fitAll lo L).2.2 ≠ 0 → (fitAll lo (fitAll hi L).1).2.2 = (fitAll lo L).2.2) ∧
    ((fitAll hi L).2.2 = 0 → (fitAll lo L).2.2 = 0 → (fitAll lo (fitAll hi L).1).2.2 = 0 ∧ (fitAll lo (fitAll hi L).1).1 = (fitAll lo L).1 ∧ (fitAll hi L).2.1.length + (fitAll lo (fitAll hi L).1).2.1.length = (fitAll lo L).2.1.length) := by
  cases hr : tabRight L with
  | false => rw [fitAll_wrong (b := hi) hr, fitAll_wrong (b := lo) hr]; exact ⟨fun _ => .inl rfl, fun h => (by cases h), fun h => (by cases h)⟩
  | true =>
    have h := hQ hr
    cases hb : isBudgetB hi with
    | false =>
      rw [fitAll_no hr hb]
      refine ⟨fun _ => ?_, fun h => (by cases h), fun h => (by cases h)⟩
      by_cases hh : 1000000 < hi
      · exact .inr hh
      · have hb2 : isBudgetB lo = false := by
          have : ¬ (0 ≤ hi ∧ hi ≤ 1000000) := by simpa [isBudgetB] using hb
          simp [isBudgetB]; omega
        rw [fitAll_no hr hb2]
        exact .inl rfl
    | true =>
      obtain ⟨t1, t2⟩ := fit_twice lo hi hle L h
      cases hf : fit hi L with
      | none =>
        rw [fitAll_none hr hb hf]
        refine ⟨fun _ => .inl ?_, fun h => (by cases h), fun h => (by cases h)⟩
        cases hb2 : isBudgetB lo with
        | false => rw [fitAll_no hr hb2]
        | true => rw [fitAll_none hr hb2 (t2 hf)]
      | some r =>
        obtain ⟨x, ps⟩ := r
        have hx := (fit_says hi L h x ps hf).qt
        have h3 := t1 x ps hf
        rw [fitAll_some hr hb hf]
        refine ⟨fun h => absurd rfl h, fun _ hg => ?_, fun _ hg => ?_⟩
        · cases hb2 : isBudgetB lo with
          | false => rw [fitAll_no hr hb2, fitAll_no hx.right hb2]
          | true =>
            cases hg2 : fit lo x with
            | none => rw [fitAll_none hx.right hb2 hg2, fitAll_none hr hb2 (by rw [h3, hg2]; rfl)]
            | some q => rw [fitAll_some (a := q.1) (ps := ps ++ q.2) hr hb2 (by rw [h3, hg2]; rfl)] at hg; exact absurd rfl hg
        · obtain ⟨-, hb2, hg3⟩ := fitAll_ok hg
          cases hg2 : fit lo x with
          | none => rw [h3, hg2] at hg3; cases hg3
          | some q =>
            rw [fitAll_some (a := q.1) (ps := ps ++ q.2) hr hb2 (by rw [h3, hg2]; rfl), fitAll_some (a := q.1) (ps := q.2) hx.right hb2 hg2]
            exact ⟨rfl, rfl, by simp⟩
set_option maxRecDepth 100000 in
set_option maxHeartbeats 4000000 in
theorem quotaTwice_any (l : List (Ser × SerP)) (a : Option Addr) (len cap : Nat) (n1 n2 : Int) (w : World) (hT : Tab w.heap.size w a len cap l) (hU : ∀ x ∈ l.map (·.1), Ser.wn x) (_h1 : I64 n1) (_h2 : I64 n2) (hG : GW w) (_ : GT w) :
    Calls Tryz.prog 8 #[.slice a len cap, .int .i64 n1, .int .i64 n2] w fun e w' => e = .returned (.bool true) ∧ Below w.heap.size w w' := by
  have HT := Lib.hid hT
  have HG := Lib.hid hG
  obtain ⟨L, hL⟩ : ∃ L, few12 (l.map (·.1)) = L := ⟨_, rfl⟩
  have HQ : Hid (tabRight L = true → QT L) := by rw [← hL]; exact qt_few hU
  have HFi : Hid (∀ x ∈ L, x.fine) := by rw [← hL]; exact fine_few (fun y hy => (hU y hy).wf)
  have HL := Lib.hid hL
  obtain ⟨lo, hlo⟩ : ∃ lo, min n1 n2 = lo := ⟨_, rfl⟩
  obtain ⟨hi, hhi⟩ : ∃ hi, max n1 n2 = hi := ⟨_, rfl⟩
  have hpl := twice_plain (lo := lo) (hi := hi) (by omega) HQ.out
  have hqx := fitAll_qt (b := hi) HQ.out
  obtain ⟨X, hX⟩ : ∃ X, (fitAll hi L).1 = X := ⟨_, rfl⟩
  obtain ⟨Y, hY⟩ : ∃ Y, (fitAll lo X).1 = Y := ⟨_, rfl⟩
  obtain ⟨Z, hZ⟩ : ∃ Z, (fitAll lo L).1 = Z := ⟨_, rfl⟩
  rw [hX] at hpl hqx
  rw [hY, hZ] at hpl
  obtain ⟨ps1, hp1⟩ : ∃ ps, (fitAll hi L).2.1 = ps := ⟨_, rfl⟩
  obtain ⟨er1, he1⟩ : ∃ er, (fitAll hi L).2.2 = er := ⟨_, rfl⟩
  obtain ⟨ps2, hp2⟩ : ∃ ps, (fitAll lo X).2.1 = ps := ⟨_, rfl⟩
  obtain ⟨er2, he2⟩ : ∃ er, (fitAll lo X).2.2 = er := ⟨_, rfl⟩
  obtain ⟨ps3, hp3⟩ : ∃ ps, (fitAll lo L).2.1 = ps := ⟨_, rfl⟩
  obtain ⟨er3, he3⟩ : ∃ er, (fitAll lo L).2.2 = er := ⟨_, rfl⟩
  rw [hp1, he1, hp2, he2, hp3, he3] at hpl
  have HPl := Lib.hid hpl
  have HX := Lib.hid hX
  have HY := Lib.hid hY
  have HZ := Lib.hid hZ
  have HF1 : Hid (∀ (m : List (Ser × SerP)) (a2 : Option Addr) (len2 cap2 : Nat) W, Tab W.heap.size W a2 len2 cap2 m → m.map (·.1) = L → GW W → Calls Tryz.prog 45 #[.slice a2 len2 cap2, .int .i64 hi] W (FitP hi L ps1 er1 W)) := fun m a2 len2 cap2 W hT hm hG => Fit_named hp1 he1 hT hm HFi.out HQ.out hG
  have HF2 : Hid (∀ (m : List (Ser × SerP)) (a2 : Option Addr) (len2 cap2 : Nat) W, Tab W.heap.size W a2 len2 cap2 m → m.map (·.1) = X → GW W → Calls Tryz.prog 45 #[.slice a2 len2 cap2, .int .i64 lo] W (FitP lo X ps2 er2 W)) := fun m a2 len2 cap2 W hT hm hG => Fit_named hp2 he2 hT hm hqx.1 hqx.2 hG
  have HF3 : Hid (∀ (m : List (Ser × SerP)) (a2 : Option Addr) (len2 cap2 : Nat) W, Tab W.heap.size W a2 len2 cap2 m → m.map (·.1) = L → GW W → Calls Tryz.prog 45 #[.slice a2 len2 cap2, .int .i64 lo] W (FitP lo L ps3 er3 W)) := fun m a2 len2 cap2 W hT hm hG => Fit_named hp3 he3 hT hm HFi.out HQ.out hG
  clear hT hU hG hL hp1 he1 hp2 he2 hp3 he3 hX hY hZ hpl hqx
  go_enter Tryz.func8, Tryz.ntmps8
  go_wp2_with (first
    | (go_at_call 40; refine (shown13_any w HG.out).mono ?_; rintro e w1 ⟨rfl, hb1⟩)
    | (go_at_call 41; refine (few12_any l a len cap w1 (HT.out.go hb1)).mono ?_; rintro e w2 ⟨a2, cap2, m, rfl, hT2, hm, hlo2, hla, hb2⟩; clear hlo2 hla))
  have hb02 := hb1.trans (hb2.mono hb1.size)
  have hm' := hm.trans HL.out
  refine (HF1.out m a2 _ cap2 w2 hT2 hm' (HG.out.below hb02)).mono ?_
  rintro e w3 ⟨m3, ta3, tc3, pa3, pc3, rfl, hT3, hm3, hp3, hb3⟩
  have hb03 := hb02.trans (hb3.mono hb02.size)
  have hF2 := Lib.hid (HF2.out m3 ta3 _ tc3 w3 hT3 (hm3.trans HX.out) (HG.out.below hb03))
  have hs3 := hp3.2.2.1
  have hs3' := hp3.2.1
  unfold maxLen at hs3
  have HT2 := Lib.hid hT2
  have HM := Lib.hid hm'
  clear hm hm' hT2 hT3 hm3 hp3 HF1 HF2 HQ HFi HT HL HX
  generalize m3.length = ml3 at hF2
  go_wp2_with fail
  refine hF2.out.mono ?_
  clear hF2
  rintro e w4 ⟨m4, ta4, tc4, pa4, pc4, rfl, hT4, hm4, hp4, hb4⟩
  have hb24 := hb3.trans (hb4.mono hb3.size)
  have hb04 := hb02.trans (hb24.mono hb02.size)
  have hF3 := Lib.hid (HF3.out m a2 _ cap2 w4 (HT2.out.go hb24) HM.out (HG.out.below hb04))
  have HT4 := Lib.hid hT4
  have HM4 : Hid (m4.map (·.1) = Y) := hm4.trans HY.out
  have hs4 := hp4.2.2.1
  have hs4' := hp4.2.1
  unfold maxLen at hs4
  clear hT4 hm4 hp4 HF3 HY HT2 HM
  generalize m.length = ml at hF3
  have hlm4 : Hid (m4.length = m4.length) := rfl
  generalize m4.length = ml4 at HT4
  go_wp2_with fail
  refine hF3.out.mono ?_
  clear hF3 hlm4
  rintro e w5 ⟨m5, ta5, tc5, pa5, pc5, rfl, hT5, hm5, hp5, hb5⟩
  have hb05 := hb04.trans (hb5.mono hb04.size)
  have hs5 := hp5.2.2.1
  have hs5' := hp5.2.1
  unfold maxLen at hs5
  have HSm : Hid (Y = Z → Calls Tryz.prog 47 #[.slice ta4 ml4 tc4, .slice ta5 m5.length tc5] w5 fun e w' => e = .returned (.bool true) ∧ Below w5.heap.size w5 w') := fun h => series_Same_eq m4 m5 _ _ _ _ _ _ w5 (HT4.out.go hb5) hT5 (by rw [HM4.out, hm5, HZ.out, h])
  generalize m5.length = ml5 at HSm
  clear hT5 hm5 hp5 HM4 HT4 HZ
  obtain ⟨q1, q2, q3⟩ := HPl.out
  clear HPl
  by_cases e1 : er1 = 0
  case neg =>
    have t1 : (er1 != 0) = true := by rw [bne_iff_ne]; exact e1
    rcases q1 e1 with h | h
    · subst h
      clear e1 q1 q2 q3 HSm
      go_wp2_with fail
      go_ret
      exact ⟨rfl, hb05⟩
    · by_cases h7 : er3 = er1
      · subst h7
        clear e1 q1 q2 q3 HSm
        go_wp2_with fail
        go_ret
        exact ⟨rfl, hb05⟩
      · have t7 : (er3 == er1) = false := beq_eq_false_iff_ne.2 h7
        clear e1 q1 q2 q3 HSm h7
        go_wp2_with fail
        go_ret
        exact ⟨rfl, hb05⟩
  subst e1
  by_cases e3 : er3 = 0
  case neg =>
    have t3 : (er3 != 0) = true := by rw [bne_iff_ne]; exact e3
    have h6 := q2 rfl e3
    subst h6
    clear e3 q1 q2 q3 HSm
    go_wp2_with fail
    go_ret
    exact ⟨rfl, hb05⟩
  subst e3
  obtain ⟨h6, h7, h8⟩ := q3 rfl rfl
  subst h6
  have HS2 := Lib.hid (HSm.out h7)
  have h9 : ((ps1.length : Int) + (ps2.length : Int) == (ps3.length : Int)) = true := by rw [beq_iff_eq]; omega
  clear q1 q2 q3 HSm h7
  go_wp2_with (go_at_call 47; refine HS2.out.mono ?_; rintro e w6 ⟨rfl, hb6⟩)
  go_ret
  exact ⟨rfl, hb05.trans (hb6.mono hb05.size)⟩
end Go.Proofs.YtpnlmfilmbodfaaGreatDoor
namespace Go.Proofs.YtpnlmfilmbodfaaGreatDoor
open Go Go.RowKit Go.Shelf
theorem there_of {L : List Ser} (h : tabRight L = true) {x : Ser} (hx : x ∈ L) : thereAt L x.l = true := (find_sorted x.l L ((tabRight_iff _).1 h).2.2).2.2.2 ⟨x, hx, rfl⟩
theorem bound_no {b : Int} {L : List Ser} (h : (fitAll b L).2.2 ≠ 0) : (fitAll b L).1 = [] ∧ (fitAll b L).2.1 = [] ∧ fitsB b L = false := by
  unfold fitsB
  cases hr : tabRight L with
  | false => rw [fitAll_wrong hr]; exact ⟨rfl, rfl, rfl⟩
  | true =>
    cases hb : isBudgetB b with
    | false => rw [fitAll_no hr hb]; exact ⟨rfl, rfl, rfl⟩
    | true =>
      cases hf : fit b L with
      | none =>
        rw [fitAll_none hr hb hf]
        refine ⟨rfl, rfl, ?_⟩
        rw [Bool.true_and, Bool.true_and, decide_eq_false_iff_not]
        intro hc
        rw [fit_done hc] at hf
        cases hf
      | some r => rw [fitAll_some (a := r.1) (ps := r.2) hr hb hf] at h; exact absurd rfl h
structure Bound (b : Int) (L A : List Ser) (ps : List Nat) : Prop where
  qt : QT A
  len : A.length = L.length
  cost : costL A ≤ b
  fits : fitsB b A = true
  was : fitsB b L = (ps.length == 0)
  again : fitAll b A = (A, [], 0)
  each : ∀ (i : Nat) (x y : Ser), L[i]? = some x → A[i]? = some y → y.l = x.l ∧ x.sk.level ≤ y.sk.level ∧ y.seen = x.seen
theorem bound_yes {b : Int} {L : List Ser} (hQ : tabRight L = true → QT L) (h : (fitAll b L).2.2 = 0) : tabRight L = true ∧ Bound b L (fitAll b L).1 (fitAll b L).2.1 := by
  obtain ⟨hr, hb, hf⟩ := fitAll_ok h
  obtain ⟨g1, g2, g3, g4, g5, -⟩ := fit_says b L (hQ hr) _ _ hf
  generalize (fitAll b L).1 = A at *
  generalize (fitAll b L).2.1 = ps at *
  refine ⟨hr, g1, by have := congrArg List.length g3; simpa using this, g2, ?_, ?_, fitAll_some g1.right hb (fit_done g2), fun i x y hx hy => ⟨?_, (g4 i x y hx hy)⟩⟩
  · unfold fitsB; rw [g1.right, hb, decide_eq_true g2]; rfl
  · unfold fitsB
    rw [hr, hb, Bool.true_and, Bool.true_and]
    by_cases hc : costL L ≤ b
    · rw [decide_eq_true hc, g5.2 hc]; rfl
    · rw [decide_eq_false hc]
      have : ps ≠ [] := fun e => hc (g5.1 e)
      cases ps with
      | nil => exact absurd rfl this
      | cons p r => rfl
  · have h1 : (A.map (·.l))[i]? = some y.l := by rw [List.getElem?_map, hy]; rfl
    rw [g3, List.getElem?_map, hx] at h1
    exact (Option.some.inj h1).symm
set_option maxRecDepth 100000 in
set_option maxHeartbeats 4000000 in
theorem quotaBound_any (l : List (Ser × SerP)) (a : Option Addr) (len cap : Nat) (b : Int) (w : World) (hT : Tab w.heap.size w a len cap l) (hU : ∀ x ∈ l.map (·.1), Ser.wn x) (_hb : I64 b) (hG : GW w) (_ : GT w) :
    Calls Tryz.prog 9 #[.slice a len cap, .int .i64 b] w fun e w' => e = .returned (.bool true) ∧ Below w.heap.size w w' := by
  have HT := Lib.hid hT
  have HG := Lib.hid hG
  obtain ⟨L, hL⟩ : ∃ L, few12 (l.map (·.1)) = L := ⟨_, rfl⟩
  have HQ : Hid (tabRight L = true → QT L) := by rw [← hL]; exact qt_few hU
  have HFi : Hid (∀ x ∈ L, x.fine) := by rw [← hL]; exact fine_few (fun y hy => (hU y hy).wf)
  have HL := Lib.hid hL
  have hno := bound_no (b := b) (L := L)
  have hyes := bound_yes (b := b) HQ.out
  obtain ⟨A, hA⟩ : ∃ A, (fitAll b L).1 = A := ⟨_, rfl⟩
  obtain ⟨ps, hps⟩ : ∃ ps, (fitAll b L).2.1 = ps := ⟨_, rfl⟩
  obtain ⟨er, her⟩ : ∃ er, (fitAll b L).2.2 = er := ⟨_, rfl⟩
  rw [hA, hps, her] at hno
  rw [hA, hps, her] at hyes
  have HNo := Lib.hid hno
  have HYes := Lib.hid hyes
  have HA := Lib.hid hA
  have HF1 : Hid (∀ (m : List (Ser × SerP)) (a2 : Option Addr) (len2 cap2 : Nat) W, Tab W.heap.size W a2 len2 cap2 m → m.map (·.1) = L → GW W → Calls Tryz.prog 45 #[.slice a2 len2 cap2, .int .i64 b] W (FitP b L ps er W)) := fun m a2 len2 cap2 W hT hm hG => Fit_named hps her hT hm HFi.out HQ.out hG
  clear hT hU hG hL hA hps her hno hyes
  go_enter Tryz.func9, Tryz.ntmps9
  go_wp2_with (first
    | (go_at_call 40; refine (shown13_any w HG.out).mono ?_; rintro e w1 ⟨rfl, hb1⟩)
    | (go_at_call 41; refine (few12_any l a len cap w1 (HT.out.go hb1)).mono ?_; rintro e w2 ⟨a2, cap2, m, rfl, hT2, hm, hlo2, hla, hb2⟩; clear hlo2 hla))
  have hb02 := hb1.trans (hb2.mono hb1.size)
  have hm' := hm.trans HL.out
  refine (HF1.out m a2 _ cap2 w2 hT2 hm' (HG.out.below hb02)).mono ?_
  rintro e w3 ⟨m3, ta3, tc3, pa3, pc3, rfl, hT3, hm3, hp3, hb3⟩
  have hb03 := hb02.trans (hb3.mono hb02.size)
  have hs3 := hp3.2.2.1
  have hs3' := hp3.2.1
  unfold maxLen at hs3
  have HT2 := Lib.hid hT2
  have HM2 := Lib.hid hm'
  have HT3 := Lib.hid hT3
  have HM3 : Hid (m3.map (·.1) = A) := hm3.trans HA.out
  have HFt : Hid (∀ W, Below w3.heap.size w3 W → Calls Tryz.prog 48 #[.slice a2 m.length cap2, .int .i64 b] W fun e w' => e = .returned (.bool (fitsB b L)) ∧ Below W.heap.size W w') := fun W hb => by
    have h1 := QFits_any b m a2 m.length cap2 W ((HT2.out.go hb3).go hb) (tabFit_of HT2.out (by rw [HM2.out]; exact HFi.out)) (HG.out.below (hb03.trans (hb.mono hb03.size)))
    rw [HM2.out] at h1
    exact h1
  have hl3 := HT3.out.row.2.2.1
  have hl3' := HT3.out.row.2.1
  have hl2 := HT2.out.row.2.2.1
  have hl2' := HT2.out.row.2.1
  unfold maxLen at hl3 hl2
  clear hm hm' hT2 hT3 hm3 hp3 HF1 HT HL HA
  by_cases e1 : er = 0
  case neg =>
    have t1 : (er != 0) = true := by rw [bne_iff_ne]; exact e1
    obtain ⟨h6, h7, h8⟩ := HNo.out e1
    rw [h8] at HFt
    have hl0 : m3.length = 0 := by have := congrArg List.length HM3.out; rw [h6] at this; simpa using this
    subst h7
    clear e1 HNo HYes h6 h8 HM3
    generalize m3.length = ml3 at *
    subst hl0
    go_wp2_with (go_at_call 48; refine (HFt.out _ (Below.refl _ _)).mono ?_; rintro e w4 ⟨rfl, hb4⟩)
    go_ret
    exact ⟨rfl, hb03.trans (hb4.mono hb03.size)⟩
  subst e1
  obtain ⟨hrL, hbd⟩ := HYes.out rfl
  rw [hbd.was] at HFt
  have HB := Lib.hid hbd
  have HQL := Lib.hid (HQ.out hrL)
  have hlen : m3.length = m.length := by
    have h1 := congrArg List.length HM3.out
    have h2 := congrArg List.length HM2.out
    rw [List.length_map] at h1 h2
    rw [h1, h2, hbd.len]
  have HF2 : Hid (∀ W, Below w3.heap.size w3 W → Calls Tryz.prog 45 #[.slice ta3 m3.length tc3, .int .i64 b] W (FitP b A [] 0 W)) := fun W hb => Fit_named (by rw [HB.out.again]) (by rw [HB.out.again]) (HT3.out.go hb) HM3.out HB.out.qt.fine (fun _ => HB.out.qt) (HG.out.below (hb03.trans (hb.mono hb03.size)))
  have HRt : Hid (∀ W, Below w3.heap.size w3 W → Calls Tryz.prog 43 #[.slice ta3 m3.length tc3] W fun e w' => e = .returned (.bool true) ∧ Below W.heap.size W w') := fun W hb => by
    have h1 := series_Right_any m3 ta3 m3.length tc3 W (HT3.out.go hb) (tabFit_of HT3.out (by rw [HM3.out]; exact HB.out.qt.fine)) (HG.out.below (hb03.trans (hb.mono hb03.size)))
    rw [HM3.out, HB.out.qt.right] at h1
    exact h1
  have HCo : Hid (∀ W, Below w3.heap.size w3 W → Calls Tryz.prog 44 #[.slice ta3 m3.length tc3] W fun e w' => e = .returned (.int .i64 (costL A)) ∧ Below W.heap.size W w') := fun W hb => by
    have h1 := series_Cost_any m3 ta3 m3.length tc3 W (HT3.out.go hb) (tabFit_of HT3.out (by rw [HM3.out]; exact HB.out.qt.fine)) (HG.out.below (hb03.trans (hb.mono hb03.size)))
    rw [HM3.out, tabCost, HB.out.qt.right, if_pos rfl] at h1
    exact h1
  have HFa : Hid (∀ W, Below w3.heap.size w3 W → Calls Tryz.prog 48 #[.slice ta3 m3.length tc3, .int .i64 b] W fun e w' => e = .returned (.bool true) ∧ Below W.heap.size W w') := fun W hb => by
    have h1 := QFits_any b m3 ta3 m3.length tc3 W (HT3.out.go hb) (tabFit_of HT3.out (by rw [HM3.out]; exact HB.out.qt.fine)) (HG.out.below (hb03.trans (hb.mono hb03.size)))
    rw [HM3.out, HB.out.fits] at h1
    exact h1
  have hcb := hbd.cost
  have hc0 : 0 ≤ costL A := by
    have := (costL_small m3 _ _ HT3.out.at_ (tabFit_of HT3.out (by rw [HM3.out]; exact HB.out.qt.fine))).1
    rwa [HM3.out] at this
  have hbm : b ≤ 1000000 := by
    have h1 := hbd.fits
    simp only [fitsB, isBudgetB, Bool.and_eq_true, decide_eq_true_eq] at h1
    exact h1.1.2.2
  have HEa : Hid (∀ (k : Nat) (x y : Ser), L[k]? = some x → A[k]? = some y → y.l = x.l ∧ x.sk.level ≤ y.sk.level ∧ y.seen = x.seen) := HB.out.each
  have HLen := Lib.hid hlen
  generalize costL A = cA at HCo hcb hc0
  clear hlen
  clear HNo HYes hrL hbd HFi HQ
  go_wp2_with fail
  refine (HF2.out _ (Below.refl _ _)).mono ?_
  clear HF2
  rintro e w4 ⟨m4, ta4, tc4, pa4, pc4, rfl, hT4, hm4, hp4, hb4⟩
  have t1 : ((m3.length : Int) != (m.length : Int)) = false := by rw [HLen.out]; simp
  have HSm : Hid (∀ W, Below w4.heap.size w4 W → Calls Tryz.prog 47 #[.slice ta3 m3.length tc3, .slice ta4 m4.length tc4] W fun e w' => e = .returned (.bool true) ∧ Below W.heap.size W w') := fun W hb => series_Same_eq m3 m4 _ _ _ _ _ _ W ((HT3.out.go hb4).go hb) (hT4.go hb) (by rw [HM3.out, hm4, HB.out.again])
  generalize m4.length = ml4 at HSm
  clear hT4 hm4 hp4
  go_wp2_with (first
    | (go_at_call 43; refine (HRt.out _ hb4).mono ?_; rintro e w5 ⟨rfl, hb5⟩; have hb35 := hb4.trans (hb5.mono hb4.size))
    | (go_at_call 44; refine (HCo.out _ hb35).mono ?_; rintro e w6 ⟨rfl, hb6⟩))
  have hb46 := hb5.trans (hb6.mono hb5.size)
  go_loopw [12] (fun i wr => ∃ (k : Nat), i = .int .i64 k ∧ k ≤ m3.length ∧ Below w4.heap.size w4 wr) (fun i _ => m3.length - (intOf i).toNat)
  case atStart => exact ⟨0, rfl, Nat.zero_le _, hb46⟩
  case round =>
    obtain ⟨k, rfl, hk, hB⟩ := hrel
    have hB3 := hb4.trans (hB.mono hb4.size)
    have hB2 := hb3.trans (hB3.mono hb3.size)
    by_cases hlt : k < m3.length
    · obtain ⟨⟨y, py⟩, hy⟩ : ∃ e, m3[k]? = some e := ⟨_, List.getElem?_eq_getElem hlt⟩
      obtain ⟨⟨x, px⟩, hx⟩ : ∃ e, m[k]? = some e := ⟨_, List.getElem?_eq_getElem (by rw [← HLen.out]; exact hlt)⟩
      obtain ⟨b1, o1, rfl, hbb1, hc1⟩ := HT3.out.row.1.2 k (y, py) hy
      obtain ⟨b2, o2, rfl, hbb2, hc2⟩ := HT2.out.row.1.2 k (x, px) hx
      have HYx : Hid (A[k]? = some y) := by rw [Hid, ← HM3.out, List.getElem?_map, hy]; rfl
      have HXx : Hid (L[k]? = some x) := by rw [Hid, ← HM2.out, List.getElem?_map, hx]; rfl
      obtain ⟨v1, v2, v3⟩ := HEa.out k x y HXx.out HYx.out
      have HPy : Hid (py.At w3.heap.size w3 y) := HT3.out.at_ _ (List.mem_of_getElem? hy)
      have hFd := series_Find_any m (some ⟨b2, o2, none⟩) m.length cap2 y.l py.la py.ll py.lc wr ((HT2.out.go hb3).go hB3) (tabFit_of HT2.out (by rw [HM2.out]; exact HQL.out.fine)) (HG.out.below (hb03.trans (hB3.mono hb03.size))) (HPy.out.go hB3).l.1 (Nat.le_trans HPy.out.l.2.1 HPy.out.l.2.2.1)
      rw [HM2.out, HQL.out.right, if_pos rfl, Bool.true_and, v1, there_of HQL.out.right (List.mem_of_getElem? HXx.out)] at hFd
      have HFd := Lib.hid hFd
      have hfa := findAt_le L x.l
      generalize findAt L x.l = fa at HFd
      have p0 : wr.cell? ⟨b1, o1 + k * 12, none⟩ = some (.slice py.la py.ll py.lc) := (hB3.cell (p := ⟨b1, o1 + k * 12, none⟩) hbb1).trans (hc1 0 (by omega))
      have hbw1 : b1 < wr.heap.size := by have := hB3.size; omega
      have hbw2 : b2 < wr.heap.size := by have := hB2.size; omega
      have P2 : Hid (∀ W, Below wr.heap.size wr W → W.cell? ⟨b1, o1 + k * 12 + 2, none⟩ = some (.int .i64 y.sk.level) ∧ W.cell? ⟨b1, o1 + k * 12 + 11, none⟩ = some (.int .u64 y.seen)) := fun W hb => ⟨(hb.cell (p := ⟨b1, o1 + k * 12 + 2, none⟩) hbw1).trans ((hB3.cell (p := ⟨b1, o1 + k * 12 + 2, none⟩) hbb1).trans (hc1 2 (by omega))), (hb.cell (p := ⟨b1, o1 + k * 12 + 11, none⟩) hbw1).trans ((hB3.cell (p := ⟨b1, o1 + k * 12 + 11, none⟩) hbb1).trans (hc1 11 (by omega)))⟩
      have Q2 : Hid (∀ W, Below wr.heap.size wr W → W.cell? ⟨b2, o2 + k * 12 + 2, none⟩ = some (.int .i64 x.sk.level) ∧ W.cell? ⟨b2, o2 + k * 12 + 11, none⟩ = some (.int .u64 x.seen)) := fun W hb => ⟨(hb.cell (p := ⟨b2, o2 + k * 12 + 2, none⟩) hbw2).trans ((hB2.cell (p := ⟨b2, o2 + k * 12 + 2, none⟩) hbb2).trans (hc2 2 (by omega))), (hb.cell (p := ⟨b2, o2 + k * 12 + 11, none⟩) hbw2).trans ((hB2.cell (p := ⟨b2, o2 + k * 12 + 11, none⟩) hbb2).trans (hc2 11 (by omega)))⟩
      have t2 : decide (y.sk.level < x.sk.level) = false := decide_eq_false (by omega)
      have t3 : (y.seen != x.seen) = false := by rw [v3]; simp
      have i0 : (0 : Int) ≤ (k : Int) := by omega
      have i1 : (k : Int) < (m3.length : Int) := by omega
      have i2 : (k : Int) < (m.length : Int) := by have := HLen.out; omega
      have i3 : k < m.length := by have := HLen.out; omega
      clear v1 v3 hy hx hc1 hc2 hFd
      go_wp2_with (go_at_call 49; refine HFd.out.mono ?_; rintro e w7 ⟨rfl, hb7⟩)
      obtain ⟨p2, p11⟩ := P2.out _ hb7
      obtain ⟨q2, q11⟩ := Q2.out _ hb7
      go_quiet (fail)
      go_wp2_with fail
      go_roundw
      case rel => exact ⟨k + 1, by go_num, by omega, bDr (hB.trans (hb7.mono hB.size)) _⟩
      case measure => simp [intOf]; omega
    · obtain rfl : k = m3.length := by omega
      go_wp2_with fail
      refine (HFa.out _ hB3).mono ?_
      rintro e w7 ⟨rfl, hb7⟩
      have hB7 := hB.trans (hb7.mono hB.size)
      go_wp2_with fail
      refine (HSm.out _ hB7).mono ?_
      rintro e w8 ⟨rfl, hb8⟩
      have hB8 := hb4.trans ((hB7.trans (hb8.mono hB7.size)).mono hb4.size)
      have h10 : ((ps.length : Int) == 0) = (ps.length == 0) := by cases ps.length <;> rfl
      go_wp2_with fail
      refine (HFt.out _ hB8).mono ?_
      rintro e w9 ⟨rfl, hb9⟩
      have h11 : (((ps.length : Int) == 0) == (ps.length == 0)) = true := by rw [h10]; simp
      clear h10
      go_wp2_with fail
      go_ret
      exact ⟨rfl, hb03.trans ((hB8.trans (hb9.mono hB8.size)).mono hb03.size)⟩
end Go.Proofs.YtpnlmfilmbodfaaGreatDoor
