/- quota.Fits; aviaryref12.Ints; aviarylaw13.shown. -/
import Derived.Test.YthbhmnakmhambaaGreatDoorZV1S1
import Derived.Test.YthbhmnakmhambaaGreatDoorZQO
namespace Go.Proofs.YthbhmnakmhambaaGreatDoor
open Go Go.RowKit Go.Shelf
set_option maxRecDepth 100000 in
set_option maxHeartbeats 1000000 in
theorem ref12_Ints_any (a1 : Option Addr) (len1 cap1 : Nat) (l1 : List Nat) (a2 : Option Addr) (len2 cap2 : Nat) (l2 : List Nat) (w : World) (h1 : SlE encP 1 w.heap.size w a1 len1 l1) (h2 : SlE encP 1 w.heap.size w a2 len2 l2) (hm : len1 ≤ maxLen) :
  Calls Tryz.prog 32 #[.slice a1 len1 cap1, .slice a2 len2 cap2] w fun e w' => e = .returned (.bool (l1 == l2)) ∧ Below w.heap.size w w' := by
 have e1 := h1.1
 have e2 := h2.1
 unfold maxLen at hm
 by_cases hl : len1 = len2
 ·subst hl
  have t0 : ((len1 : Int) != (len1 : Int)) = false := by simp
  have E1 := Lib.hid e1
  have E2 := Lib.hid e2
  clear e1 e2
  go_enter Tryz.func32, Tryz.ntmps32
  go_wp2_with fail
  go_loopw [5] (fun i wr => ∃ (k : Nat), i = .int .i64 k ∧ k ≤ len1 ∧ Below w.heap.size w wr ∧ Hid (l1.take k = l2.take k)) (fun i _ => len1 - (intOf i).toNat)
  case atStart => exact ⟨0, rfl, Nat.zero_le _, Below.refl _ _, rfl⟩
  case round =>
   obtain ⟨k, rfl, hk, hB, HF⟩ := hrel
   by_cases hlt : k < len1
   ·obtain ⟨x, b1, o1, hx, ea1, hb1, hc1⟩ := (h1.below hB).at hlt
    obtain ⟨y, b2, o2, hy, ea2, hb2, hc2⟩ := (h2.below hB).at hlt
    subst ea1; subst ea2
    have p0 : wr.cell? ⟨b1, o1 + k * 1 + 0, none⟩ = some (.int .i64 (x : Int)) := hc1 0 (by omega)
    have q0 : wr.cell? ⟨b2, o2 + k * 1 + 0, none⟩ = some (.int .i64 (y : Int)) := hc2 0 (by omega)
    simp only [Nat.mul_one, Nat.add_zero] at p0 q0
    have i0 : (0 : Int) ≤ (k : Int) := by omega
    have i1 : (k : Int) < (len1 : Int) := by omega
    have HX := Lib.hid hx
    have HY := Lib.hid hy
    clear hc1 hc2 hx hy h1 h2
    by_cases hxy : x = y
    ·have n1 : ((x : Int) != (y : Int)) = false := by simp [hxy]
     have HXY : Hid (x = y) := hxy
     clear hxy
     go_wp2_with fail
     go_quiet (fail)
     go_wp2_with fail
     go_roundw
     case rel => exact ⟨k + 1, by go_num, by omega, bDr hB _, by rw [Hid, take_snoc' HX.out, take_snoc' HY.out, HF.out, HXY.out]⟩
     case measure => simp [intOf]; omega
    ·have n1 : ((x : Int) != (y : Int)) = true := by rw [bne_iff_ne]; omega
     have HXY : Hid (¬ x = y) := hxy
     clear hxy
     go_wp2_with fail
     go_quiet (fail)
     go_wp2_with fail
     go_ret
     have hne : (l1 == l2) = false := by
      rw [beq_eq_false_iff_ne]
      intro e
      have hx := HX.out
      rw [e, HY.out] at hx
      exact HXY.out (Option.some.inj hx).symm
     exact ⟨by rw [hne]; rfl, bDr hB _⟩
   ·obtain rfl : k = len1 := by omega
    clear h1 h2
    go_wp2_with fail
    go_ret
    have h9 := HF.out
    rw [List.take_of_length_le (by rw [← E1.out]; omega), List.take_of_length_le (by rw [← E2.out]; omega)] at h9
    exact ⟨by rw [h9]; simp, hB⟩
 ·have t0 : ((len1 : Int) != (len2 : Int)) = true := by rw [bne_iff_ne]; omega
  have hne : Hid ((l1 == l2) = false) := by
   rw [Hid, beq_eq_false_iff_ne]
   intro e
   rw [e] at e1
   omega
  clear e1 e2
  go_enter Tryz.func32, Tryz.ntmps32
  go_wp2_with fail
  go_ret
  exact ⟨by rw [hne.out]; rfl, Below.refl _ _⟩
def shSk13 : Sk := skOf 2 0 (bdNew 2)
def shS13 : Ser := ⟨[⟨⟨#[97]⟩, ⟨#[120]⟩⟩], shSk13, 0⟩
theorem sh13_put : putOk [] shS13 = true := by kernel_rfl
theorem sh13_putL : putL [] shS13 = [shS13] := by kernel_rfl
theorem sh13_right : tabRight [shS13] = true := by kernel_rfl
theorem sh13_good : shS13.good := by
 refine ⟨⟨fun y hy => ?_, by decide, by decide +kernel, by decide +kernel, by decide +kernel, skOf_fit (bdNew_ok 2 (.inr (.inl rfl))), by decide +kernel, by unfold U64; decide⟩, ⟨2, 0, bdNew 2, rfl, bdNew_ok 2 (.inr (.inl rfl))⟩⟩
 simp only [shS13, List.mem_singleton] at hy
 subst hy
 exact ⟨by decide, by decide⟩
theorem sh13_200 : (fitAll 200 [shS13]).2 = ([0, 0], 0) := by kernel_rfl
theorem sh13_cost : tabCost (fitAll 200 [shS13]).1 = 147 := by kernel_rfl
theorem sh13_50 : (fitAll 50 [shS13]).2 = ([], 130) := by kernel_rfl
theorem fitAll_ok {b : Int} {L : List Ser} (h : (fitAll b L).2.2 = 0) : tabRight L = true ∧ isBudgetB b = true ∧ fit b L = some ((fitAll b L).1, (fitAll b L).2.1) := by
 unfold fitAll at h ⊢
 cases hr : tabRight L with
 | false => rw [hr] at h; cases h
 | true =>
  rw [hr] at h
  cases hb : isBudgetB b with
  | false => rw [hb] at h; cases h
  | true =>
   rw [hb] at h
   cases hf : fit b L with
   | none => rw [hf] at h; cases h
   | some r => exact ⟨rfl, rfl, rfl⟩
theorem Fit_got (b : Int) (L : List Ser) (ps : List Nat) (he : (fitAll b L).2 = (ps, 0)) (m : List (Ser × SerP)) (a : Option Addr) (len cap : Nat) (w : World) (hT : Tab w.heap.size w a len cap m) (hm : m.map (·.1) = L) (hQ : QT L) (hG : GW w) :
  Calls Tryz.prog 31 #[.slice a len cap, .int .i64 b] w fun e w' => ∃ (m4 : List (Ser × SerP)) (ta : Option Addr) (n tc : Nat) (pa : Option Addr) (pc : Nat), e = .returned (.tuple #[.slice ta n tc, .slice pa ps.length pc, .int .i64 0]) ∧ Tab w'.heap.size w' ta n tc m4 ∧ m4.map (·.1) = (fitAll b L).1 ∧ QT (m4.map (·.1)) ∧ SlE encP 1 w'.heap.size w' pa ps.length ps ∧ Below w.heap.size w w' := by
 refine (Fit_any b m a len cap w hT (tabFit_of hT (by rw [hm]; exact hQ.fine)) (fun _ => by rw [hm]; exact hQ) hG).mono ?_
 rintro e w' h
 rw [hm] at h
 have e3 := (fitAll_ok (b := b) (L := L) (by rw [he])).2.2
 have hq := (fit_says b _ hQ _ _ e3).qt
 obtain ⟨m4, ta, tc, pa, pc, h1, h2, h3, -, -, h4, -, h5⟩ := h
 rw [he] at h1 h4
 exact ⟨m4, ta, m4.length, tc, pa, pc, h1, h2, h3, by rw [h3]; exact hq, h4.1, h5⟩
theorem Fit_not (b : Int) (L : List Ser) (n : Int) (he : (fitAll b L).2 = ([], n)) (m : List (Ser × SerP)) (a : Option Addr) (len cap : Nat) (w : World) (hT : Tab w.heap.size w a len cap m) (hm : m.map (·.1) = L) (hQ : QT L) (hG : GW w) :
  Calls Tryz.prog 31 #[.slice a len cap, .int .i64 b] w fun e w' => ∃ (ta : Option Addr) (k tc : Nat) (pa : Option Addr) (pc : Nat), e = .returned (.tuple #[.slice ta k tc, .slice pa 0 pc, .int .i64 n]) ∧ Below w.heap.size w w' := by
 refine (Fit_any b m a len cap w hT (tabFit_of hT (by rw [hm]; exact hQ.fine)) (fun _ => by rw [hm]; exact hQ) hG).mono ?_
 rintro e w' h
 rw [hm] at h
 obtain ⟨m4, ta, tc, pa, pc, h1, h2, h3, -, -, h4, -, h5⟩ := h
 rw [he] at h1
 exact ⟨ta, m4.length, tc, pa, pc, h1, h5⟩
theorem sh13_qt : QT [shS13] := ⟨sh13_right, fun x hx => by rw [List.mem_singleton] at hx; subst hx; exact sh13_good⟩
def Fit200 (a : Option Addr) (len cap : Nat) (w : World) : Prop := Calls Tryz.prog 31 #[.slice a len cap, .int .i64 200] w fun e w' => ∃ (m4 : List (Ser × SerP)) (ta : Option Addr) (n tc : Nat) (pa : Option Addr) (pc : Nat), e = .returned (.tuple #[.slice ta n tc, .slice pa 2 pc, .int .i64 0]) ∧ Tab w'.heap.size w' ta n tc m4 ∧ TabFit m4 ∧ tabCost (m4.map (·.1)) = 147 ∧ SlE encP 1 w'.heap.size w' pa 2 [0, 0] ∧ Below w.heap.size w w'
def Fit50 (a : Option Addr) (len cap : Nat) (w : World) : Prop := Calls Tryz.prog 31 #[.slice a len cap, .int .i64 50] w fun e w' => ∃ (ta : Option Addr) (k tc : Nat) (pa : Option Addr) (pc : Nat), e = .returned (.tuple #[.slice ta k tc, .slice pa 0 pc, .int .i64 130]) ∧ Below w.heap.size w w'
theorem sh13_fit (m : List (Ser × SerP)) (a : Option Addr) (len cap : Nat) (w : World) (hT : Tab w.heap.size w a len cap m) (hm : m.map (·.1) = [shS13]) (hG : GW w) :
  Fit200 a len cap w := by
 refine (Fit_got 200 [shS13] [0, 0] sh13_200 m a len cap w hT hm sh13_qt hG).mono ?_
 rintro e w' ⟨m4, ta, n, tc, pa, pc, h1, h2, h3, h4, h5, h6⟩
 exact ⟨m4, ta, n, tc, pa, pc, h1, h2, tabFit_of h2 h4.fine, by rw [h3]; exact sh13_cost, h5, h6⟩
theorem sh13_not (m : List (Ser × SerP)) (a : Option Addr) (len cap : Nat) (w : World) (hT : Tab w.heap.size w a len cap m) (hm : m.map (·.1) = [shS13]) (hG : GW w) :
  Fit50 a len cap w :=
 Fit_not 50 [shS13] 130 sh13_50 m a len cap w hT hm sh13_qt hG
set_option maxRecDepth 100000 in
set_option maxHeartbeats 4000000 in
theorem shown13_any (w : World) (hG : GW w) : Calls Tryz.prog 7 #[] w fun e w' => e = .returned (.bool true) ∧ Below w.heap.size w w' := by
 have HG := Lib.hid hG
 have HN := Lib.hid (New_any 2 (.inr (.inl rfl)) w)
 clear hG
 go_enter Tryz.func7, Tryz.ntmps7
 go_wp2_with (go_at_call 30; refine HN.out.mono ?_; rintro e w1 ⟨v, rfl, ⟨y, s, hy, rfl, hA⟩, hb1⟩; have HY := Lib.hid hy; clear hy)
 obtain ⟨W2, hW2, hXa, hXb, hB2, hs2⟩ := boxes2 w1 #[.int .i64 y.kind, .int .i64 y.level, .slice s.ea s.el s.ec, .int .i64 y.hb, .string y.hr, .int .i64 y.cr, .int .i64 y.cc, .slice s.ca s.cl s.cc, .int .i64 y.gf, .slice s.ga s.gl s.gc] 39 #[.string ⟨#[97]⟩, .string ⟨#[120]⟩] 70
 rw [hW2]
 have hb02 : Below w.heap.size w W2 := hb1.trans (hB2.mono hb1.size)
 have HP : Hid (SerP.At ⟨some ⟨w1.heap.size + 1, 0, none⟩, 1, 1, s⟩ W2.heap.size W2 ⟨[⟨⟨#[97]⟩, ⟨#[120]⟩⟩], y, 0⟩) := ⟨slC_one (t := 70) hXb, hA.go hB2⟩
 have HXS : Hid ((⟨[⟨⟨#[97]⟩, ⟨#[120]⟩⟩], y, 0⟩ : Ser) = shS13) := by rw [Hid, HY.out]; rfl
 refine (series_Put_fn [] none 0 0 ⟨[⟨⟨#[97]⟩, ⟨#[120]⟩⟩], y, 0⟩ ⟨some ⟨w1.heap.size + 1, 0, none⟩, 1, 1, s⟩ W2 Tab.nil (fun x h => by cases h) HP.out (by rw [HXS.out]; exact sh13_good.fine) (HG.out.below hb02)).mono ?_
 rintro e w3 ⟨a', cap', m, rfl, hT3, hm3, hb3, -⟩
 have hput : putE (([] : List (Ser × SerP)).map (·.1)) ⟨[⟨⟨#[97]⟩, ⟨#[120]⟩⟩], y, 0⟩ = 0 := by rw [HXS.out]; exact putE_of sh13_put
 have hm3' : m.map (·.1) = [shS13] := by
  rw [hm3, HXS.out]
  exact (putR_ok sh13_put).trans sh13_putL
 rw [hput]
 have hb03 := hb02.trans (hb3.mono hb02.size)
 have HT3 := Lib.hid hT3
 have HM3 := Lib.hid hm3'
 have HF200 : Hid (∀ W, Below w3.heap.size w3 W → Fit200 a' m.length cap' W) := fun W hb => sh13_fit m a' m.length cap' W (HT3.out.go hb) HM3.out (HG.out.below (hb03.trans (hb.mono hb03.size)))
 have HF50 : Hid (∀ W, Below w3.heap.size w3 W → Fit50 a' m.length cap' W) := fun W hb => sh13_not m a' m.length cap' W (HT3.out.go hb) HM3.out (HG.out.below (hb03.trans (hb.mono hb03.size)))
 clear hT3 hm3 hm3' hput hXa hXb hB2 hW2 hs2 hA hb1 hb02
 generalize m.length = ml at HF200 HF50
 have HIn : Hid (∀ (pa : Option Addr) (pc b cap : Nat) W, SlE encP 1 W.heap.size W pa 2 [0, 0] → W.heap[b]? = some (.cells #[.int .i64 0, .int .i64 0] 3 (0, 0)) → Calls Tryz.prog 32 #[.slice pa 2 pc, .slice (some ⟨b, 0, none⟩) 2 cap] W fun e w' => e = .returned (.bool true) ∧ Below W.heap.size W w') := fun pa pc b cap W h1 h2 => by
  refine ref12_Ints_any pa 2 pc [0, 0] (some ⟨b, 0, none⟩) 2 cap [0, 0] W h1 ⟨rfl, fun j x hx => ?_⟩ (by decide)
  refine ⟨b, 0, rfl, (Array.getElem?_eq_some_iff.1 h2).1, fun i hi => ?_⟩
  obtain rfl : i = 0 := by omega
  rw [cCc h2]
  rcases j with _ | _ | j
  ·simp at hx; subst hx; rfl
  ·simp at hx; subst hx; rfl
  ·simp at hx
 have hF := HF200.out _ (Below.refl _ _)
 unfold Fit200 at hF
 go_wp2_with fail
 refine hF.mono ?_
 clear hF
 rintro e w4 ⟨m4, ta, n4, tc, pa, pc, rfl, hT4, hF4, hc4, hp4, hb4⟩
 have hF := HF50.out _ hb4
 unfold Fit50 at hF
 go_wp2_with fail
 refine hF.mono ?_
 clear hF
 rintro e w5 ⟨ta5, n5, tc5, pa5, pc5, rfl, hb5⟩
 have hb05 := hb03.trans ((hb4.trans (hb5.mono hb4.size)).mono hb03.size)
 obtain ⟨W6, hW6, hX6, hB6, hs6⟩ := boxes1 w5 #[.int .i64 0, .int .i64 0] 3
 have hb56 := hb5.trans (hB6.mono hb5.size)
 have HI6 := Lib.hid (HIn.out pa pc w5.heap.size 2 W6 ((hp4.below hb56).mono hb56.size) hX6)
 have HC6 : Hid (∀ W, Below W6.heap.size W6 W → Calls Tryz.prog 12 #[.slice ta n4 tc] W fun e w' => e = .returned (.int .i64 147) ∧ Below W.heap.size W w') := fun W hb => by
  have h1 := series_Cost_any m4 ta n4 tc W ((hT4.go hb56).go hb) hF4 (HG.out.below (hb05.trans ((hB6.trans (hb.mono hB6.size)).mono hb05.size)))
  rw [hc4] at h1
  exact h1
 clear hT4 hF4 hc4 hp4 HF50 HF200 HIn hX6
 go_wp2_with (first
  | (go_at_call 32; refine HI6.out.mono ?_; rintro e w7 ⟨rfl, hb7⟩)
  | (go_at_call 12; refine (HC6.out _ hb7).mono ?_; rintro e w8 ⟨rfl, hb8⟩))
 go_ret
 exact ⟨rfl, hb05.trans ((hB6.trans ((hb7.trans (hb8.mono hb7.size)).mono hB6.size)).mono hb05.size)⟩
end Go.Proofs.YthbhmnakmhambaaGreatDoor
