/- Package ladder: to. Package ladder: told, Lower, To: the lists of what is told lie in new memory. Printed by gen_lr.py. -/
import Derived.Test.YtpnlmfilmbodfaaGreatDoorVA2
import Derived.Test.YtpnlmfilmbodfaaGreatDoorVA7
import Derived.Test.YtpnlmfilmbodfaaGreatDoorVA8
import Derived.Test.YtpnlmfilmbodfaaGreatDoorVB1
import Derived.Test.YtpnlmfilmbodfaaGreatDoorVCF
import Derived.Test.YtpnlmfilmbodfaaGreatDoorVCG
import Derived.Test.YtpnlmfilmbodfaaGreatDoorVF4
import Derived.Test.YtpnlmfilmbodfaaGreatDoorVF6
import Derived.Test.YtpnlmfilmbodfaaGreatDoorVF7
import Derived.Test.YtpnlmfilmbodfaaGreatDoorVF8
import Derived.Test.YtpnlmfilmbodfaaGreatDoorVG0
import Derived.Test.YtpnlmfilmbodfaaGreatDoorVGB
import Derived.Test.YtpnlmfilmbodfaaGreatDoorVGG
import Derived.Test.YtpnlmfilmbodfaaGreatDoorVGH
import Derived.Test.YtpnlmfilmbodfaaGreatDoorVH0
import Derived.Test.YtpnlmfilmbodfaaGreatDoorVH1
import Derived.Test.YtpnlmfilmbodfaaGreatDoorVHA
import Derived.Test.YtpnlmfilmbodfaaGreatDoorVHF
import Derived.Test.YtpnlmfilmbodfaaGreatDoorVJ1
import Derived.Test.YtpnlmfilmbodfaaGreatDoorVL0
import Derived.Test.YtpnlmfilmbodfaaGreatDoorVL2
import Derived.Test.YtpnlmfilmbodfaaGreatDoorVL3
import Derived.Test.YtpnlmfilmbodfaaGreatDoorVL5
import Derived.Test.YtpnlmfilmbodfaaGreatDoorVL7
import Derived.Test.YtpnlmfilmbodfaaGreatDoorVLI
import Derived.Test.YtpnlmfilmbodfaaGreatDoorVLR
import Derived.Test.YtpnlmfilmbodfaaGreatDoorVM1
import Derived.Test.YtpnlmfilmbodfaaGreatDoorVM2
import Derived.Test.YtpnlmfilmbodfaaGreatDoorVP1
import Derived.Test.YtpnlmfilmbodfaaGreatDoorVQA
import Derived.Test.YtpnlmfilmbodfaaGreatDoorVQB
import Derived.Test.YtpnlmfilmbodfaaGreatDoorVQD
import Derived.Test.YtpnlmfilmbodfaaGreatDoorVQH
import Derived.Test.YtpnlmfilmbodfaaGreatDoorVQK
import Derived.Test.YtpnlmfilmbodfaaGreatDoorVRKs
import Derived.Test.YtpnlmfilmbodfaaGreatDoorVS3
import Derived.Test.YtpnlmfilmbodfaaGreatDoorVS7
import Derived.Test.YtpnlmfilmbodfaaGreatDoorVShelf
import Derived.Test.YtpnlmfilmbodfaaGreatDoorVT7
import Derived.Test.YtpnlmfilmbodfaaGreatDoorVUS
import Derived.Test.YtpnlmfilmbodfaaGreatDoorVV1
import Derived.Test.YtpnlmfilmbodfaaGreatDoorVXA
import Derived.Test.YtpnlmfilmbodfaaGreatDoorVXE
import Derived.Test.YtpnlmfilmbodfaaGreatDoorVXI
import Derived.Test.YtpnlmfilmbodfaaGreatDoorVXK
import Derived.Test.YtpnlmfilmbodfaaGreatDoorWLE
import Derived.Test.YtpnlmfilmbodfaaGreatDoorProg
import Derived.Test.YtpnlmfilmbodfaaGreatDoorWJ0
import Derived.Deep.QuietTactic
import Derived.BigQuiet
import Derived.Shelf.SlIterI.Nil
import Derived.Shelf.SortM.Plain
import Derived.Shelf.SortM.SortNone
import Derived.Ground.GgzProg
import Derived.Ground.SlgmProg
import Derived.Maps.OwnOps
import Derived.Maps.OwnSet
import Derived.Maps.RangeWalk
import Derived.Maps.Ext
import Derived.BigRegion
import Derived.Laws.BytesArg
import Derived.Lib.ConvBytes
import Derived.Lib.MinMax
import Derived.Lib.BitFns
import Derived.Lib.ItoaNum
import Derived.ProofKit
import Derived.OpenShut
import Derived.Carry
import Derived.Deep.Slices
import Derived.Deep.Fields
import Derived.Deep.DeepHandedRow
import Derived.Lib.SmallJoins
import Derived.RangeFuncNested
import Derived.RangeFuncBound
import Derived.RangeFuncCalls
import Derived.RangeFuncLeaves
import Derived.Shelf.Abstract
import Derived.Shelf.RegionOpen
import Derived.OwnWalkIn
import Derived.TacticsInMore
import Derived.LoopNIn
import Derived.LoopIn
import Derived.Outline
import Derived.BigGuardIn
import Derived.WalkMore
import Derived.WalkKit
import Derived.LoopTactic
import Derived.WalkLawsBesides
import Derived.WalkSpells
import Derived.Lib.Hide
import Derived.Laws.RangeAny
import Derived.Lib.OthersKept
import Derived.Lib.Strings
import Derived.ScopeJumps
import Derived.Deep.RegionLaw
import Derived.Laws.BitsAllLaws
import Derived.Lib.SliceRun
import Derived.WideMake
import Derived.Shelf.Strings.Builder1
import Derived.Shelf.Strings.Builder2
import Derived.Shelf.Strings.OnBuilder
import Derived.Shelf.Small.Bits
import Derived.Shelf.Strings.BuilderF
import Derived.Shelf.Strings.BuilderK
import Derived.Shelf.Strings.BuilderRune
import Derived.Shelf.Utf8.AppendRune
import Derived.Shelf.Utf8.AppendRunePlain
import Derived.Shelf.Strings.Builder2Cap
import Derived.Shelf.Strconv.Itoa0
import Derived.Shelf.Strings.Search1
import Derived.Shelf.Strings.Search2
import Derived.Shelf.Strings.Search3
import Derived.Shelf.Strings.Cut
import Derived.Shelf.LaysM
import Derived.Shelf.Strings.Shaped
import Derived.Shelf.Unicode.DecodeSlow
import Derived.Shelf.Unicode.DecodeAny
import Derived.Shelf.Strings.BuilderCap
import Derived.Deep.RegionHeld3
import Derived.StillTactics
import Derived.Laws.Rows
import Derived.Deep.Cut
import Derived.Deep.CutRange
import Derived.Deep.DeepCutAuto
import Derived.LaidEql
import Derived.Stop.Asserts
import Derived.RowKitTokens
namespace Go.Proofs.YtpnlmfilmbodfaaGreatDoor
open Go Go.RowKit Go.Shelf
attribute [local go_sem] Oper.semAt_some
theorem wp_range_count1 {P : Program} {g : Operand} {ps : Array Tmp} {assign body : Code} {Q : Exit → Act → World → Prop} {a : Act} {w : World} {id : Nat} (L : List Nat) (s1 : Nat)
    {gf : Nat} {lb : Array Value} (hg : a.eval g = .func (.func gf) #[] lb) (eg : ∀ args w, (callFunc gf args).run P w = .ok (.enter gf args) w)
    {enc : Nat → Value} {M : Nat} (hseq : Counts P gf lb enc L M w) (hL : ∀ b ∈ L, b < w.heap.size) (hps : ps.size = 1)
    (I : Nat → World → Prop) (Ib : World → Prop) (hI : OwnFrom w.heap.size I) (hIb : OwnFrom w.heap.size (fun (_ : Unit) W => Ib W)) (hM : ∀ k W, I k W → k < M) (h0 : I 0 w)
    (hassign : ∀ (l k : Nat) (W : World) (K : Act → World → Prop), I k W → K { tmps := ((ps.zip #[enc k]).foldl (fun t (p, v) => t.setIfInBounds p v) a.tmps).setIfInBounds s1 (enc k), defers := [] } W →
      assign.wpIn (Fence.wide.inRound l) 7 P (Exit.then K (fun _ _ _ => False)) { tmps := (ps.zip #[enc k]).foldl (fun t (p, v) => t.setIfInBounds p v) a.tmps, defers := [] } W)
    (hbody : ∀ (l k : Nat) (W : World), I k W → body.wpIn (Fence.wide.inRound l) 7 P (ownPostG w.heap.size (KL L) (fun (_ : List Unit) => I (k + 1)) (fun c (_ : List Unit) W => c = .exit id ∧ Ib W) [] W) { tmps := ((ps.zip #[enc k]).foldl (fun t (p, v) => t.setIfInBounds p v) a.tmps).setIfInBounds s1 (enc k), defers := [] } W)
    (hfin : ∀ (D : Nat) (W : World), w.heap.size ≤ D → Ib W → W.heap[D]? = some (.deferred (some [])) → Q .normal { a with defers := { target := .collected D, args := #[] } :: a.defers } W) :
    (Code.rangeFunc g ps assign body).wp P (Exit.inBlock id Q) a w :=
  wp_range_count L (fun k => ((ps.zip #[enc k]).foldl (fun t (p, v) => t.setIfInBounds p v) a.tmps).setIfInBounds s1 (enc k)) hg eg hseq hL hps I Ib hI hIb hM h0 hassign hbody hfin
theorem ownSlC2 {α : Type} {enc : α → List Value} {k C : Nat} (henc : ∀ x, (enc x).length = k) {X Y : World} {row : Option Nat} {a : Option Addr} {len cap : Nat} {l : List α} (hs : SlC enc k X.heap.size X a len cap l) (hg : X.grownBy Y row) (hr : ∀ r, row = some r → C ≤ r ∧ ∃ o : Obj, X.heap[r]? = some o ∧ o.isCells = false) : SlC enc k Y.heap.size Y a len cap l := by
  have h1 : SlC enc k X.heap.size Y a len cap l := ⟨⟨hs.1.1, fun j x hx => by
    obtain ⟨b, off, e, hb, hc⟩ := hs.1.2 j x hx
    refine ⟨b, off, e, hb, fun i hi => ?_⟩
    have h2 := hc i hi
    have h3 : (enc x)[i]? = some ((enc x)[i]'(by rw [henc]; exact hi)) := List.getElem?_eq_getElem _
    rw [h3] at h2 ⊢
    exact cell_own h2 hg (fun r h => (hr r h).2)⟩, hs.2⟩
  exact h1.mono hg.size
theorem ownBd {C : Nat} {X Y : World} {row : Option Nat} {v : Value} {B : Bd} (h : BdAt X v B) (hg : X.grownBy Y row) (hr : ∀ r, row = some r → C ≤ r ∧ ∃ o : Obj, X.heap[r]? = some o ∧ o.isCells = false) : BdAt Y v B := by
  cases B with
  | num l => obtain ⟨a, len, cap, h1, h2⟩ := h; exact ⟨a, len, cap, h1, ownSlC2 (enc := encU) (fun _ => rfl) h2 hg hr⟩
  | reg b r => exact h
  | cnt c l => obtain ⟨a, len, cap, h1, h2⟩ := h; exact ⟨a, len, cap, h1, ownSlC2 (enc := encU) (fun _ => rfl) h2 hg hr⟩
  | bkt f l => obtain ⟨a, len, cap, h1, h2⟩ := h; exact ⟨a, len, cap, h1, ownSlC2 (enc := encB) (fun _ => rfl) h2 hg hr⟩
theorem down_succ : ∀ (k : Nat) (s : Nat × Bd), wkDown (k + 1) s = wkLow (wkDown k s)
  | 0, _ => rfl
  | k + 1, s => down_succ k (wkLow s)
theorem down_lev : ∀ (k : Nat) (s : Nat × Bd), (wkDown k s).1 = s.1 + k
  | 0, _ => rfl
  | k + 1, s => by rw [down_succ]; show (wkDown k s).1 + 1 = _; rw [down_lev k s]; omega
theorem down_ok {k L n : Nat} {B : Bd} (h : B.Ok k L) (hn : L + n ≤ botN k) : (wkDown n (L, B)).2.Ok k (L + n) := by
  have h1 := (wkTo_ok (L + n) hn _ (L, B) rfl h).1
  have e : wkTo (L, B) (L + n) = wkDown n (L, B) := by unfold wkTo; rw [show L + n - (L, B).1 = n by show L + n - L = n; omega]
  rw [e, down_lev] at h1
  exact h1
def Work (W : World) (b : Nat) (v : Value) (kind : Nat) (level : Int) : Prop := W.heap[b]? = some (.cells #[v, .int .i64 kind, .int .i64 level] 88 (0, 0))
def TI (B : Bd) (kind level t : Nat) (w : World) (k : Nat) (W : World) : Prop :=
  k ≤ t - level ∧ (∃ T rv, Work W w.heap.size (.iface T rv) kind ((level : Int) + (k : Int)) ∧ BdAt W (.iface T rv) (wkDown k (level, B)).2) ∧ Boxed W (w.heap.size + 1) 3 (.int .i64 t) ∧
  W.heap[w.heap.size + 2]? = some (.cells #[.nilIface, .int .i64 0, .int .i64 0] 88 (0, 0)) ∧ Boxed W (w.heap.size + 3) 90 .nilIface ∧ Below w.heap.size w W
theorem ownBlk {X Y : World} {row : Option Nat} {b : Nat} {cs : Array Value} {t : TypeId} {f : Nat × Nat} (h : X.heap[b]? = some (.cells cs t f)) (hg : X.grownBy Y row) (hr : ∀ r, row = some r → ∃ o : Obj, X.heap[r]? = some o ∧ o.isCells = false) : Y.heap[b]? = some (.cells cs t f) := by
  refine (hg.block b (Array.getElem?_eq_some_iff.1 h).1 (fun e => ?_)).trans h
  obtain ⟨o, ho, h2⟩ := hr b e.symm
  rw [h] at ho
  cases ho
  cases h2
theorem ti_own (B : Bd) (kind level t : Nat) (w : World) (C : Nat) (hC : w.heap.size ≤ C) : OwnFrom C (TI B kind level t w) := fun k X Y row hs hg hr => by
  obtain ⟨h1, ⟨T, rv, h2, h3⟩, h4, h5, h6, h7⟩ := hs
  have hr' : ∀ r, row = some r → ∃ o : Obj, X.heap[r]? = some o ∧ o.isCells = false := fun r e => (hr r e).2
  exact ⟨h1, ⟨T, rv, ownBlk h2 hg hr', ownBd h3 hg hr⟩, ownBlk h4 hg hr', ownBlk h5 hg hr', ownBlk h6 hg hr', ownFrom_below (β := Unit) (B := C) (Nat.le_refl _) hC () X Y row h7 hg hr⟩
set_option maxRecDepth 100000 in
set_option maxHeartbeats 2000000 in
theorem to_any (v : Value) (B : Bd) (kind level t : Nat) (w : World) (hb : BdAt w v B) (hok : B.Ok kind level) (ht : t ≤ botN kind) :
    Calls Tryz.prog 77 #[.agg #[v, .int .i64 kind, .int .i64 level], .int .i64 t] w fun e w' => ∃ v', e = .returned (.tuple #[.agg #[v', .int .i64 kind, .int .i64 ((wkTo (level, B) t).1 : Int)], .nilIface]) ∧ BdAt w' v' (wkTo (level, B) t).2 ∧ Below w.heap.size w w' := by
  obtain ⟨T, rv, rfl⟩ := bd_iface hb
  obtain ⟨W0, hW0, hXp, hXl, hXr, hB0, hs0⟩ := boxes3 w #[.iface T rv, .int .i64 kind, .int .i64 level] 88 #[.int .i64 t] 3 #[.nilIface, .int .i64 0, .int .i64 0] 88
  have HBT : Hid (∀ w, Calls Tryz.prog 31 #[.int .i64 kind] w fun e w' => e = .returned (.int .i64 (botN kind : Nat)) ∧ w' = w) := fun w => (Bottom_any kind w).mono fun e w' ⟨h1, h2⟩ => ⟨by rw [h1, (bot_eq hok).1], h2.symm⟩
  have c0 : W0.cell? ⟨w.heap.size, 0, none⟩ = some (.iface T rv) := cCc hXp 0
  have c1 : W0.cell? ⟨w.heap.size, 1, none⟩ = some (.int .i64 kind) := cCc hXp 1
  have c2 : W0.cell? ⟨w.heap.size, 2, none⟩ = some (.int .i64 level) := cCc hXp 2
  have d0 : W0.cell? ⟨w.heap.size + 1, 0, none⟩ = some (.int .i64 t) := cCc hXl 0
  have hb4 : botN kind ≤ 4 := by unfold botN; split <;> omega
  have t1 : decide ((botN kind : Int) < (t : Int)) = false := by simp; omega
  have HXP := Lib.hid hXp
  have HXL := Lib.hid hXl
  have HXR := Lib.hid hXr
  have HB0 := Lib.hid hB0
  have HB := Lib.hid (hb.go hB0)
  have hlv := ok_bot hok
  clear hXp hXl hXr hB0 hb
  refine calls_marks Tryz.func77 rfl ?_
  simp only [Tryz.ntmps77, List.size_toArray, List.length_cons, List.length_nil, Nat.reduceAdd, Nat.reduceSub, Array.replicate_succ, Array.replicate_zero, List.push_toArray, List.append_toArray, List.nil_append, List.cons_append]
  go_wp2_with fail
  go_step3
  go_wp2_with fail
  go_quiet ((go_at_call 31; exact Calls.quiet_of_same (HBT.out _)))
  go_wp2_with fail
  obtain ⟨W3, hW3, hX3, hB3, hs3⟩ := boxes1 (W0.drewN nq) #[.nilIface] 90
  rw [hW3]
  have hz : (W0.drewN nq).heap.size = w.heap.size + 3 := hs0
  rw [hz] at hX3 hs3
  have hB03 : Below W0.heap.size W0 W3 := (drewN_below nq).trans hB3
  have hXP3 := known hB03 (Nat.le_refl _) HXP.out
  have hXL3 := known hB03 (Nat.le_refl _) HXL.out
  have hXR3 := known hB03 (Nat.le_refl _) HXR.out
  have p0 : W3.cell? ⟨w.heap.size, 0, none⟩ = some (.iface T rv) := cCc hXP3 0
  have p1 : W3.cell? ⟨w.heap.size, 1, none⟩ = some (.int .i64 kind) := cCc hXP3 1
  have p2 : W3.cell? ⟨w.heap.size, 2, none⟩ = some (.int .i64 level) := cCc hXP3 2
  obtain ⟨W4, hW4, hX4, hB4, hs4⟩ := boxes1 W3 #[.int .i64 level] 3
  rw [hs3] at hX4 hs4
  have HW4 := Lib.hid hW4
  have HB3 := Lib.hid (hB03.trans (hB4.mono hB03.size))
  have h0 : TI B kind level t w 0 W4 := by
    refine ⟨Nat.zero_le _, ⟨T, rv, ?_, HB.out.go HB3.out⟩, known hB4 (Nat.le_refl _) hXL3, known hB4 (Nat.le_refl _) hXR3, known hB4 (Nat.le_refl _) hX3, HB0.out.trans (HB3.out.mono HB0.out.size)⟩
    have h := known hB4 (Nat.le_refl _) hXP3
    show W4.heap[w.heap.size]? = some (.cells #[.iface T rv, .int .i64 kind, .int .i64 ((level : Int) + ((0 : Nat) : Int))] 88 (0, 0))
    rw [show (level : Int) + ((0 : Nat) : Int) = level by omega]
    exact h
  have H0 := Lib.hid h0
  have HX4 := Lib.hid hX4
  have hz4 : w.heap.size + 5 ≤ W4.heap.size := by omega
  have HOK := Lib.hid hok
  clear hW4 hX3 hB3 hB03 hXP3 hXL3 hXR3 hX4 hB4 h0 hok c0 c1 c2 d0
  apply wp_label
  go_wp2_with (go_at_call 139; refine (levels_any _ _).mono ?_; rintro e w' ⟨rfl, rfl⟩; rw [HW4.out])
  refine wp_range_count1 [] 7 (gf := 187) (lb := #[.pointer (some ⟨w.heap.size + 3 + 1, 0, none⟩)]) rfl (enters_of Tryz.func187 (by kernel_rfl) rfl)
    (levels_counts (w.heap.size + 3 + 1) level (t - level + 1) W4 HX4.out (by omega)) (by intro k hk; cases hk) rfl (TI B kind level t w) (TI B kind level t w (t - level)) (ti_own B kind level t w _ (by omega)) (fun _ X Y row h hg hr => ti_own B kind level t w _ (by omega) _ X Y row h hg hr) (fun k W h => Nat.lt_succ_of_le h.1) H0.out ?assign ?body ?fin
  case assign =>
    rintro l k W K hI hK
    simp only [List.zip_toArray, List.zip_cons_cons, List.zip_nil_right, List.size_toArray, List.foldl_toArray', List.foldl_cons, List.foldl_nil, List.setIfInBounds_toArray, List.set_cons_succ, List.set_cons_zero] at hK ⊢
    gi_wp2
    exact hK
  case body =>
    rintro lo k W ⟨hk, ⟨T1, rv1, hW1, hb1⟩, hL1, hR1, hE1, hB1⟩
    simp only [List.zip_toArray, List.zip_cons_cons, List.zip_nil_right, List.size_toArray, List.foldl_toArray', List.foldl_cons, List.foldl_nil, List.setIfInBounds_toArray, List.set_cons_succ, List.set_cons_zero]
    have c0 := hL1.cell
    have e0 := hE1.cell
    by_cases hlt : level + k < t
    · have g1 : decide ((t : Int) ≤ (level : Int) + (k : Int)) = false := by simp; omega
      have hok1 := down_ok HOK.out (show level + k ≤ botN kind by omega)
      have HLow := lowered_any _ _ kind (level + k) W hb1 hok1 (by omega)
      rw [Int.natCast_add] at HLow
      have hW1' : W.heap[w.heap.size]? = some (.cells #[.iface T1 rv1, .int .i64 kind, .int .i64 ((level : Int) + (k : Int))] 88 (0, 0)) := hW1
      have d0 : W.cell? ⟨w.heap.size, 0, none⟩ = some (.iface T1 rv1) := cCc hW1' 0
      have d1 : W.cell? ⟨w.heap.size, 1, none⟩ = some (.int .i64 kind) := cCc hW1' 1
      have d2 : W.cell? ⟨w.heap.size, 2, none⟩ = some (.int .i64 ((level : Int) + (k : Int))) := cCc hW1' 2
      gi_wp2_with fail
      refine ⟨trivial, (CallsIn.inRound lo (callsIn_wide.2 HLow)).mono ?_⟩
      rintro e W5 ⟨v5, rfl, hb5, hB5⟩
      obtain ⟨T5, rv5, rfl⟩ := bd_iface hb5
      have hW5 := known hB5 (Nat.le_refl _) hW1'
      have hE5 : W5.heap[w.heap.size + 3]? = some (.cells #[.nilIface] 90 (0, 0)) := known hB5 (Nat.le_refl _) hE1
      have q0 : W5.cell? ⟨w.heap.size, 0, none⟩ = some (.iface T1 rv1) := cCc hW5 0
      have q1 : W5.cell? ⟨w.heap.size, 1, none⟩ = some (.int .i64 kind) := cCc hW5 1
      have q2 : W5.cell? ⟨w.heap.size, 2, none⟩ = some (.int .i64 ((level : Int) + (k : Int))) := cCc hW5 2
      have f0 : W5.frozen? ⟨w.heap.size, 0, none⟩ = false := cFz hW5 0
      have f1 : W5.frozen? ⟨w.heap.size, 1, none⟩ = false := cFz hW5 1
      have f2 : W5.frozen? ⟨w.heap.size, 2, none⟩ = false := cFz hW5 2
      obtain ⟨V, hV, hVX, hVO, hVB⟩ := store3 (.iface T5 rv5) (.int .i64 kind) (.int .i64 ((level : Int) + (k : Int) + 1)) hW5
      have hEV := (hVO.2 (w.heap.size + 3) (by omega)).trans hE5
      have u0 : V.cell? ⟨w.heap.size + 3, 0, none⟩ = some (.nilIface) := cCc hEV 0
      have v0 : V.frozen? ⟨w.heap.size + 3, 0, none⟩ = false := cFz hEV 0
      have hse : V.setCell ⟨w.heap.size + 3, 0, none⟩ .nilIface = V := set_same hEV rfl
      have hbV : BdAt V (.iface T5 rv5) (wkDown (k + 1) (level, B)).2 := by rw [down_succ]; exact BdAt.set_work hb5 hW5 (by simp) (by simp) (by simp) hVO
      have hKV : KeepsFrom W4.heap.size W V := by
        rw [← hV]
        exact (bKeeps hB5 (Nat.le_refl _)).trans ((((KeepsOthers.setCell _ _ _).from _).trans ((KeepsOthers.setCell _ _ _).from _)).trans ((KeepsOthers.setCell _ _ _).from _))
      have hXV : Work V w.heap.size (.iface T5 rv5) kind ((level : Int) + ((k + 1 : Nat) : Int)) := by
        rw [show (level : Int) + ((k + 1 : Nat) : Int) = (level : Int) + (k : Int) + 1 by omega]
        exact hVX
      have HT : Hid (TI B kind level t w (k + 1) V) := ⟨by omega, ⟨T5, rv5, hXV, hbV⟩, (hVO.2 _ (by omega)).trans (known hB5 (Nat.le_refl _) hL1), (hVO.2 _ (by omega)).trans (known hB5 (Nat.le_refl _) hR1), hEV, hVB _ _ (hB1.trans (hB5.mono hB1.size)) (Nat.le_refl _)⟩
      clear hVX hVO hVB hEV hbV hXV hE5 hW5 hb5 hB5
      gi_wp2_with fail
      exact ⟨hKV, (fun b hb => by cases hb), HT.out⟩
    · have g1 : decide ((t : Int) ≤ (level : Int) + (k : Int)) = true := by simp; omega
      obtain rfl : k = t - level := by omega
      have HT : Hid (TI B kind level t w (t - level) W) := ⟨hk, ⟨T1, rv1, hW1, hb1⟩, hL1, hR1, hE1, hB1⟩
      clear hW1 hb1 hL1 hR1 hE1 hB1
      gi_wp2_with fail
      exact ⟨KeepsFrom.refl _ _, rfl, HT.out⟩
  case fin =>
    rintro D W hD ⟨hk, ⟨T1, rv1, hW1, hb1⟩, hL1, hR1, hE1, hB1⟩ hK
    have hW1' : W.heap[w.heap.size]? = some (.cells #[.iface T1 rv1, .int .i64 kind, .int .i64 ((level : Int) + ((t - level : Nat) : Int))] 88 (0, 0)) := hW1
    have hlev : (level : Int) + ((t - level : Nat) : Int) = ((wkTo (level, B) t).1 : Int) := by
      unfold wkTo
      rw [down_lev]
      show _ = ((level + (t - level) : Nat) : Int)
      omega
    rw [hlev] at hW1'
    have hbd : BdAt W (.iface T1 rv1) (wkTo (level, B) t).2 := hb1
    obtain ⟨L2, hL2⟩ : ∃ L2, (wkTo (level, B) t).1 = L2 := ⟨_, rfl⟩
    obtain ⟨B2, hB2⟩ : ∃ B2, (wkTo (level, B) t).2 = B2 := ⟨_, rfl⟩
    rw [hL2] at hW1'
    rw [hB2] at hbd
    have HL2 := Lib.hid hL2
    have HB2 := Lib.hid hB2
    clear hL2 hB2 hlev
    have e0 := hE1.cell
    have d0 : W.cell? ⟨w.heap.size, 0, none⟩ = some (.iface T1 rv1) := cCc hW1' 0
    have d1 : W.cell? ⟨w.heap.size, 1, none⟩ = some (.int .i64 kind) := cCc hW1' 1
    have d2 : W.cell? ⟨w.heap.size, 2, none⟩ = some (.int .i64 L2) := cCc hW1' 2
    have r0 : W.cell? ⟨w.heap.size + 2, 0, none⟩ = some (.nilIface) := cCc hR1 0
    have r1 : W.cell? ⟨w.heap.size + 2, 1, none⟩ = some (.int .i64 0) := cCc hR1 1
    have r2 : W.cell? ⟨w.heap.size + 2, 2, none⟩ = some (.int .i64 0) := cCc hR1 2
    have f0 : W.frozen? ⟨w.heap.size + 2, 0, none⟩ = false := cFz hR1 0
    have f1 : W.frozen? ⟨w.heap.size + 2, 1, none⟩ = false := cFz hR1 1
    have f2 : W.frozen? ⟨w.heap.size + 2, 2, none⟩ = false := cFz hR1 2
    obtain ⟨V, hV, hVX, hVO, hVB⟩ := store3 (b := w.heap.size + 1 + 1) (.iface T1 rv1) (.int .i64 kind) (.int .i64 L2) hR1
    have hbV : BdAt V.drew (.iface T1 rv1) B2 := (BdAt.set_work hbd hR1 (by simp) (by simp) (by simp) hVO).go (Below.refl _ _).drew
    have hKV : V.drew.heap[D]? = some (.deferred (some [])) := (hVO.2 D (by omega)).trans hK
    have hBV : Below w.heap.size w V.drew := (hVB _ _ hB1 (by omega)).drew
    have hXP : (V.drew.putObj D (.deferred none)).heap[w.heap.size + 1 + 1]? = some (.cells #[.iface T1 rv1, .int .i64 kind, .int .i64 L2] 88 (0, 0)) := (World.putObj_heap_other (by omega)).trans hVX
    have HbV := Lib.hid hbV
    have HBV := Lib.hid hBV
    have HKV := Lib.hid hKV
    have HV := Lib.hid hV
    clear hbV hBV hKV hV hVX hVO hVB
    go_wp2_with fail
    go_region
    rw [HV.out]
    go_wp2_with fail
    rw [Exit.noGoto_ret]
    have x0 : (V.drew.putObj D (.deferred none)).cell? ⟨w.heap.size + 1 + 1, 0, none⟩ = some (.iface T1 rv1) := cCc hXP 0
    have x1 : (V.drew.putObj D (.deferred none)).cell? ⟨w.heap.size + 1 + 1, 1, none⟩ = some (.int .i64 kind) := cCc hXP 1
    have x2 : (V.drew.putObj D (.deferred none)).cell? ⟨w.heap.size + 1 + 1, 2, none⟩ = some (.int .i64 L2) := cCc hXP 2
    refine marks_ret1 (v := .tuple #[.agg #[.iface T1 rv1, .int .i64 kind, .int .i64 L2], .nilIface]) HKV.out ?_ ?_
    · simp [results, Tryz.f77, go_sem, x0, x1, x2]
    · rw [HL2.out, HB2.out]
      exact ⟨_, rfl, ownBd (C := 0) HbV.out (grownBy_putObj' _ D _) (fun r e => by cases e; exact ⟨Nat.zero_le _, _, HKV.out, rfl⟩), bPutD HBV.out (by omega) HKV.out⟩
end Go.Proofs.YtpnlmfilmbodfaaGreatDoor
namespace Go.Proofs.YtpnlmfilmbodfaaGreatDoor
open Go Go.RowKit Go.Shelf
set_option maxRecDepth 100000 in
set_option maxHeartbeats 2000000 in
theorem To_anyN {k L : Nat} {t : Nat} {B : Bd} {v : Value} {w : World} (hok : B.Ok k L) (ht : t ≤ botN k) (hv : SkB w v k L B) :
    Calls Tryz.prog 21 #[v, .int .i64 t] w fun e w' => ∃ x, e = .returned (.tuple #[x, .int .i64 0]) ∧ SkN w.heap.size w' x k (wkTo (L, B) t).1 (wkTo (L, B) t).2 ∧ Below w.heap.size w w' := by
  have hok2 : ((wkTo (L, B) t).2).Ok k ((wkTo (L, B) t).1) := (wkTo_ok t ht _ (L, B) rfl hok).1
  obtain ⟨y, s, hy, rfl, hA⟩ := hv
  obtain ⟨W0, hW0, hXp, hXr, hB0, hs0⟩ := boxes2 w #[.int .i64 y.kind, .int .i64 y.level, .slice s.ea s.el s.ec, .int .i64 y.hb, .string y.hr, .int .i64 y.cr, .int .i64 y.cc, .slice s.ca s.cl s.cc, .int .i64 y.gf, .slice s.ga s.gl s.gc] 33 #[.int .i64 0, .int .i64 0, .slice none 0 0, .int .i64 0, .string ⟨#[]⟩, .int .i64 0, .int .i64 0, .slice none 0 0, .int .i64 0, .slice none 0 0] 33
  have HO := Lib.hid (open_sk_any (w := W0) hok ⟨y, s, hy, rfl, hA.go hB0⟩)
  obtain ⟨L2, hL2⟩ : ∃ L2 : Nat, (wkTo (L, B) t).1 = L2 := ⟨_, rfl⟩
  obtain ⟨B2, hB2⟩ : ∃ B2 : Bd, (wkTo (L, B) t).2 = B2 := ⟨_, rfl⟩
  rw [hL2, hB2] at hok2 ⊢
  have HT : Hid (∀ b W, BdAt W b B → Calls Tryz.prog 77 #[.agg #[b, .int .i64 k, .int .i64 L], .int .i64 t] W fun e w' => ∃ v', e = .returned (.tuple #[.agg #[v', .int .i64 k, .int .i64 L2], .nilIface]) ∧ BdAt w' v' B2 ∧ Below W.heap.size W w') := by
    rw [← hB2, ← hL2]
    exact fun b W h => to_any b B k L t W h hok ht
  have HN : Hid (∀ b W, BdAt W b B2 → Calls Tryz.prog 69 #[.agg #[b, .int .i64 k, .int .i64 L2], .nilIface] W fun e w' => ∃ x, e = .returned (.tuple #[x, .int .i64 0]) ∧ SkN W.heap.size w' x k L2 B2 ∧ Below W.heap.size W w') := fun b W h => told_nilN b B2 k L2 W h hok2
  have c0 : W0.cell? ⟨w.heap.size, 0, none⟩ = some (.int .i64 y.kind) := cCc hXp 0
  have c1 : W0.cell? ⟨w.heap.size, 1, none⟩ = some (.int .i64 y.level) := cCc hXp 1
  have c2 : W0.cell? ⟨w.heap.size, 2, none⟩ = some (.slice s.ea s.el s.ec) := cCc hXp 2
  have c3 : W0.cell? ⟨w.heap.size, 3, none⟩ = some (.int .i64 y.hb) := cCc hXp 3
  have c4 : W0.cell? ⟨w.heap.size, 4, none⟩ = some (.string y.hr) := cCc hXp 4
  have c5 : W0.cell? ⟨w.heap.size, 5, none⟩ = some (.int .i64 y.cr) := cCc hXp 5
  have c6 : W0.cell? ⟨w.heap.size, 6, none⟩ = some (.int .i64 y.cc) := cCc hXp 6
  have c7 : W0.cell? ⟨w.heap.size, 7, none⟩ = some (.slice s.ca s.cl s.cc) := cCc hXp 7
  have c8 : W0.cell? ⟨w.heap.size, 8, none⟩ = some (.int .i64 y.gf) := cCc hXp 8
  have c9 : W0.cell? ⟨w.heap.size, 9, none⟩ = some (.slice s.ga s.gl s.gc) := cCc hXp 9
  have HXR := Lib.hid hXr
  have HB0 := Lib.hid hB0
  clear hXp hXr hB0 hA hy hok hok2 hL2 hB2 ht
  go_enter Tryz.func21, Tryz.ntmps21
  go_wp2_with fail
  refine HO.out.mono ?_
  rintro e w1 ⟨b, rfl, hb, hb1⟩
  obtain ⟨T, rv, rfl⟩ := bd_iface hb
  obtain ⟨W2, hW2, hX2, hB2, hs2⟩ := boxes1 w1 #[.iface T rv, .int .i64 k, .int .i64 L] 88
  have d0 : W2.cell? ⟨w1.heap.size, 0, none⟩ = some (.iface T rv) := cCc hX2 0
  have d1 : W2.cell? ⟨w1.heap.size, 1, none⟩ = some (.int .i64 k) := cCc hX2 1
  have d2 : W2.cell? ⟨w1.heap.size, 2, none⟩ = some (.int .i64 L) := cCc hX2 2
  have HT2 := Lib.hid (HT.out _ W2 (hb.go hB2))
  have HX2 := Lib.hid hX2
  have HB2 := Lib.hid hB2
  have HB1 := Lib.hid hb1
  clear hX2 hB2 hb1 hb
  go_wp2_with fail
  refine HT2.out.mono ?_
  rintro e w3 ⟨b3, rfl, hv3, hb3⟩
  obtain ⟨T3, rv3, rfl⟩ := bd_iface hv3
  have hX3 := known hb3 (Nat.le_refl _) HX2.out
  have p0 : w3.cell? ⟨w1.heap.size, 0, none⟩ = some (.iface T rv) := cCc hX3 0
  have p1 : w3.cell? ⟨w1.heap.size, 1, none⟩ = some (.int .i64 k) := cCc hX3 1
  have p2 : w3.cell? ⟨w1.heap.size, 2, none⟩ = some (.int .i64 L) := cCc hX3 2
  have g0 : w3.frozen? ⟨w1.heap.size, 0, none⟩ = false := cFz hX3 0
  have g1 : w3.frozen? ⟨w1.heap.size, 1, none⟩ = false := cFz hX3 1
  have g2 : w3.frozen? ⟨w1.heap.size, 2, none⟩ = false := cFz hX3 2
  obtain ⟨V, hV, hVX, hVO, hVB⟩ := store3 (.iface T3 rv3) (.int .i64 k) (.int .i64 L2) hX3
  have HN2 := Lib.hid (HN.out _ V (BdAt.set_work hv3 hX3 (by simp) (by simp) (by simp) hVO))
  have hsz := HB1.out.size
  have HB3 : Hid (Below w.heap.size w V) := hVB _ _ (HB0.out.trans ((HB1.out.trans ((HB2.out.trans (hb3.mono HB2.out.size)).mono HB1.out.size)).mono HB0.out.size)) (by omega)
  have HR3 : Hid (V.heap[w.heap.size + 1]? = some (.cells #[.int .i64 0, .int .i64 0, .slice none 0 0, .int .i64 0, .string ⟨#[]⟩, .int .i64 0, .int .i64 0, .slice none 0 0, .int .i64 0, .slice none 0 0] 33 (0, 0))) := by
    refine (hVO.2 _ (by omega)).trans ?_
    exact known (HB1.out.trans ((HB2.out.trans (hb3.mono HB2.out.size)).mono HB1.out.size)) (Nat.le_refl _) HXR.out
  have q0 : V.cell? ⟨w1.heap.size, 0, none⟩ = some (.iface T3 rv3) := cCc hVX 0
  have q1 : V.cell? ⟨w1.heap.size, 1, none⟩ = some (.int .i64 k) := cCc hVX 1
  have q2 : V.cell? ⟨w1.heap.size, 2, none⟩ = some (.int .i64 L2) := cCc hVX 2
  clear hX3 hVX hVO hVB hv3 hb3
  go_wp2_with fail
  refine HN2.out.mono ?_
  rintro e w5 ⟨x, rfl, ⟨y5, s5, hy5, rfl, hA5, hF5⟩, hb5⟩
  have hR5 := known hb5 (Nat.le_refl _) HR3.out
  have r0 : w5.cell? ⟨w.heap.size + 1, 0, none⟩ = some (.int .i64 0) := cCc hR5 0
  have r1 : w5.cell? ⟨w.heap.size + 1, 1, none⟩ = some (.int .i64 0) := cCc hR5 1
  have r2 : w5.cell? ⟨w.heap.size + 1, 2, none⟩ = some (.slice none 0 0) := cCc hR5 2
  have r3 : w5.cell? ⟨w.heap.size + 1, 3, none⟩ = some (.int .i64 0) := cCc hR5 3
  have r4 : w5.cell? ⟨w.heap.size + 1, 4, none⟩ = some (.string ⟨#[]⟩) := cCc hR5 4
  have r5 : w5.cell? ⟨w.heap.size + 1, 5, none⟩ = some (.int .i64 0) := cCc hR5 5
  have r6 : w5.cell? ⟨w.heap.size + 1, 6, none⟩ = some (.int .i64 0) := cCc hR5 6
  have r7 : w5.cell? ⟨w.heap.size + 1, 7, none⟩ = some (.slice none 0 0) := cCc hR5 7
  have r8 : w5.cell? ⟨w.heap.size + 1, 8, none⟩ = some (.int .i64 0) := cCc hR5 8
  have r9 : w5.cell? ⟨w.heap.size + 1, 9, none⟩ = some (.slice none 0 0) := cCc hR5 9
  have f0 : w5.frozen? ⟨w.heap.size + 1, 0, none⟩ = false := cFz hR5 0
  have f1 : w5.frozen? ⟨w.heap.size + 1, 1, none⟩ = false := cFz hR5 1
  have f2 : w5.frozen? ⟨w.heap.size + 1, 2, none⟩ = false := cFz hR5 2
  have f3 : w5.frozen? ⟨w.heap.size + 1, 3, none⟩ = false := cFz hR5 3
  have f4 : w5.frozen? ⟨w.heap.size + 1, 4, none⟩ = false := cFz hR5 4
  have f5 : w5.frozen? ⟨w.heap.size + 1, 5, none⟩ = false := cFz hR5 5
  have f6 : w5.frozen? ⟨w.heap.size + 1, 6, none⟩ = false := cFz hR5 6
  have f7 : w5.frozen? ⟨w.heap.size + 1, 7, none⟩ = false := cFz hR5 7
  have f8 : w5.frozen? ⟨w.heap.size + 1, 8, none⟩ = false := cFz hR5 8
  have f9 : w5.frozen? ⟨w.heap.size + 1, 9, none⟩ = false := cFz hR5 9
  obtain ⟨U, hU, hUX, hUO, hUB⟩ := store10 (.int .i64 y5.kind) (.int .i64 y5.level) (.slice s5.ea s5.el s5.ec) (.int .i64 y5.hb) (.string y5.hr) (.int .i64 y5.cr) (.int .i64 y5.cc) (.slice s5.ca s5.cl s5.cc) (.int .i64 y5.gf) (.slice s5.ga s5.gl s5.gc) hR5
  have k0 : U.cell? ⟨w.heap.size + 1, 0, none⟩ = some (.int .i64 y5.kind) := cCc hUX 0
  have k1 : U.cell? ⟨w.heap.size + 1, 1, none⟩ = some (.int .i64 y5.level) := cCc hUX 1
  have k2 : U.cell? ⟨w.heap.size + 1, 2, none⟩ = some (.slice s5.ea s5.el s5.ec) := cCc hUX 2
  have k3 : U.cell? ⟨w.heap.size + 1, 3, none⟩ = some (.int .i64 y5.hb) := cCc hUX 3
  have k4 : U.cell? ⟨w.heap.size + 1, 4, none⟩ = some (.string y5.hr) := cCc hUX 4
  have k5 : U.cell? ⟨w.heap.size + 1, 5, none⟩ = some (.int .i64 y5.cr) := cCc hUX 5
  have k6 : U.cell? ⟨w.heap.size + 1, 6, none⟩ = some (.int .i64 y5.cc) := cCc hUX 6
  have k7 : U.cell? ⟨w.heap.size + 1, 7, none⟩ = some (.slice s5.ca s5.cl s5.cc) := cCc hUX 7
  have k8 : U.cell? ⟨w.heap.size + 1, 8, none⟩ = some (.int .i64 y5.gf) := cCc hUX 8
  have k9 : U.cell? ⟨w.heap.size + 1, 9, none⟩ = some (.slice s5.ga s5.gl s5.gc) := cCc hUX 9
  have HS2 : Hid (SkN w.heap.size U (.agg #[.int .i64 y5.kind, .int .i64 y5.level, .slice s5.ea s5.el s5.ec, .int .i64 y5.hb, .string y5.hr, .int .i64 y5.cr, .int .i64 y5.cc, .slice s5.ca s5.cl s5.cc, .int .i64 y5.gf, .slice s5.ga s5.gl s5.gc]) k L2 B2) := SkN.apart ⟨y5, s5, hy5, rfl, hA5, hF5.mono (by have := HB3.out.size; omega)⟩ hR5 (fun i u => noU_zero u) hUO
  have HBU : Hid (Below w.heap.size w U) := hUB _ _ (HB3.out.trans (hb5.mono HB3.out.size)) (by omega)
  clear hR5 hUX hUO hUB hy5 hA5 hF5 hb5
  go_wp2_with fail
  exact bodyPost_ret (v := .tuple #[.agg #[.int .i64 y5.kind, .int .i64 y5.level, .slice s5.ea s5.el s5.ec, .int .i64 y5.hb, .string y5.hr, .int .i64 y5.cr, .int .i64 y5.cc, .slice s5.ca s5.cl s5.cc, .int .i64 y5.gf, .slice s5.ga s5.gl s5.gc], .int .i64 0]) (by simp [results, Tryz.f21, go_sem, k0, k1, k2, k3, k4, k5, k6, k7, k8, k9]) rfl ⟨_, rfl, HS2.out, HBU.out⟩
end Go.Proofs.YtpnlmfilmbodfaaGreatDoor
