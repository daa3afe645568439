/- Proved: aviarylaw13.QuotaLeast answers true for every input, and leaves its arguments as they read (Rows.QuotaLeastCardSaid). Conditions: the row's own: errors.errorType and the two tables of unicode/utf8 are as the program's text lays them (tied), each argument can be read as data. -/
import Derived.Test.YtpnlmfilmbodfaaGreatDoorVA2
import Derived.Test.YtpnlmfilmbodfaaGreatDoorVA7
import Derived.Test.YtpnlmfilmbodfaaGreatDoorVA8
import Derived.Test.YtpnlmfilmbodfaaGreatDoorVB1
import Derived.Test.YtpnlmfilmbodfaaGreatDoorVCF
import Derived.Test.YtpnlmfilmbodfaaGreatDoorVCG
import Derived.Test.YtpnlmfilmbodfaaGreatDoorVF4
import Derived.Test.YtpnlmfilmbodfaaGreatDoorVF6
import Derived.Test.YtpnlmfilmbodfaaGreatDoorVF7
import Derived.Test.YtpnlmfilmbodfaaGreatDoorVF8
import Derived.Test.YtpnlmfilmbodfaaGreatDoorVG0
import Derived.Test.YtpnlmfilmbodfaaGreatDoorVGB
import Derived.Test.YtpnlmfilmbodfaaGreatDoorVGG
import Derived.Test.YtpnlmfilmbodfaaGreatDoorVGH
import Derived.Test.YtpnlmfilmbodfaaGreatDoorVH0
import Derived.Test.YtpnlmfilmbodfaaGreatDoorVH1
import Derived.Test.YtpnlmfilmbodfaaGreatDoorVHA
import Derived.Test.YtpnlmfilmbodfaaGreatDoorVHF
import Derived.Test.YtpnlmfilmbodfaaGreatDoorVJ1
import Derived.Test.YtpnlmfilmbodfaaGreatDoorVL0
import Derived.Test.YtpnlmfilmbodfaaGreatDoorVL2
import Derived.Test.YtpnlmfilmbodfaaGreatDoorVL3
import Derived.Test.YtpnlmfilmbodfaaGreatDoorVL5
import Derived.Test.YtpnlmfilmbodfaaGreatDoorVL7
import Derived.Test.YtpnlmfilmbodfaaGreatDoorVLI
import Derived.Test.YtpnlmfilmbodfaaGreatDoorVLR
import Derived.Test.YtpnlmfilmbodfaaGreatDoorVM1
import Derived.Test.YtpnlmfilmbodfaaGreatDoorVM2
import Derived.Test.YtpnlmfilmbodfaaGreatDoorVP1
import Derived.Test.YtpnlmfilmbodfaaGreatDoorVQA
import Derived.Test.YtpnlmfilmbodfaaGreatDoorVQB
import Derived.Test.YtpnlmfilmbodfaaGreatDoorVQD
import Derived.Test.YtpnlmfilmbodfaaGreatDoorVQH
import Derived.Test.YtpnlmfilmbodfaaGreatDoorVQK
import Derived.Test.YtpnlmfilmbodfaaGreatDoorVRKs
import Derived.Test.YtpnlmfilmbodfaaGreatDoorVS3
import Derived.Test.YtpnlmfilmbodfaaGreatDoorVS7
import Derived.Test.YtpnlmfilmbodfaaGreatDoorVShelf
import Derived.Test.YtpnlmfilmbodfaaGreatDoorVT7
import Derived.Test.YtpnlmfilmbodfaaGreatDoorVUS
import Derived.Test.YtpnlmfilmbodfaaGreatDoorVV1
import Derived.Test.YtpnlmfilmbodfaaGreatDoorVXA
import Derived.Test.YtpnlmfilmbodfaaGreatDoorVXE
import Derived.Test.YtpnlmfilmbodfaaGreatDoorVXI
import Derived.Test.YtpnlmfilmbodfaaGreatDoorVXK
import Derived.Test.YtpnlmfilmbodfaaGreatDoorCards
import Derived.Test.YtpnlmfilmbodfaaGreatDoorTie
import Derived.Test.YtpnlmfilmbodfaaGreatDoorWLE
import Derived.Test.YtpnlmfilmbodfaaGreatDoorProg
import Derived.Test.YtpnlmfilmbodfaaGreatDoorWJ0
import Derived.Test.YtpnlmfilmbodfaaGreatDoorWQM
import Derived.Lib.LaidTab
import Derived.Lib.LaidU8T
import Derived.LaidHandle
import Derived.Shelf.Vars
import Derived.ChangeMaps5
import Derived.ProofKit
import Derived.OpenShut
import Derived.Carry
import Derived.Deep.Slices
import Derived.Deep.Fields
import Derived.Deep.DeepHandedRow
import Derived.Lib.SmallJoins
import Derived.RangeFuncNested
import Derived.RangeFuncBound
import Derived.RangeFuncCalls
import Derived.RangeFuncLeaves
import Derived.Shelf.Abstract
import Derived.Shelf.RegionOpen
import Derived.OwnWalkIn
import Derived.TacticsInMore
import Derived.LoopNIn
import Derived.LoopIn
import Derived.Outline
import Derived.BigGuardIn
import Derived.WalkMore
import Derived.WalkKit
import Derived.LoopTactic
import Derived.WalkLawsBesides
import Derived.WalkSpells
import Derived.Lib.Hide
import Derived.Laws.RangeAny
import Derived.Lib.OthersKept
import Derived.Lib.Strings
import Derived.Deep.QuietTactic
import Derived.BigQuiet
import Derived.ScopeJumps
import Derived.Deep.RegionLaw
import Derived.BigRegion
import Derived.LaidEql
import Derived.Stop.Asserts
import Derived.RowKitTokens
import Derived.Shelf.SlIterI.Nil
import Derived.Shelf.SortM.Plain
import Derived.Shelf.SortM.SortNone
import Derived.Ground.GgzProg
import Derived.Ground.SlgmProg
import Derived.Maps.OwnOps
import Derived.Maps.OwnSet
import Derived.Maps.RangeWalk
import Derived.Maps.Ext
import Derived.Laws.BytesArg
import Derived.Lib.ConvBytes
import Derived.Lib.MinMax
import Derived.Lib.BitFns
import Derived.Lib.ItoaNum
import Derived.Laws.BitsAllLaws
import Derived.Lib.SliceRun
import Derived.WideMake
import Derived.Shelf.Strings.Builder1
import Derived.Shelf.Strings.Builder2
import Derived.Shelf.Strings.OnBuilder
import Derived.Shelf.Small.Bits
import Derived.Shelf.Strings.BuilderF
import Derived.Shelf.Strings.BuilderK
import Derived.Shelf.Strings.BuilderRune
import Derived.Shelf.Utf8.AppendRune
import Derived.Shelf.Utf8.AppendRunePlain
import Derived.Shelf.Strings.Builder2Cap
import Derived.Shelf.Strconv.Itoa0
import Derived.Shelf.Strings.Search1
import Derived.Shelf.Strings.Search2
import Derived.Shelf.Strings.Search3
import Derived.Shelf.Strings.Cut
import Derived.Shelf.LaysM
import Derived.Shelf.Strings.Shaped
import Derived.Shelf.Unicode.DecodeSlow
import Derived.Shelf.Unicode.DecodeAny
import Derived.Shelf.Strings.BuilderCap
import Derived.Deep.RegionHeld3
import Derived.StillTactics
import Derived.Laws.Rows
import Derived.Deep.Cut
import Derived.Deep.CutRange
import Derived.Deep.DeepCutAuto
namespace Go.Proofs.YtpnlmfilmbodfaaGreatDoor
open Go Go.ChangeShapes Go.WideShapes Go.ChangeAt Go.RowKit Go.Lib Go.Deep Go.Shelf
namespace quotaLeast
theorem paramsOk : (Tryz.f11.params.toList.all fun t => Tryz.prog.readableRec t && decide (t < Tryz.prog.types.size)) = true := by kernel_rfl
set_option maxRecDepth 100000 in
theorem contract (H : Type) (enc : TypeId × Value → H) (W : World) (base : Nat) (args : Array Value) (ds gs : List (DataW H)) (before : List MemPlace)
    (hval : ∀ (j : Nat) t v, Tryz.f11.params[j]? = some t → args[j]? = some v → Value.okWide Tryz.prog W .any base t v)
    (hW : DataW.Whole enc Tryz.prog Tryz.f11.params.toList Rows.quotaLeastSpec.vars false W args.toList ds gs before) (hL : laidMetH Tryz.prog laidQ W) (hS : W.ShapedOpen Tryz.prog) :
    Calls Tryz.prog 11 args W fun e W' => ∃ v, e = .returned v ∧ Rows.quotaLeastSpec.post enc Tryz.prog Tryz.f11 false true false false W args v W' := by
  have hW' := hW
  obtain ⟨p, q, hA0, hV, rfl, hfz, hnd⟩ := hW
  have hA : DataW.TrodAll enc Tryz.prog W 0 (fun _ => true) true Tryz.f11.params.toList args.toList ds p := hA0
  rw [Tryz.params11] at hA hval
  obtain ⟨v0, vs0, d0, ds0, p0, q0, hargs0, rfl, rfl, h0, r0⟩ := trodAll_cons hA
  obtain ⟨v1, vs1, d1, ds1, p1, q1, hargs1, rfl, rfl, h1, r1⟩ := trodAll_cons r0
  obtain ⟨hvs, rfl, rfl⟩ := trodAll_nil r1
  subst hvs
  subst hargs1
  obtain rfl : args = #[v0, v1] := by cases args; simp_all
  obtain ⟨rfl, rfl⟩ := trodVars_none hV
  obtain ⟨a0, len0, cap0, l0, rfl, hT0, hU0⟩ := open_sers (hval 0 57 v0 rfl rfl) h0
  obtain ⟨n1, rfl, rfl, rfl, hw1⟩ := open_int undInt (hval 1 3 v1 rfl rfl) h1
  refine (quotaLeast_any l0 a0 len0 cap0 n1 W hT0 hU0 (wf_i64 hw1) (gw_of (metQ hL).1 hS) (gt_of (metQ hL).2)).mono fun e W' ⟨he, hB⟩ => ?_
  subst he
  exact ⟨_, rfl, law_post laidOut (fun t ht => by have h1 := List.all_eq_true.1 paramsOk t ht; rw [Bool.and_eq_true, decide_eq_true_eq] at h1; exact h1) rfl hW' rfl (by rfl) undBool hB⟩
def wArgs : Array Value := #[.slice none 0 0, .int .i64 0]
theorem reads (os : Os) {H : Type} (enc : TypeId × Value → H) : ∃ places, DataW.whole enc Tryz.prog ((laidWorldQ os).forCall (fun _ _ => 0) ⟨#[], wArgs, []⟩).memory Tryz.f11.params.toList Rows.quotaLeastSpec.vars false wArgs.toList 8 = some ([.nil, .lit (.int .i64 0)], [], places) :=
  ⟨[], by kernel_rfl⟩
set_option maxRecDepth 100000 in
theorem lifted (os : Os) (started : os.Started) (H : Type) (enc : TypeId × Value → H) (F : Stop.Interp) :
    ReturnsInHanded {} Tryz.checked os 11 .any ((OpenSpec.ofChange Rows.quotaLeastSpec).preRow enc Tryz.prog Tryz.f11 Rows.quotaLeastRow.domain false Rows.quotaLeastRow.laid) (((OpenSpec.ofChange Rows.quotaLeastSpec).at F).post enc Tryz.prog Tryz.f11 false true false false) := by
  obtain ⟨places, hx⟩ := reads os enc
  refine returnsInHanded_of_row (C := Tryz.checked) (s := OpenSpec.ofChange Rows.quotaLeastSpec) own started (by kernel_rfl) Tryz.func11
    (witness_row_at (enc := enc) (C := Tryz.checked) false (laidWorldQ os) wArgs rfl (by kernel_rfl) (by kernel_rfl) (by kernel_rfl)
      (OpenSpec.preRow_of_cond 8 hx (by kernel_rfl) (fun k hk => by cases hk) (by kernel_rfl) (laid_metQ os _))) ?_
  intro W base args ds gs before hval hW _ _ _ hL hS _
  exact contract H enc W base args ds gs before hval hW hL hS
theorem jf1 : (Rows.quotaLeastRow.wf (OpenSpec.ofChange (OpenSpec.ofChange Rows.quotaLeastSpec).bare)) = true := by kernel_rfl
theorem jf10 : (Rows.quotaLeastRow.inPlace == Tryz.pinned.checked.prog.inPlace 11) = true := by kernel_rfl
theorem jf11 : (Rows.quotaLeastRow.unfollowed == Tryz.pinned.checked.prog.unfollowed 11) = true := by kernel_rfl
theorem jf12 : (Rows.quotaLeastRow.recurses == Tryz.pinned.checked.prog.recurses 11) = true := by kernel_rfl
theorem jf13 : (Rows.quotaLeastRow.named == Tryz.pinned.checked.prog.varsNamed 11) = true := by kernel_rfl
theorem closed : joinedFacts Tryz.pinned.checked.prog 11 Tryz.f11 (OpenSpec.ofChange Rows.quotaLeastSpec).bare Rows.quotaLeastRow = true := by
  unfold joinedFacts
  refine and2 (and2 (and2 (and2 (and2 (and2 (and2 (and2 (and2 (and2 (and2 (and2 (and2 (and2 (and2 (and2 (and2 (and2 (and2 (and2 (and2 (and2 (and2 (and2 (and2 (and2 (and2 (and2 (and2 (and2 (and2 ?_ ?_) ?_) ?_) ?_) ?_) ?_) ?_) ?_) ?_) ?_) ?_) ?_) ?_) ?_) ?_) ?_) ?_) ?_) ?_) ?_) ?_) ?_) ?_) ?_) ?_) ?_) ?_) ?_) ?_) ?_) ?_
  · exact jf1
  · exact pfOut
  · exact pfMaps
  · kernel_rfl
  · kernel_rfl
  · kernel_rfl
  · exact pfStops
  · kernel_rfl
  · exact pfKnobs
  · exact jf10
  · exact jf11
  · exact jf12
  · exact jf13
  · kernel_rfl
  · kernel_rfl
  · kernel_rfl
  · kernel_rfl
  · kernel_rfl
  · kernel_rfl
  · kernel_rfl
  · kernel_rfl
  · kernel_rfl
  · exact pfKeys
  · kernel_rfl
  · exact pfHeard
  · exact pfEnter
  · exact pfLift
  · exact pfMake
  · kernel_rfl
  · kernel_rfl
  · kernel_rfl
  · kernel_rfl
theorem wfText : Rows.quotaLeastRow.wfByText (OpenSpec.ofChange Rows.quotaLeastSpec) = true := by kernel_rfl
theorem goes : false = Rows.quotaLeastRow.goesBy Tryz.pinned.checked.prog := by kernel_rfl
theorem said : Rows.QuotaLeastSaid :=
  OpenClaim.holds_of_cond 11 Tryz.f11 rfl rfl rfl rfl rfl rfl rfl ⟨rfl, rfl, rfl, rfl, rfl⟩ rfl rfl rfl rfl rfl (by kernel_rfl) Tryz.func11 closed
    (of_decide_eq_true (by kernel_rfl)) (by unfold Func.isWrapper; first | (rw [if_pos (by decide +kernel)]; kernel_rfl) | (rw [if_neg (by decide +kernel)]; exact ⟨rfl, rfl⟩))
    (fun os started H enc _ F => by rw [OpenClaim.pre_eq_preRow]; exact lifted os started H enc F)
theorem plainOk : (Tryz.f11.params.toList.all fun t => !Tryz.prog.wantsStandIn t) = true := by kernel_rfl
theorem plain (f : FuncId) (fn : Func) (hf : Tryz.pinned.checked.prog.funcNamed "aviary/aviarylaw13.QuotaLeast" = some f) (hfn : Tryz.pinned.checked.prog.funcs[f]? = some fn) :
    true = Tryz.pinned.checked.prog.looks [] ∧ ∀ (j : Nat) t, fn.params[j]? = some t → Tryz.pinned.checked.prog.wantsStandIn t = false := by
  obtain rfl : f = 11 := Option.some.inj ((show Tryz.prog.funcNamed "aviary/aviarylaw13.QuotaLeast" = some 11 by kernel_rfl).symm.trans hf) |>.symm
  obtain rfl : fn = Tryz.f11 := (Option.some.inj (Tryz.func11.symm.trans hfn)).symm
  refine ⟨by kernel_rfl, fun j t ht => ?_⟩
  have h1 := List.all_eq_true.1 plainOk t (Array.mem_toList_iff.2 (Array.mem_of_getElem? ht))
  rw [Bool.not_eq_true'] at h1
  exact h1
theorem card : Rows.QuotaLeastCardSaid :=
  Claim7.holds_tied_plain_at .later [] _ _ _ _ said (fun _ h => by cases h) wfText (fun _ h => by cases h) quotaLeast_row_tie rfl ⟨rfl, rfl⟩ (by kernel_rfl) rfl plain goes
end quotaLeast
end Go.Proofs.YtpnlmfilmbodfaaGreatDoor
