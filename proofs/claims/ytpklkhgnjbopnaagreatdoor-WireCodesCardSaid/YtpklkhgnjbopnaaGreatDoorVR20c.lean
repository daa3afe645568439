/- Proved: aviarylaw20.WireCodes answers true for every input, and leaves its arguments as they read (Rows.WireCodesCardSaid). Conditions: the row's own: errors.errorType, the two sentinels of field and the tables of unicode/utf8 are as the program's text lays them (tied), each argument can be read as data. -/
import Derived.Test.YtpklkhgnjbopnaaGreatDoorVWck
namespace Go.Proofs.YtpklkhgnjbopnaaGreatDoor
open Go Go.ChangeShapes Go.WideShapes Go.ChangeAt Go.RowKit Go.Lib Go.Deep Go.Shelf
namespace wireCodes
theorem paramsOk : (Tryz.f5.params.toList.all fun t => Tryz.prog.readableRec t && decide (t < Tryz.prog.types.size)) = true := by kernel_rfl
set_option maxRecDepth 100000 in
theorem contract (H : Type) (enc : TypeId × Value → H) (W : World) (base : Nat) (args : Array Value) (ds gs : List (DataW H)) (before : List MemPlace)
  (hval : ∀ (j : Nat) t v, Tryz.f5.params[j]? = some t → args[j]? = some v → Value.okWide Tryz.prog W .any base t v)
  (hW : DataW.Whole enc Tryz.prog Tryz.f5.params.toList Rows.wireCodesSpec.vars false W args.toList ds gs before) (hL : laidMetH Tryz.prog laidX W) (hS : W.ShapedOpen Tryz.prog) :
  Calls Tryz.prog 5 args W fun e W' => ∃ v, e = .returned v ∧ Rows.wireCodesSpec.post enc Tryz.prog Tryz.f5 false true false false W args v W' := by
 have hW' := hW
 obtain ⟨p, q, hA0, hV, rfl, hfz, hnd⟩ := hW
 have hA : DataW.TrodAll enc Tryz.prog W 0 (fun _ => true) true Tryz.f5.params.toList args.toList ds p := hA0
 rw [Tryz.params5] at hA hval
 obtain ⟨v0, vs0, d0, ds0, p0, q0, hargs0, rfl, rfl, h0, r0⟩ := trodAll_cons hA
 obtain ⟨v1, vs1, d1, ds1, p1, q1, hargs1, rfl, rfl, h1, r1⟩ := trodAll_cons r0
 obtain ⟨v2, vs2, d2, ds2, p2, q2, hargs2, rfl, rfl, h2, r2⟩ := trodAll_cons r1
 obtain ⟨v3, vs3, d3, ds3, p3, q3, hargs3, rfl, rfl, h3, r3⟩ := trodAll_cons r2
 obtain ⟨hvs, rfl, rfl⟩ := trodAll_nil r3
 subst hvs
 subst hargs3
 subst hargs2
 subst hargs1
 obtain rfl : args = #[v0, v1, v2, v3] := by cases args; simp_all
 obtain ⟨rfl, rfl⟩ := trodVars_none hV
 obtain ⟨rq0, ia0, ic0, ta0, tc0, rfl, hQA0, hQB0, hQC0, hQD0, hQE0⟩ := open_req (hval 0 56 v0 rfl rfl) h0
 obtain ⟨ry1, na1, nc1, ea1, ec1, rfl, hQA1, hQB1, hQC1, hQD1⟩ := open_reply (hval 1 60 v1 rfl rfl) h1
 obtain ⟨b2, rfl, -⟩ := open_str undStr (hval 2 9 v2 rfl rfl) h2
 obtain ⟨n3, rfl, rfl, rfl, hw3⟩ := open_int undU64 (hval 3 22 v3 rfl rfl) h3
 obtain ⟨fm, ff, hG⟩ := gf_of (metX hL).1 hS
 refine (wireCodes_any rq0 ia0 ic0 ta0 tc0 ry1 na1 nc1 ea1 ec1 b2 n3 fm ff W hQA0 hQB0 hQC0 hQD0 hQE0 hQA1 hQB1 hQC1 hQD1 (wf_u64 hw3) hG (fr_gt (gt_of (metX hL).2))).mono fun e W' ⟨he, hB⟩ => ?_
 subst he
 exact ⟨_, rfl, law_post laidOut (fun t ht => by have h1 := List.all_eq_true.1 paramsOk t ht; rw [Bool.and_eq_true, decide_eq_true_eq] at h1; exact h1) rfl hW' rfl (by rfl) undBool hB⟩
def wArgs : Array Value := #[.agg #[.int .i64 0, .int .u64 0, .string ⟨#[]⟩, .string ⟨#[]⟩, .int .i64 0, .slice none 0 0, .int .u64 0, .int .u64 0, .int .u64 0, .slice none 0 0], .agg #[.int .i64 0, .int .u64 0, .slice none 0 0, .slice none 0 0], .string ⟨#[]⟩, .int .u64 0]
theorem reads (os : Os) {H : Type} (enc : TypeId × Value → H) : ∃ places, DataW.whole enc Tryz.prog ((laidWorldX os).forCall (fun _ _ => 0) ⟨#[], wArgs, []⟩).memory Tryz.f5.params.toList Rows.wireCodesSpec.vars false wArgs.toList 8 = some ([.agg [.lit (.int .i64 0), .lit (.int .u64 0), .lit (.string []), .lit (.string []), .lit (.int .i64 0), .nil, .lit (.int .u64 0), .lit (.int .u64 0), .lit (.int .u64 0), .nil], .agg [.lit (.int .i64 0), .lit (.int .u64 0), .nil, .nil], .lit (.string []), .lit (.int .u64 0)], [], places) :=
 ⟨[], by kernel_rfl⟩
set_option maxRecDepth 100000 in
theorem lifted (os : Os) (started : os.Started) (H : Type) (enc : TypeId × Value → H) (F : Stop.Interp) :
  ReturnsInHanded {} Tryz.checked os 5 .any ((OpenSpec.ofChange Rows.wireCodesSpec).preRow enc Tryz.prog Tryz.f5 Rows.wireCodesRow.domain false Rows.wireCodesRow.laid) (((OpenSpec.ofChange Rows.wireCodesSpec).at F).post enc Tryz.prog Tryz.f5 false true false false) := by
 obtain ⟨places, hx⟩ := reads os enc
 refine returnsInHanded_of_row (C := Tryz.checked) (s := OpenSpec.ofChange Rows.wireCodesSpec) own started (by kernel_rfl) Tryz.func5
  (witness_row_at (enc := enc) (C := Tryz.checked) false (laidWorldX os) wArgs rfl (by kernel_rfl) (by kernel_rfl) (by kernel_rfl)
   (OpenSpec.preRow_of_cond 8 hx (by kernel_rfl) (fun k hk => by cases hk) (by kernel_rfl) (laid_metX os _))) ?_
 intro W base args ds gs before hval hW _ _ _ hL hS _
 exact contract H enc W base args ds gs before hval hW hL hS
theorem jf1 : (Rows.wireCodesRow.wf (OpenSpec.ofChange (OpenSpec.ofChange Rows.wireCodesSpec).bare)) = true := by kernel_rfl
theorem jf10 : (Rows.wireCodesRow.inPlace == Tryz.pinned.checked.prog.inPlace 5) = true := by kernel_rfl
theorem jf11 : (Rows.wireCodesRow.unfollowed == Tryz.pinned.checked.prog.unfollowed 5) = true := by kernel_rfl
theorem jf12 : (Rows.wireCodesRow.recurses == Tryz.pinned.checked.prog.recurses 5) = true := by kernel_rfl
theorem jf13 : (Rows.wireCodesRow.named == Tryz.pinned.checked.prog.varsNamed 5) = true := by kernel_rfl
theorem closed : joinedFacts Tryz.pinned.checked.prog 5 Tryz.f5 (OpenSpec.ofChange Rows.wireCodesSpec).bare Rows.wireCodesRow = true := by
 unfold joinedFacts
 refine and2 (and2 (and2 (and2 (and2 (and2 (and2 (and2 (and2 (and2 (and2 (and2 (and2 (and2 (and2 (and2 (and2 (and2 (and2 (and2 (and2 (and2 (and2 (and2 (and2 (and2 (and2 (and2 (and2 (and2 (and2 ?_ ?_) ?_) ?_) ?_) ?_) ?_) ?_) ?_) ?_) ?_) ?_) ?_) ?_) ?_) ?_) ?_) ?_) ?_) ?_) ?_) ?_) ?_) ?_) ?_) ?_) ?_) ?_) ?_) ?_) ?_) ?_
 ·exact jf1
 ·exact pfOut
 ·exact pfMaps
 ·kernel_rfl
 ·kernel_rfl
 ·kernel_rfl
 ·exact pfStops
 ·kernel_rfl
 ·exact pfKnobs
 ·exact jf10
 ·exact jf11
 ·exact jf12
 ·exact jf13
 ·kernel_rfl
 ·kernel_rfl
 ·kernel_rfl
 ·kernel_rfl
 ·kernel_rfl
 ·kernel_rfl
 ·kernel_rfl
 ·kernel_rfl
 ·kernel_rfl
 ·exact pfKeys
 ·kernel_rfl
 ·exact pfHeard
 ·exact pfEnter
 ·exact pfLift
 ·exact pfMake
 ·kernel_rfl
 ·kernel_rfl
 ·kernel_rfl
 ·kernel_rfl
theorem wfText : Rows.wireCodesRow.wfByText (OpenSpec.ofChange Rows.wireCodesSpec) = true := by kernel_rfl
theorem goes : false = Rows.wireCodesRow.goesBy Tryz.pinned.checked.prog := by kernel_rfl
theorem said : Rows.WireCodesSaid :=
 OpenClaim.holds_of_cond 5 Tryz.f5 rfl rfl rfl rfl rfl rfl rfl ⟨rfl, rfl, rfl, rfl, rfl⟩ rfl rfl rfl rfl rfl (by kernel_rfl) Tryz.func5 closed
  (of_decide_eq_true (by kernel_rfl)) (by unfold Func.isWrapper; first | (rw [if_pos (by decide +kernel)]; kernel_rfl) | (rw [if_neg (by decide +kernel)]; exact ⟨rfl, rfl⟩))
  (fun os started H enc _ F => by rw [OpenClaim.pre_eq_preRow]; exact lifted os started H enc F)
theorem plainOk : (Tryz.f5.params.toList.all fun t => !Tryz.prog.wantsStandIn t) = true := by kernel_rfl
theorem plain (f : FuncId) (fn : Func) (hf : Tryz.pinned.checked.prog.funcNamed "aviary/aviarylaw20.WireCodes" = some f) (hfn : Tryz.pinned.checked.prog.funcs[f]? = some fn) :
  true = Tryz.pinned.checked.prog.looks [] ∧ ∀ (j : Nat) t, fn.params[j]? = some t → Tryz.pinned.checked.prog.wantsStandIn t = false := by
 obtain rfl : f = 5 := Option.some.inj ((show Tryz.prog.funcNamed "aviary/aviarylaw20.WireCodes" = some 5 by kernel_rfl).symm.trans hf) |>.symm
 obtain rfl : fn = Tryz.f5 := (Option.some.inj (Tryz.func5.symm.trans hfn)).symm
 refine ⟨by kernel_rfl, fun j t ht => ?_⟩
 have h1 := List.all_eq_true.1 plainOk t (Array.mem_toList_iff.2 (Array.mem_of_getElem? ht))
 rw [Bool.not_eq_true'] at h1
 exact h1
theorem card : Rows.WireCodesCardSaid :=
 Claim7.holds_tied_plain_at .later [] _ _ _ _ said (fun _ h => by cases h) wfText (fun _ h => by cases h) wireCodes_row_tie rfl ⟨rfl, rfl⟩ (by kernel_rfl) rfl plain goes
end wireCodes
end Go.Proofs.YtpklkhgnjbopnaaGreatDoor
