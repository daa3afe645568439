/- Proved: aviarylaw20.WireHello answers true for every input, and leaves its arguments as they read (Rows.WireHelloCardSaid). Conditions: the row's own: errors.errorType, the two sentinels of field and the tables of unicode/utf8 are as the program's text lays them (tied), each argument can be read as data. -/
import Derived.Test.YtpklkhgnjbopnaaGreatDoorZWhi
namespace Go.Proofs.YtpklkhgnjbopnaaGreatDoor
open Go Go.ChangeShapes Go.WideShapes Go.ChangeAt Go.RowKit Go.Lib Go.Deep Go.Shelf
namespace wireHello
theorem paramsOk : (Tryz.f4.params.toList.all fun t => Tryz.prog.readableRec t && decide (t < Tryz.prog.types.size)) = true := by kernel_rfl
set_option maxRecDepth 100000 in
theorem contract (H : Type) (enc : TypeId × Value → H) (W : World) (base : Nat) (args : Array Value) (ds gs : List (DataW H)) (before : List MemPlace)
  (hval : ∀ (j : Nat) t v, Tryz.f4.params[j]? = some t → args[j]? = some v → Value.okWide Tryz.prog W .any base t v)
  (hW : DataW.Whole enc Tryz.prog Tryz.f4.params.toList Rows.wireHelloSpec.vars false W args.toList ds gs before) (hL : laidMetH Tryz.prog laidX W) (hS : W.ShapedOpen Tryz.prog) :
  Calls Tryz.prog 4 args W fun e W' => ∃ v, e = .returned v ∧ Rows.wireHelloSpec.post enc Tryz.prog Tryz.f4 false true false false W args v W' := by
 have hW' := hW
 obtain ⟨p, q, hA0, hV, rfl, hfz, hnd⟩ := hW
 have hA : DataW.TrodAll enc Tryz.prog W 0 (fun _ => true) true Tryz.f4.params.toList args.toList ds p := hA0
 rw [Tryz.params4] at hA hval
 obtain ⟨v0, vs0, d0, ds0, p0, q0, hargs0, rfl, rfl, h0, r0⟩ := trodAll_cons hA
 obtain ⟨v1, vs1, d1, ds1, p1, q1, hargs1, rfl, rfl, h1, r1⟩ := trodAll_cons r0
 obtain ⟨v2, vs2, d2, ds2, p2, q2, hargs2, rfl, rfl, h2, r2⟩ := trodAll_cons r1
 obtain ⟨v3, vs3, d3, ds3, p3, q3, hargs3, rfl, rfl, h3, r3⟩ := trodAll_cons r2
 obtain ⟨v4, vs4, d4, ds4, p4, q4, hargs4, rfl, rfl, h4, r4⟩ := trodAll_cons r3
 obtain ⟨hvs, rfl, rfl⟩ := trodAll_nil r4
 subst hvs
 subst hargs4
 subst hargs3
 subst hargs2
 subst hargs1
 obtain rfl : args = #[v0, v1, v2, v3, v4] := by cases args; simp_all
 obtain ⟨rfl, rfl⟩ := trodVars_none hV
 obtain ⟨A0, B0, rfl, hKA0, hKB0⟩ := open_key (hval 0 24 v0 rfl rfl) h0
 obtain ⟨a1, len1, cap1, l1, rfl, hT1, hU1⟩ := open_cfgs (hval 1 42 v1 rfl rfl) h1
 obtain ⟨tn2, rl2, un2, rfl, hCA2, hCB2, hCC2⟩ := open_claim (hval 2 34 v2 rfl rfl) h2
 obtain ⟨n3, rfl, rfl, rfl, hw3⟩ := open_int undU64 (hval 3 22 v3 rfl rfl) h3
 obtain ⟨b4, rfl, -⟩ := open_str undStr (hval 4 9 v4 rfl rfl) h4
 obtain ⟨fm, ff, hG⟩ := gf_of (metX hL).1 hS
 refine (wireHello_any A0 B0 l1 a1 len1 cap1 tn2 rl2 un2 n3 b4 fm ff W hKA0 hKB0 hT1 hU1 hCA2 hCB2 hCC2 (wf_u64 hw3) hG (fr_gt (gt_of (metX hL).2))).mono fun e W' ⟨he, hB⟩ => ?_
 subst he
 exact ⟨_, rfl, law_post laidOut (fun t ht => by have h1 := List.all_eq_true.1 paramsOk t ht; rw [Bool.and_eq_true, decide_eq_true_eq] at h1; exact h1) rfl hW' rfl (by rfl) undBool hB⟩
def wArgs : Array Value := #[.agg #[.int .u64 0, .int .u64 0], .slice none 0 0, .agg #[.int .u64 0, .int .i64 0, .int .u64 0], .int .u64 0, .string ⟨#[]⟩]
theorem reads (os : Os) {H : Type} (enc : TypeId × Value → H) : ∃ places, DataW.whole enc Tryz.prog ((laidWorldX os).forCall (fun _ _ => 0) ⟨#[], wArgs, []⟩).memory Tryz.f4.params.toList Rows.wireHelloSpec.vars false wArgs.toList 8 = some ([.agg [.lit (.int .u64 0), .lit (.int .u64 0)], .nil, .agg [.lit (.int .u64 0), .lit (.int .i64 0), .lit (.int .u64 0)], .lit (.int .u64 0), .lit (.string [])], [], places) :=
 ⟨[], by kernel_rfl⟩
set_option maxRecDepth 100000 in
theorem lifted (os : Os) (started : os.Started) (H : Type) (enc : TypeId × Value → H) (F : Stop.Interp) :
  ReturnsInHanded {} Tryz.checked os 4 .any ((OpenSpec.ofChange Rows.wireHelloSpec).preRow enc Tryz.prog Tryz.f4 Rows.wireHelloRow.domain false Rows.wireHelloRow.laid) (((OpenSpec.ofChange Rows.wireHelloSpec).at F).post enc Tryz.prog Tryz.f4 false true false false) := by
 obtain ⟨places, hx⟩ := reads os enc
 refine returnsInHanded_of_row (C := Tryz.checked) (s := OpenSpec.ofChange Rows.wireHelloSpec) own started (by kernel_rfl) Tryz.func4
  (witness_row_at (enc := enc) (C := Tryz.checked) false (laidWorldX os) wArgs rfl (by kernel_rfl) (by kernel_rfl) (by kernel_rfl)
   (OpenSpec.preRow_of_cond 8 hx (by kernel_rfl) (fun k hk => by cases hk) (by kernel_rfl) (laid_metX os _))) ?_
 intro W base args ds gs before hval hW _ _ _ hL hS _
 exact contract H enc W base args ds gs before hval hW hL hS
theorem jf1 : (Rows.wireHelloRow.wf (OpenSpec.ofChange (OpenSpec.ofChange Rows.wireHelloSpec).bare)) = true := by kernel_rfl
theorem jf10 : (Rows.wireHelloRow.inPlace == Tryz.pinned.checked.prog.inPlace 4) = true := by kernel_rfl
theorem jf11 : (Rows.wireHelloRow.unfollowed == Tryz.pinned.checked.prog.unfollowed 4) = true := by kernel_rfl
theorem jf12 : (Rows.wireHelloRow.recurses == Tryz.pinned.checked.prog.recurses 4) = true := by kernel_rfl
theorem jf13 : (Rows.wireHelloRow.named == Tryz.pinned.checked.prog.varsNamed 4) = true := by kernel_rfl
theorem closed : joinedFacts Tryz.pinned.checked.prog 4 Tryz.f4 (OpenSpec.ofChange Rows.wireHelloSpec).bare Rows.wireHelloRow = true := by
 unfold joinedFacts
 refine and2 (and2 (and2 (and2 (and2 (and2 (and2 (and2 (and2 (and2 (and2 (and2 (and2 (and2 (and2 (and2 (and2 (and2 (and2 (and2 (and2 (and2 (and2 (and2 (and2 (and2 (and2 (and2 (and2 (and2 (and2 ?_ ?_) ?_) ?_) ?_) ?_) ?_) ?_) ?_) ?_) ?_) ?_) ?_) ?_) ?_) ?_) ?_) ?_) ?_) ?_) ?_) ?_) ?_) ?_) ?_) ?_) ?_) ?_) ?_) ?_) ?_) ?_
 ·exact jf1
 ·exact pfOut
 ·exact pfMaps
 ·kernel_rfl
 ·kernel_rfl
 ·kernel_rfl
 ·exact pfStops
 ·kernel_rfl
 ·exact pfKnobs
 ·exact jf10
 ·exact jf11
 ·exact jf12
 ·exact jf13
 ·kernel_rfl
 ·kernel_rfl
 ·kernel_rfl
 ·kernel_rfl
 ·kernel_rfl
 ·kernel_rfl
 ·kernel_rfl
 ·kernel_rfl
 ·kernel_rfl
 ·exact pfKeys
 ·kernel_rfl
 ·exact pfHeard
 ·exact pfEnter
 ·exact pfLift
 ·exact pfMake
 ·kernel_rfl
 ·kernel_rfl
 ·kernel_rfl
 ·kernel_rfl
theorem wfText : Rows.wireHelloRow.wfByText (OpenSpec.ofChange Rows.wireHelloSpec) = true := by kernel_rfl
theorem goes : false = Rows.wireHelloRow.goesBy Tryz.pinned.checked.prog := by kernel_rfl
theorem said : Rows.WireHelloSaid :=
 OpenClaim.holds_of_cond 4 Tryz.f4 rfl rfl rfl rfl rfl rfl rfl ⟨rfl, rfl, rfl, rfl, rfl⟩ rfl rfl rfl rfl rfl (by kernel_rfl) Tryz.func4 closed
  (of_decide_eq_true (by kernel_rfl)) (by unfold Func.isWrapper; first | (rw [if_pos (by decide +kernel)]; kernel_rfl) | (rw [if_neg (by decide +kernel)]; exact ⟨rfl, rfl⟩))
  (fun os started H enc _ F => by rw [OpenClaim.pre_eq_preRow]; exact lifted os started H enc F)
theorem plainOk : (Tryz.f4.params.toList.all fun t => !Tryz.prog.wantsStandIn t) = true := by kernel_rfl
theorem plain (f : FuncId) (fn : Func) (hf : Tryz.pinned.checked.prog.funcNamed "aviary/aviarylaw20.WireHello" = some f) (hfn : Tryz.pinned.checked.prog.funcs[f]? = some fn) :
  true = Tryz.pinned.checked.prog.looks [] ∧ ∀ (j : Nat) t, fn.params[j]? = some t → Tryz.pinned.checked.prog.wantsStandIn t = false := by
 obtain rfl : f = 4 := Option.some.inj ((show Tryz.prog.funcNamed "aviary/aviarylaw20.WireHello" = some 4 by kernel_rfl).symm.trans hf) |>.symm
 obtain rfl : fn = Tryz.f4 := (Option.some.inj (Tryz.func4.symm.trans hfn)).symm
 refine ⟨by kernel_rfl, fun j t ht => ?_⟩
 have h1 := List.all_eq_true.1 plainOk t (Array.mem_toList_iff.2 (Array.mem_of_getElem? ht))
 rw [Bool.not_eq_true'] at h1
 exact h1
theorem card : Rows.WireHelloCardSaid :=
 Claim7.holds_tied_plain_at .later [] _ _ _ _ said (fun _ h => by cases h) wfText (fun _ h => by cases h) wireHello_row_tie rfl ⟨rfl, rfl⟩ (by kernel_rfl) rfl plain goes
end wireHello
end Go.Proofs.YtpklkhgnjbopnaaGreatDoor
