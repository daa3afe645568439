/- Proved: aviarylaw18.TenantNone answers true for every input, and leaves its arguments as they read (Rows.TenantNoneCardSaid). Conditions: the row's own: errors.errorType and the two tables of unicode/utf8 are as the program's text lays them (tied), each argument can be read as data. -/
import Derived.Test.YtnegciklhanmbaaGreatDoorZUN
namespace Go.Proofs.YtnegciklhanmbaaGreatDoor
open Go Go.ChangeShapes Go.WideShapes Go.ChangeAt Go.RowKit Go.Lib Go.Deep Go.Shelf
namespace tenantNone
theorem paramsOk : (Tryz.f3.params.toList.all fun t => Tryz.prog.readableRec t && decide (t < Tryz.prog.types.size)) = true := by kernel_rfl
set_option maxRecDepth 100000 in
theorem contract (H : Type) (enc : TypeId × Value → H) (W : World) (base : Nat) (args : Array Value) (ds gs : List (DataW H)) (before : List MemPlace)
  (hval : ∀ (j : Nat) t v, Tryz.f3.params[j]? = some t → args[j]? = some v → Value.okWide Tryz.prog W .any base t v)
  (hW : DataW.Whole enc Tryz.prog Tryz.f3.params.toList Rows.tenantNoneSpec.vars false W args.toList ds gs before) (hL : laidMetH Tryz.prog juh W) (hS : W.ShapedOpen Tryz.prog) :
  Calls Tryz.prog 3 args W fun e W' => ∃ v, e = .returned v ∧ Rows.tenantNoneSpec.post enc Tryz.prog Tryz.f3 false true false false W args v W' := by
 have hW' := hW
 obtain ⟨p, q, hA0, hV, rfl, hfz, hnd⟩ := hW
 have hA : DataW.TrodAll enc Tryz.prog W 0 (fun _ => true) true Tryz.f3.params.toList args.toList ds p := hA0
 rw [Tryz.params3] at hA hval
 obtain ⟨v0, vs0, d0, ds0, p0, q0, hargs0, rfl, rfl, h0, r0⟩ := trodAll_cons hA
 obtain ⟨v1, vs1, d1, ds1, p1, q1, hargs1, rfl, rfl, h1, r1⟩ := trodAll_cons r0
 obtain ⟨v2, vs2, d2, ds2, p2, q2, hargs2, rfl, rfl, h2, r2⟩ := trodAll_cons r1
 obtain ⟨v3, vs3, d3, ds3, p3, q3, hargs3, rfl, rfl, h3, r3⟩ := trodAll_cons r2
 obtain ⟨hvs, rfl, rfl⟩ := trodAll_nil r3
 subst hvs
 subst hargs3
 subst hargs2
 subst hargs1
 obtain rfl : args = #[v0, v1, v2, v3] := by cases args; simp_all
 obtain ⟨rfl, rfl⟩ := trodVars_none hV
 obtain ⟨n0, rfl, rfl, rfl, hw0⟩ := open_int jji (hval 0 22 v0 rfl rfl) h0
 obtain ⟨b1, rfl, -⟩ := jj8 jsI (hval 1 9 v1 rfl rfl) h1
 obtain ⟨b2, rfl, -⟩ := jj8 jsI (hval 2 9 v2 rfl rfl) h2
 obtain ⟨n3, rfl, rfl, rfl, hw3⟩ := open_int jsH (hval 3 3 v3 rfl rfl) h3
 refine (jiy n0 b1 b2 n3 W (jjk hw0) (wf_i64 hw3) (jxi (jxJ hL).1 hS) (jxh (jxJ hL).2)).mono fun e W' ⟨he, hB⟩ => ?_
 subst he
 exact ⟨_, rfl, jnM jq6 (fun t ht => by have h1 := List.all_eq_true.1 paramsOk t ht; rw [Bool.and_eq_true, decide_eq_true_eq] at h1; exact h1) rfl hW' rfl (by rfl) jsG hB⟩
def wArgs : Array Value := #[.int .u64 0, .string ⟨#[]⟩, .string ⟨#[]⟩, .int .i64 0]
theorem reads (os : Os) {H : Type} (enc : TypeId × Value → H) : ∃ places, DataW.whole enc Tryz.prog ((laidWorldQ os).forCall (fun _ _ => 0) ⟨#[], wArgs, []⟩).memory Tryz.f3.params.toList Rows.tenantNoneSpec.vars false wArgs.toList 8 = some ([.lit (.int .u64 0), .lit (.string []), .lit (.string []), .lit (.int .i64 0)], [], places) :=
 ⟨[], by kernel_rfl⟩
set_option maxRecDepth 100000 in
theorem lifted (os : Os) (started : os.Started) (H : Type) (enc : TypeId × Value → H) (F : Stop.Interp) :
  ReturnsInHanded {} Tryz.checked os 3 .any ((OpenSpec.ofChange Rows.tenantNoneSpec).preRow enc Tryz.prog Tryz.f3 Rows.tenantNoneRow.domain false Rows.tenantNoneRow.laid) (((OpenSpec.ofChange Rows.tenantNoneSpec).at F).post enc Tryz.prog Tryz.f3 false true false false) := by
 obtain ⟨places, hx⟩ := reads os enc
 refine returnsInHanded_of_row (C := Tryz.checked) (s := OpenSpec.ofChange Rows.tenantNoneSpec) own started (by kernel_rfl) Tryz.func3
  (witness_row_at (enc := enc) (C := Tryz.checked) false (laidWorldQ os) wArgs rfl (by kernel_rfl) (by kernel_rfl) (by kernel_rfl)
   (OpenSpec.preRow_of_cond 8 hx (by kernel_rfl) (fun k hk => by cases hk) (by kernel_rfl) (jlu os _))) ?_
 intro W base args ds gs before hval hW _ _ _ hL hS _
 exact contract H enc W base args ds gs before hval hW hL hS
theorem jf1 : (Rows.tenantNoneRow.wf (OpenSpec.ofChange (OpenSpec.ofChange Rows.tenantNoneSpec).bare)) = true := by kernel_rfl
theorem jf10 : (Rows.tenantNoneRow.inPlace == Tryz.pinned.checked.prog.inPlace 3) = true := by kernel_rfl
theorem jf11 : (Rows.tenantNoneRow.unfollowed == Tryz.pinned.checked.prog.unfollowed 3) = true := by kernel_rfl
theorem jf12 : (Rows.tenantNoneRow.recurses == Tryz.pinned.checked.prog.recurses 3) = true := by kernel_rfl
theorem jf13 : (Rows.tenantNoneRow.named == Tryz.pinned.checked.prog.varsNamed 3) = true := by kernel_rfl
theorem closed : joinedFacts Tryz.pinned.checked.prog 3 Tryz.f3 (OpenSpec.ofChange Rows.tenantNoneSpec).bare Rows.tenantNoneRow = true := by
 unfold joinedFacts
 refine jbW (jbW (jbW (jbW (jbW (jbW (jbW (jbW (jbW (jbW (jbW (jbW (jbW (jbW (jbW (jbW (jbW (jbW (jbW (jbW (jbW (jbW (jbW (jbW (jbW (jbW (jbW (jbW (jbW (jbW (jbW ?_ ?_) ?_) ?_) ?_) ?_) ?_) ?_) ?_) ?_) ?_) ?_) ?_) ?_) ?_) ?_) ?_) ?_) ?_) ?_) ?_) ?_) ?_) ?_) ?_) ?_) ?_) ?_) ?_) ?_) ?_) ?_
 ·exact jf1
 ·exact jxt
 ·exact jvx
 ·kernel_rfl
 ·kernel_rfl
 ·kernel_rfl
 ·exact jrK
 ·kernel_rfl
 ·exact jrJ
 ·exact jf10
 ·exact jf11
 ·exact jf12
 ·exact jf13
 ·kernel_rfl
 ·kernel_rfl
 ·kernel_rfl
 ·kernel_rfl
 ·kernel_rfl
 ·kernel_rfl
 ·kernel_rfl
 ·kernel_rfl
 ·kernel_rfl
 ·exact jvu
 ·kernel_rfl
 ·exact jrI
 ·exact jrH
 ·exact jvv
 ·exact jvw
 ·kernel_rfl
 ·kernel_rfl
 ·kernel_rfl
 ·kernel_rfl
theorem wfText : Rows.tenantNoneRow.wfByText (OpenSpec.ofChange Rows.tenantNoneSpec) = true := by kernel_rfl
theorem goes : false = Rows.tenantNoneRow.goesBy Tryz.pinned.checked.prog := by kernel_rfl
theorem said : Rows.TenantNoneSaid :=
 OpenClaim.holds_of_cond 3 Tryz.f3 rfl rfl rfl rfl rfl rfl rfl ⟨rfl, rfl, rfl, rfl, rfl⟩ rfl rfl rfl rfl rfl (by kernel_rfl) Tryz.func3 closed
  (of_decide_eq_true (by kernel_rfl)) (by unfold Func.isWrapper; first | (rw [if_pos (by decide +kernel)]; kernel_rfl) | (rw [if_neg (by decide +kernel)]; exact ⟨rfl, rfl⟩))
  (fun os started H enc _ F => by rw [OpenClaim.pre_eq_preRow]; exact lifted os started H enc F)
theorem plainOk : (Tryz.f3.params.toList.all fun t => !Tryz.prog.wantsStandIn t) = true := by kernel_rfl
theorem plain (f : FuncId) (fn : Func) (hf : Tryz.pinned.checked.prog.funcNamed "aviary/aviarylaw18.TenantNone" = some f) (hfn : Tryz.pinned.checked.prog.funcs[f]? = some fn) :
  true = Tryz.pinned.checked.prog.looks [] ∧ ∀ (j : Nat) t, fn.params[j]? = some t → Tryz.pinned.checked.prog.wantsStandIn t = false := by
 obtain rfl : f = 3 := Option.some.inj ((show Tryz.prog.funcNamed "aviary/aviarylaw18.TenantNone" = some 3 by kernel_rfl).symm.trans hf) |>.symm
 obtain rfl : fn = Tryz.f3 := (Option.some.inj (Tryz.func3.symm.trans hfn)).symm
 refine ⟨by kernel_rfl, fun j t ht => ?_⟩
 have h1 := List.all_eq_true.1 plainOk t (Array.mem_toList_iff.2 (Array.mem_of_getElem? ht))
 rw [Bool.not_eq_true'] at h1
 exact h1
theorem card : Rows.TenantNoneCardSaid :=
 Claim7.holds_tied_plain_at .later [] _ _ _ _ said (fun _ h => by cases h) wfText (fun _ h => by cases h) tenantNone_row_tie rfl ⟨rfl, rfl⟩ (by kernel_rfl) rfl plain goes
end tenantNone
end Go.Proofs.YtnegciklhanmbaaGreatDoor
