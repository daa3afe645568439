/- series.Meant; what a scope means, in plain data. What is lent, in plain data: to whom all is lent, to whom nothing; what may not be read changes nothing. -/
import Derived.Test.YthbhmnakmhambaaGreatDoorZSMS1
import Derived.Test.YthbhmnakmhambaaGreatDoorZWR
namespace Go.Proofs.YthbhmnakmhambaaGreatDoor
open Go Go.RowKit Go.Shelf
attribute [-go_sem] Builtin.append_
end Go.Proofs.YthbhmnakmhambaaGreatDoor
namespace Go.Proofs.YthbhmnakmhambaaGreatDoor
open Go Go.RowKit Go.Shelf
def emptyK : StrK := ⟨⟨#[]⟩, by decide⟩
theorem sc_empty : scRight emptyK = true := rfl
theorem means_empty {l : List Lab} (h : labRight l = true) : (meansS emptyK l).1 = true := by
 unfold meansS
 rw [show readS emptyK = some [] from rfl]
 simp [h]
end Go.Proofs.YthbhmnakmhambaaGreatDoor
namespace Go.Proofs.YthbhmnakmhambaaGreatDoor
open Go Go.RowKit
def gAll (tn : Int) : Grants := ⟨2, [⟨1, tn, emptyK⟩]⟩
theorem gAll_right (tn : Int) : grRight (gAll tn) = true := by
 have h : scRight emptyK = true := sc_empty
 unfold grRight gAll
 simp [foldO, grStep, h]
theorem gNew_right : grRight ⟨1, []⟩ = true := by kernel_rfl
theorem issue_all (tn : Int) : issueS ⟨1, []⟩ tn emptyK = (gAll tn, 1, 0) := by
 unfold issueS
 rw [gNew_right, sc_empty]
 rfl
theorem may_all (tn : Int) {l : List Lab} (h : labRight l = true) : mayS (gAll tn) tn l = true := by
 unfold mayS
 rw [gAll_right]
 have h1 : (meansS emptyK l).1 = true := means_empty h
 have h2 : (meansS emptyK l).2 = 0 := means_zero sc_empty h
 simp [gAll, mayOne, h1, h2]
theorem may_new (tn : Int) (l : List Lab) : mayS ⟨1, []⟩ tn l = false := by
 unfold mayS
 simp
theorem meantR_lab {L : List Ser} {s : StrK} {i : Nat} (h : i ∈ meantR L s) : ∃ x, L[i]? = some x ∧ labRight x.l = true := by
 have hlt := meant_lt L s i h
 have htr : tabRight L = true := by
  unfold meantR meantOk at h
  cases h1 : tabRight L
  ·rw [h1] at h; cases h
  ·rfl
 refine ⟨L[i], List.getElem?_eq_getElem hlt, ?_⟩
 have := ((tabRight_iff _).1 htr).2.1 _ (List.getElem_mem hlt)
 simp only [serRight, Bool.and_eq_true] at this
 exact this.1
theorem lent_all (tn : Int) (L : List Ser) (s : StrK) : lentR (gAll tn) tn L s = meantR L s ∧ lentE (gAll tn) L s = meantE L s := by
 unfold lentR lentE
 rw [gAll_right, if_pos rfl, if_pos rfl]
 refine ⟨List.filter_eq_self.2 fun i hi => ?_, rfl⟩
 obtain ⟨x, hx, hl⟩ := meantR_lab hi
 rw [mayAt_at hx, may_all tn hl]
theorem lent_new (tn : Int) (L : List Ser) (s : StrK) : lentR ⟨1, []⟩ tn L s = [] ∧ lentE ⟨1, []⟩ L s = meantE L s := by
 unfold lentR lentE
 rw [gNew_right, if_pos rfl, if_pos rfl]
 refine ⟨List.filter_eq_nil_iff.2 fun i hi => ?_, rfl⟩
 obtain ⟨x, hx, -⟩ := meantR_lab hi
 rw [mayAt_at hx, may_new]
 simp
end Go.Proofs.YthbhmnakmhambaaGreatDoor
