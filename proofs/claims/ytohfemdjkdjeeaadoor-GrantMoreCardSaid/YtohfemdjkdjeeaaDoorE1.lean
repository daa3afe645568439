/- The plain laws of grants: what Issue, Revoke and May compute answers as GrantMore and GrantOnce say. No program in sight. -/
import Derived.Test.YtohfemdjkdjeeaaDoorG6
namespace Go.Proofs.YtohfemdjkdjeeaaDoor
open Go Go.RowKit

theorem issue_ok {g : Grants} {tn : Int} {s : StrK} (h : (issueS g tn s).2.2 = 0) : grRight g = true ∧ scRight s = true ∧ g.l.length ≠ 10 ∧ g.next ≠ 18446744073709551615 ∧ issueS g tn s = (⟨g.next + 1, g.l ++ [⟨g.next, tn, s⟩]⟩, g.next, 0) := by
  unfold issueS at h ⊢
  cases h1 : grRight g
  · simp [h1] at h
  · cases h2 : scRight s
    · simp [h1, h2] at h
    · cases h3 : ((g.l.length : Int) == 10 || g.next == 18446744073709551615)
      · rw [Bool.or_eq_false_iff, beq_eq_false_iff_ne, beq_eq_false_iff_ne] at h3
        exact ⟨rfl, rfl, by omega, h3.2, by simp⟩
      · simp [h1, h2, h3] at h
theorem issue_err0 {g : Grants} {tn : Int} {s : StrK} (h : (issueS g tn s).2.2 ≠ 0) : (issueS g tn s).2.1 = 0 := by
  unfold issueS at h ⊢
  cases h1 : grRight g
  · simp
  · cases h2 : scRight s
    · simp
    · cases h3 : ((g.l.length : Int) == 10 || g.next == 18446744073709551615)
      · simp [h1, h2, h3] at h
      · simp
/-- The ids of a right list lie below next, the last one is what the fold comes to. -/
theorem fold_mono {next : Int} (l : List Gr) : ∀ (st r : Int), st < next → foldO (grStep next) st l = some r → foldO (grStep (next + 1)) st l = some r ∧ r < next ∧ ∀ x ∈ l, x.id < next := by
  induction l with
  | nil => intro st r hs h; simp [foldO_nil] at h ⊢; omega
  | cons x xs ih =>
    intro st r hs h
    rw [foldO_cons] at h ⊢
    cases hx : grStep next st x with
    | none => rw [hx] at h; cases h
    | some y =>
      rw [hx] at h
      unfold grStep at hx
      cases hc : (decide (x.id ≤ st) || decide (next ≤ x.id) || !scRight x.scope)
      · rw [hc] at hx
        have hy : x.id = y := by simpa using hx
        subst hy
        simp only [Bool.or_eq_false_iff, decide_eq_false_iff_not] at hc
        obtain ⟨⟨h1, h2⟩, h3⟩ := hc
        have h4 : grStep (next + 1) st x = some x.id := by
          unfold grStep
          rw [if_neg]
          rw [Bool.not_eq_true, Bool.or_eq_false_iff, Bool.or_eq_false_iff, decide_eq_false_iff_not, decide_eq_false_iff_not]
          exact ⟨⟨h1, by omega⟩, h3⟩
        obtain ⟨i1, i2, i3⟩ := ih x.id r (by omega) h
        rw [h4]
        refine ⟨i1, i2, fun z hz => ?_⟩
        rcases List.mem_cons.1 hz with rfl | hz
        · omega
        · exact i3 z hz
      · rw [hc] at hx; simp at hx
theorem right_parts {g : Grants} (h : grRight g = true) : 1 ≤ g.next ∧ g.l.length ≤ 10 ∧ ∃ r, foldO (grStep g.next) 0 g.l = some r := by
  simp only [grRight, Bool.and_eq_true, decide_eq_true_eq, Bool.not_eq_true', decide_eq_false_iff_not] at h
  exact ⟨by omega, h.1.2, Option.isSome_iff_exists.1 h.2⟩
theorem right_mk {next : Int} {l : List Gr} {r : Int} (h1 : 1 ≤ next) (h2 : l.length ≤ 10) (h3 : foldO (grStep next) 0 l = some r) : grRight ⟨next, l⟩ = true := by
  simp only [grRight, Bool.and_eq_true, decide_eq_true_eq, Bool.not_eq_true', decide_eq_false_iff_not]
  exact ⟨⟨by omega, h2⟩, by rw [h3]; rfl⟩
/-- The grants behind one more, and behind its revocation, are right. -/
theorem right_more {g : Grants} {tn : Int} {s : StrK} (h : grRight g = true) (hs : scRight s = true) (h10 : g.l.length ≠ 10) :
    grRight ⟨g.next + 1, g.l ++ [⟨g.next, tn, s⟩]⟩ = true ∧ grRight ⟨g.next + 1, g.l⟩ = true ∧ ∀ x ∈ g.l, x.id < g.next := by
  obtain ⟨h1, h2, r, h3⟩ := right_parts h
  obtain ⟨i1, i2, i3⟩ := fold_mono g.l 0 r (by omega) h3
  refine ⟨?_, right_mk (by omega) h2 i1, i3⟩
  refine right_mk (r := g.next) (by omega) (by simp; omega) ?_
  rw [foldO_snoc, i1]
  show grStep (g.next + 1) r ⟨g.next, tn, s⟩ = some g.next
  unfold grStep
  rw [if_neg]
  simp only [hs, Bool.not_true, Bool.or_false, Bool.or_eq_true, decide_eq_true_eq]
  omega
theorem may_more {g : Grants} {tn : Int} {s : StrK} (to : Int) (ls : List Lab) (h : grRight g = true) (hs : scRight s = true) (h10 : g.l.length ≠ 10) :
    mayS ⟨g.next + 1, g.l ++ [⟨g.next, tn, s⟩]⟩ to ls = (mayS g to ls || mayOne to ls ⟨g.next, tn, s⟩) := by
  unfold mayS
  rw [(right_more h hs h10).1, h]
  simp [List.any_append]
theorem may_back {g : Grants} {tn : Int} {s : StrK} (to : Int) (ls : List Lab) (h : grRight g = true) (hs : scRight s = true) (h10 : g.l.length ≠ 10) :
    mayS ⟨g.next + 1, g.l⟩ to ls = mayS g to ls := by
  unfold mayS
  rw [(right_more (tn := tn) h hs h10).2.1, h]

def moreB (g : Grants) (tn other : Int) (s : StrK) (ls : List Lab) : Bool :=
  (issueS g tn s).2.2 != 0 || ((mayS (issueS g tn s).1 tn ls == (mayS g tn ls || ((meansS s ls).1 && (meansS s ls).2 == 0))) && (other == tn || (mayS (issueS g tn s).1 other ls == mayS g other ls)))
theorem more_true (g : Grants) (tn other : Int) (s : StrK) (ls : List Lab) : moreB g tn other s ls = true := by
  unfold moreB
  by_cases h : (issueS g tn s).2.2 = 0
  · obtain ⟨h1, h2, h3, _, h5⟩ := issue_ok h
    rw [h5]
    simp only [bne_self_eq_false, Bool.false_or, may_more _ _ h1 h2 h3]
    have e1 : mayOne tn ls ⟨g.next, tn, s⟩ = ((meansS s ls).1 && (meansS s ls).2 == 0) := by
      simp only [mayOne, beq_self_eq_true, Bool.true_and]
      exact Bool.and_comm _ _
    rw [e1]
    by_cases ho : other = tn
    · simp [ho]
    · have e2 : mayOne other ls ⟨g.next, tn, s⟩ = false := by
        have : ((tn : Int) == other) = false := beq_eq_false_iff_ne.2 (fun e => ho e.symm)
        simp only [mayOne, this, Bool.false_and]
      rw [e2]
      simp
  · have : ((issueS g tn s).2.2 != 0) = true := bne_iff_ne.2 h
    rw [this]; rfl

/-! ### GrantOnce -/
theorem revoke_last {g : Grants} {tn : Int} {s : StrK} (h : grRight g = true) (hs : scRight s = true) (h10 : g.l.length ≠ 10) :
    revokeS ⟨g.next + 1, g.l ++ [⟨g.next, tn, s⟩]⟩ g.next = (⟨g.next + 1, g.l⟩, 0) ∧ revokeS ⟨g.next + 1, g.l⟩ g.next = (⟨0, []⟩, 121) := by
  obtain ⟨r1, r2, hlt⟩ := right_more (tn := tn) h hs h10
  have hn : g.l.findIdx? (fun x => x.id == g.next) = none := by
    rw [List.findIdx?_eq_none_iff]
    intro x hx
    exact beq_eq_false_iff_ne.2 (by have := hlt x hx; omega)
  constructor
  · unfold revokeS
    rw [r1]
    have : (g.l ++ [(⟨g.next, tn, s⟩ : Gr)]).findIdx? (fun x => x.id == g.next) = some g.l.length := by
      rw [List.findIdx?_append, hn]; simp
    simp only [this, if_true]
    rw [List.eraseIdx_append_of_length_le (Nat.le_refl _)]
    simp
  · unfold revokeS
    rw [r2]
    simp only [hn, if_true]
/-- What GrantOnce computes, call by call. -/
def onceB (g : Grants) (tn other : Int) (s more : StrK) (ls : List Lab) : Bool :=
  let I := issueS g tn s
  if I.2.2 != 0 then I.2.1 == 0 else
  let R := revokeS I.1 I.2.1
  let J := issueS R.1 other more
  let K := revokeS R.1 I.2.1
  if J.2.2 == 0 && (decide (J.2.1 ≤ I.2.1) || J.2.1 != I.2.1 + 1 || !grRight J.1) then false else
  R.2 == 0 && (K.2 == 121 && (grRight I.1 && (grRight R.1 && (mayS R.1 tn ls == mayS g tn ls && (R.1.l.length : Int) == g.l.length))))
theorem once_true (g : Grants) (tn other : Int) (s more : StrK) (ls : List Lab) : onceB g tn other s more ls = true := by
  unfold onceB
  by_cases h : (issueS g tn s).2.2 = 0
  · obtain ⟨h1, h2, h3, _, h5⟩ := issue_ok h
    obtain ⟨r1, r2, _⟩ := right_more (tn := tn) h1 h2 h3
    obtain ⟨v1, v2⟩ := revoke_last (tn := tn) h1 h2 h3
    have hb := may_back (tn := tn) tn ls h1 h2 h3
    dsimp only
    rw [h5]
    dsimp only
    rw [v1]
    dsimp only
    rw [v2, r1, r2, hb]
    by_cases hj : (issueS ⟨g.next + 1, g.l⟩ other more).2.2 = 0
    · obtain ⟨j1, j2, j3, _, j5⟩ := issue_ok hj
      obtain ⟨q1, _, _⟩ := right_more (tn := other) j1 j2 j3
      rw [j5]
      dsimp only
      rw [q1]
      have e1 : decide (g.next + 1 ≤ g.next) = false := decide_eq_false (by omega)
      rw [e1]
      simp
    · have : ((issueS ⟨g.next + 1, g.l⟩ other more).2.2 == 0) = false := beq_eq_false_iff_ne.2 hj
      rw [this]
      simp
  · have e1 : ((issueS g tn s).2.2 != 0) = true := bne_iff_ne.2 h
    dsimp only
    rw [e1, issue_err0 h]
    rfl
end Go.Proofs.YtohfemdjkdjeeaaDoor
