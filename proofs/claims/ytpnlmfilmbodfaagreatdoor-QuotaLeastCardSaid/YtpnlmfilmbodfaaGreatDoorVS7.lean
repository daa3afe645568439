/- strings.SplitSeq at a separator of one byte ';'. Package scope: read, Right. Package scope: Means. -/
import Derived.Test.YtpnlmfilmbodfaaGreatDoorVS3
import Derived.Test.YtpnlmfilmbodfaaGreatDoorVA2
namespace Go.Proofs.YtpnlmfilmbodfaaGreatDoor
open Go Go.RowKit Go.Shelf
attribute [local go_sem] Oper.semAt_some
end Go.Proofs.YtpnlmfilmbodfaaGreatDoor
namespace Go.Proofs.YtpnlmfilmbodfaaGreatDoor
open Go Go.RowKit Go.Shelf
attribute [local go_sem] Oper.semAt_some
structure Term where
  name : ByteArray
  pat : ByteArray
def Term.enc (t : Term) : List Value := [.string t.name, .string t.pat]
def TermsAt (n₀ : Nat) (w : World) (sv : Value) (l : List Term) : Prop := SlAt n₀ w sv l.length (l.flatMap Term.enc)
def RB (n : Nat) (w : World) (v : Value) (acc : List Term) (before : ByteArray) (W : World) : Prop :=
  Boxed W n 232 v ∧ W.ownsRow (n + 6) 236 2 v acc.length (acc.flatMap Term.enc) ∧ Boxed W (n + 1) 4 (.bool true) ∧ Boxed W (n + 2) 9 (.string before) ∧ Below n w W
theorem RB.below {n : Nat} {w : World} {v : Value} {acc : List Term} {before : ByteArray} {W W' : World} (h : RB n w v acc before W) (hb : Below W.heap.size W W') : RB n w v acc before W' := by
  obtain ⟨h1, h2, h3, h4, h5⟩ := h
  have := h1.lt
  exact ⟨bBoxed hb h1.lt h1, owns_of_blocks h2 (fun j _ hj => hb.block j hj), bBoxed hb h3.lt h3, bBoxed hb h4.lt h4, h5.trans (hb.mono (by omega))⟩
end Go.Proofs.YtpnlmfilmbodfaaGreatDoor
namespace Go.Proofs.YtpnlmfilmbodfaaGreatDoor
open Go Go.RowKit Go.Shelf
theorem terms_cell (ts : List Term) (j : Nat) (x : Term) (h : ts[j]? = some x) : (ts.flatMap Term.enc)[j * 2]? = some (.string x.name) ∧ (ts.flatMap Term.enc)[j * 2 + 1]? = some (.string x.pat) := by
  induction ts generalizing j with
  | nil => simp at h
  | cons y ys ih =>
    cases j with
    | zero => simp at h; subst h; simp [Term.enc]
    | succ j =>
      have := ih j (by simpa using h)
      rw [show (j + 1) * 2 = j * 2 + 2 by omega]
      simp only [List.flatMap_cons, Term.enc, List.cons_append, List.nil_append, List.getElem?_cons_succ]
      exact this
theorem terms_len (ts : List Term) : (ts.flatMap Term.enc).length = ts.length * 2 := by
  induction ts with
  | nil => rfl
  | cons y ys ih => simp [List.flatMap_cons, Term.enc, ih]; omega
theorem TermsAt.cells {n₀ : Nat} {w : World} {a : Option Addr} {len cap : Nat} {ts : List Term} (h : TermsAt n₀ w (.slice a len cap) ts) : len = ts.length ∧ ∀ j x, ts[j]? = some x →
    ∃ b off, a = some ⟨b, off, none⟩ ∧ b < n₀ ∧ w.cell? ⟨b, off + j * 2, none⟩ = some (.string x.name) ∧ w.cell? ⟨b, off + j * 2 + 1, none⟩ = some (.string x.pat) := by
  rcases h with ⟨h, h0, _⟩ | ⟨b, off, cap', e, hb, hc⟩
  · obtain ⟨rfl, rfl, rfl⟩ : a = none ∧ len = 0 ∧ cap = 0 := by simpa using h
    have : ts = [] := by simpa using h0
    subst this
    exact ⟨rfl, fun i x hx => by simp at hx⟩
  · obtain ⟨rfl, rfl, rfl⟩ : a = some ⟨b, off, none⟩ ∧ len = ts.length ∧ cap = cap' := by simpa using e
    refine ⟨rfl, fun j x hx => ⟨b, off, rfl, hb, ?_⟩⟩
    have hj := (List.getElem?_eq_some_iff.1 hx).1
    have h2 := terms_cell ts j x hx
    rw [terms_len] at hc
    exact ⟨(hc (j * 2) (by omega)).trans h2.1, (hc (j * 2 + 1) (by omega)).trans h2.2⟩
end Go.Proofs.YtpnlmfilmbodfaaGreatDoor
