/- Plain lemmas: a fold that may fail, along a list; cells of slices of structs. -/
import Derived.Test.YtjpnbkdhmjgdgaaDoorA1
namespace Go.Proofs.YtjpnbkdhmjgdgaaDoor
open Go Go.RowKit

def foldO {σ α : Type} (f : σ → α → Option σ) (s : σ) (l : List α) : Option σ := l.foldl (fun s x => s.bind (f · x)) (some s)
theorem foldl_bind_none {σ α : Type} (f : σ → α → Option σ) (l : List α) : l.foldl (fun s x => s.bind (f · x)) (none : Option σ) = none := by
  induction l with
  | nil => rfl
  | cons x xs ih => exact ih
theorem foldO_nil {σ α : Type} (f : σ → α → Option σ) (s : σ) : foldO f s [] = some s := rfl
theorem foldO_snoc {σ α : Type} (f : σ → α → Option σ) (s : σ) (l : List α) (x : α) : foldO f s (l ++ [x]) = (foldO f s l).bind (f · x) := by simp [foldO]
theorem take_snoc' {α : Type} {l : List α} {k : Nat} {x : α} (h : l[k]? = some x) : l.take (k + 1) = l.take k ++ [x] := by rw [List.take_add_one, h]; rfl
theorem foldO_step {σ α : Type} {f : σ → α → Option σ} {s st : σ} {l : List α} {k : Nat} {x : α} (h : l[k]? = some x) (hk : foldO f s (l.take k) = some st) : foldO f s (l.take (k + 1)) = f st x := by
  rw [take_snoc' h, foldO_snoc, hk]; rfl
theorem foldO_append {σ α : Type} (f : σ → α → Option σ) (s : σ) (l m : List α) : foldO f s (l ++ m) = (foldO f s l).bind (fun s' => foldO f s' m) := by
  unfold foldO
  rw [List.foldl_append]
  cases l.foldl (fun s x => s.bind (f · x)) (some s) with
  | none => exact foldl_bind_none f m
  | some s' => rfl
theorem foldO_none {σ α : Type} {f : σ → α → Option σ} {s : σ} {l : List α} {k : Nat} (h : foldO f s (l.take k) = none) : foldO f s l = none := by
  rw [← List.take_append_drop k l, foldO_append, h]; rfl
theorem foldO_all {σ α : Type} {f : σ → α → Option σ} {s : σ} {l : List α} {k : Nat} {st : Option σ} (hk : l.length ≤ k) (h : foldO f s (l.take k) = st) : foldO f s l = st := by
  rwa [List.take_of_length_le hk] at h
theorem foldO_cons {σ α : Type} (f : σ → α → Option σ) (s : σ) (x : α) (l : List α) : foldO f s (x :: l) = (f s x).bind (fun s' => foldO f s' l) := by
  have := foldO_append f s [x] l
  simpa [foldO] using this

/-- Cell j * k + i of a slice whose elements take k cells each. -/
theorem flat_cell {α : Type} (enc : α → List Value) (k : Nat) (hk : ∀ x, (enc x).length = k) (l : List α) (j i : Nat) (x : α) (hx : l[j]? = some x) (hi : i < k) : (l.flatMap enc)[j * k + i]? = (enc x)[i]? := by
  induction l generalizing j with
  | nil => simp at hx
  | cons y ys ih =>
    cases j with
    | zero =>
      simp at hx; subst hx
      simp only [List.flatMap_cons, Nat.zero_mul, Nat.zero_add]
      rw [List.getElem?_append_left (by rw [hk]; exact hi)]
    | succ j =>
      simp only [List.flatMap_cons]
      rw [List.getElem?_append_right (by rw [hk, Nat.succ_mul]; omega), hk, show (j + 1) * k + i - k = j * k + i by rw [Nat.succ_mul]; omega]
      exact ih j (by simpa using hx)
theorem flat_len {α : Type} (enc : α → List Value) (k : Nat) (hk : ∀ x, (enc x).length = k) (l : List α) : (l.flatMap enc).length = l.length * k := by
  induction l with
  | nil => simp
  | cons y ys ih => simp [List.flatMap_cons, hk, ih, Nat.succ_mul]; omega
/-- A slice of structs of k cells: its form, its cells. -/
theorem SlAt.elems {α : Type} {enc : α → List Value} {k : Nat} (hk : ∀ x, (enc x).length = k) {n₀ : Nat} {w : World} {a : Option Addr} {len cap : Nat} {l : List α} (h : SlAt n₀ w (.slice a len cap) l.length (l.flatMap enc)) :
    len = l.length ∧ ∀ j x, l[j]? = some x → ∃ b off, a = some ⟨b, off, none⟩ ∧ b < n₀ ∧ ∀ i, i < k → w.cell? ⟨b, off + j * k + i, none⟩ = (enc x)[i]? := by
  rcases h with ⟨h, h0, _⟩ | ⟨b, off, cap', e, hb, hc⟩
  · obtain ⟨rfl, rfl, rfl⟩ : a = none ∧ len = 0 ∧ cap = 0 := by simpa using h
    have : l = [] := by simpa using h0
    subst this
    exact ⟨rfl, fun i x hx => by simp at hx⟩
  · obtain ⟨rfl, rfl, rfl⟩ : a = some ⟨b, off, none⟩ ∧ len = l.length ∧ cap = cap' := by simpa using e
    refine ⟨rfl, fun j x hx => ⟨b, off, rfl, hb, fun i hi => ?_⟩⟩
    have hj := (List.getElem?_eq_some_iff.1 hx).1
    have h2 : j * k + i < l.length * k := by have := Nat.mul_le_mul_right k (show j + 1 ≤ l.length by omega); rw [Nat.succ_mul] at this; omega
    rw [Nat.add_assoc, hc (j * k + i) (by rw [flat_len enc k hk]; exact h2), flat_cell enc k hk l j i x hx hi]
end Go.Proofs.YtjpnbkdhmjgdgaaDoor
