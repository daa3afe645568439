/- A range over a function whose iterator keeps a variable of its own in a box (strings.SplitSeq): the kit's law of such a range, turned to that case. -/
import Derived.Test.YtpnlmfilmbodfaaGreatDoorVH0
namespace Go.Proofs.YtpnlmfilmbodfaaGreatDoor
open Go Go.RowKit Go.Shelf
def OwnX {β : Type} (B Bs : Nat) (I : β → World → Prop) : Prop :=
  ∀ s W W' row, I s W → W.grownBy W' row → (∀ r, row = some r → r = Bs ∨ (B ≤ r ∧ ∃ o : Obj, W.heap[r]? = some o ∧ o.isCells = false)) → I s W'
theorem OwnX.from {β : Type} {B Bs : Nat} {I : β → World → Prop} (h : OwnX B Bs I) : OwnFrom B I := fun s W W' row hs hg hr => h s W W' row hs hg (fun r e => .inr (hr r e))
theorem OwnX.and {β : Type} {B Bs : Nat} {I I' : β → World → Prop} (h : OwnX B Bs I) (h' : OwnX B Bs I') : OwnX B Bs (fun s W => I s W ∧ I' s W) := fun s W W' row hs hg hr => ⟨h s W W' row hs.1 hg hr, h' s W W' row hs.2 hg hr⟩
end Go.Proofs.YtpnlmfilmbodfaaGreatDoor
