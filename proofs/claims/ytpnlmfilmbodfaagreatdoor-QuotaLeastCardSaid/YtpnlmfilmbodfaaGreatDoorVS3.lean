/- Package label: Get. Package scope: names, values, patterns' signs. Package scope: the places of a pattern. Package scope: signs, patterns, what fits. -/
import Derived.Test.YtpnlmfilmbodfaaGreatDoorVL2
import Derived.Test.YtpnlmfilmbodfaaGreatDoorVM1
namespace Go.Proofs.YtpnlmfilmbodfaaGreatDoor
open Go Go.RowKit Go.Shelf
attribute [local go_sem] Oper.semAt_some
inductive Sign where
  | any | one | that (c : Int)
def Sign.val : Sign → Value
  | .any => .iface 315 (.agg #[])
  | .one => .iface 316 (.agg #[])
  | .that c => .iface 314 (.agg #[.int .i32 c])
end Go.Proofs.YtpnlmfilmbodfaaGreatDoor
namespace Go.Proofs.YtpnlmfilmbodfaaGreatDoor
open Go Go.RowKit Go.Shelf
theorem und_places : Tryz.prog.underlying 288 = some (.map 3 291) := by kernel_rfl
abbrev PSet (w : World) (b n : Nat) (S : Int → Bool) : Prop := SetAt Tryz.prog 3 w b n S
theorem PSet.put {w : World} {b n : Nat} {S : Int → Bool} (h : PSet w b n S) (hn : n < maxLen) {i : Int} (hi : wfI i) :
    ∃ w', (Instr.mapUpdate 288 (.map (some b)) (.int .i64 i) (.agg #[])).run Tryz.prog w = .ok () w' ∧ PSet w' b (n + 1) (fun j => S j || j == i) ∧ w.grownBy w' (some b) :=
  SetAt.add Tryz.underlying3 und_places h hn hi
def Signs (n₀ : Nat) (w : World) (sv : Value) (l : List Sign) : Prop := SlAt n₀ w sv l.length (l.map Sign.val)
theorem Signs.cell {n₀ : Nat} {w : World} {a : Option Addr} {len cap : Nat} {l : List Sign} (h : Signs n₀ w (.slice a len cap) l) : len = l.length ∧ ∀ i x, l[i]? = some x → ∃ b off, a = some ⟨b, off, none⟩ ∧ b < n₀ ∧ w.cell? ⟨b, off + i, none⟩ = some x.val := by
  rcases h with ⟨h, h0, _⟩ | ⟨b, off, cap', e, hb, hc⟩
  · obtain ⟨rfl, rfl, rfl⟩ : a = none ∧ len = 0 ∧ cap = 0 := by simpa using h
    have : l = [] := by simpa using h0
    subst this
    exact ⟨rfl, fun i x hx => by simp at hx⟩
  · obtain ⟨rfl, rfl, rfl⟩ : a = some ⟨b, off, none⟩ ∧ len = l.length ∧ cap = cap' := by simpa using e
    refine ⟨rfl, fun i x hx => ⟨b, off, rfl, hb, ?_⟩⟩
    have hi := (List.getElem?_eq_some_iff.1 hx).1
    rw [hc i (by simpa using hi)]
    simp [hx]
end Go.Proofs.YtpnlmfilmbodfaaGreatDoor
namespace Go.Proofs.YtpnlmfilmbodfaaGreatDoor
open Go Go.RowKit Go.Shelf
end Go.Proofs.YtpnlmfilmbodfaaGreatDoor
