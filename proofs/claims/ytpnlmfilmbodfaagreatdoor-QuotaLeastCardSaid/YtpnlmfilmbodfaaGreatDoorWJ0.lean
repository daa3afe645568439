/- Sketches at work as plain data: a number added, one level lower. No program in sight. -/
import Derived.Test.YtpnlmfilmbodfaaGreatDoorVA2
import Derived.Test.YtpnlmfilmbodfaaGreatDoorVA7
import Derived.Test.YtpnlmfilmbodfaaGreatDoorVA8
import Derived.Test.YtpnlmfilmbodfaaGreatDoorVB1
import Derived.Test.YtpnlmfilmbodfaaGreatDoorVCF
import Derived.Test.YtpnlmfilmbodfaaGreatDoorVCG
import Derived.Test.YtpnlmfilmbodfaaGreatDoorVF4
import Derived.Test.YtpnlmfilmbodfaaGreatDoorVF6
import Derived.Test.YtpnlmfilmbodfaaGreatDoorVF7
import Derived.Test.YtpnlmfilmbodfaaGreatDoorVF8
import Derived.Test.YtpnlmfilmbodfaaGreatDoorVG0
import Derived.Test.YtpnlmfilmbodfaaGreatDoorVGB
import Derived.Test.YtpnlmfilmbodfaaGreatDoorVGG
import Derived.Test.YtpnlmfilmbodfaaGreatDoorVGH
import Derived.Test.YtpnlmfilmbodfaaGreatDoorVH0
import Derived.Test.YtpnlmfilmbodfaaGreatDoorVH1
import Derived.Test.YtpnlmfilmbodfaaGreatDoorVHA
import Derived.Test.YtpnlmfilmbodfaaGreatDoorVHF
import Derived.Test.YtpnlmfilmbodfaaGreatDoorVJ1
import Derived.Test.YtpnlmfilmbodfaaGreatDoorVL0
import Derived.Test.YtpnlmfilmbodfaaGreatDoorVL2
import Derived.Test.YtpnlmfilmbodfaaGreatDoorVL3
import Derived.Test.YtpnlmfilmbodfaaGreatDoorVL5
import Derived.Test.YtpnlmfilmbodfaaGreatDoorVL7
import Derived.Test.YtpnlmfilmbodfaaGreatDoorVLI
import Derived.Test.YtpnlmfilmbodfaaGreatDoorVLR
import Derived.Test.YtpnlmfilmbodfaaGreatDoorVM1
import Derived.Test.YtpnlmfilmbodfaaGreatDoorVM2
import Derived.Test.YtpnlmfilmbodfaaGreatDoorVP1
import Derived.Test.YtpnlmfilmbodfaaGreatDoorVQA
import Derived.Test.YtpnlmfilmbodfaaGreatDoorVQB
import Derived.Test.YtpnlmfilmbodfaaGreatDoorVQD
import Derived.Test.YtpnlmfilmbodfaaGreatDoorVQH
import Derived.Test.YtpnlmfilmbodfaaGreatDoorVQK
import Derived.Test.YtpnlmfilmbodfaaGreatDoorVRKs
import Derived.Test.YtpnlmfilmbodfaaGreatDoorVS3
import Derived.Test.YtpnlmfilmbodfaaGreatDoorVS7
import Derived.Test.YtpnlmfilmbodfaaGreatDoorVShelf
import Derived.Test.YtpnlmfilmbodfaaGreatDoorVT7
import Derived.Test.YtpnlmfilmbodfaaGreatDoorVUS
import Derived.Test.YtpnlmfilmbodfaaGreatDoorVV1
import Derived.Test.YtpnlmfilmbodfaaGreatDoorVXA
import Derived.Test.YtpnlmfilmbodfaaGreatDoorVXE
import Derived.Test.YtpnlmfilmbodfaaGreatDoorVXI
import Derived.Test.YtpnlmfilmbodfaaGreatDoorVXK
import Derived.Test.YtpnlmfilmbodfaaGreatDoorProg
import Derived.Lib.BitFns
import Derived.Lib.ItoaNum
import Derived.ProofKit
import Derived.OpenShut
import Derived.Carry
import Derived.Deep.Slices
import Derived.Deep.Fields
import Derived.Deep.DeepHandedRow
import Derived.Lib.SmallJoins
import Derived.RangeFuncNested
import Derived.RangeFuncBound
import Derived.RangeFuncCalls
import Derived.RangeFuncLeaves
import Derived.Shelf.Abstract
import Derived.Shelf.RegionOpen
import Derived.OwnWalkIn
import Derived.TacticsInMore
import Derived.LoopNIn
import Derived.LoopIn
import Derived.Outline
import Derived.BigGuardIn
import Derived.WalkMore
import Derived.WalkKit
import Derived.LoopTactic
import Derived.WalkLawsBesides
import Derived.WalkSpells
import Derived.Lib.Hide
import Derived.Laws.RangeAny
import Derived.Lib.OthersKept
import Derived.Lib.Strings
import Derived.Deep.QuietTactic
import Derived.BigQuiet
import Derived.ScopeJumps
import Derived.Deep.RegionLaw
import Derived.BigRegion
import Derived.Laws.BitsAllLaws
import Derived.Lib.SliceRun
namespace Go.Proofs.YtpnlmfilmbodfaaGreatDoor
open Go Go.RowKit
def wkLow (s : Nat × Bd) : Nat × Bd := (s.1 + 1, s.2.low)
def wkDown : Nat → Nat × Bd → Nat × Bd
  | 0, s => s
  | n + 1, s => wkDown n (wkLow s)
def wkTo (s : Nat × Bd) (t : Nat) : Nat × Bd := wkDown (t - s.1) s
theorem ok_bot {k L : Nat} {b : Bd} (hb : b.Ok k L) : L ≤ botN k := by
  cases b with
  | num l => obtain ⟨h1, h2, -⟩ := hb; subst h1; subst h2; decide
  | reg b r => obtain ⟨h1, h2, h3, -⟩ := hb; subst h1; exact h3
  | cnt c l => obtain ⟨h1, h2, -⟩ := hb; subst h1; exact h2
  | bkt f l => obtain ⟨h1, h2, -⟩ := hb; subst h1; exact h2
theorem wkTo_self {s : Nat × Bd} {t : Nat} (h : t ≤ s.1) : wkTo s t = s := by
  unfold wkTo
  rw [show t - s.1 = 0 by omega]
  rfl
theorem wkTo_low {s : Nat × Bd} {t : Nat} (h : s.1 < t) : wkTo s t = wkTo (wkLow s) t := by
  unfold wkTo
  rw [show t - s.1 = (t - (s.1 + 1)) + 1 by omega]
  rfl
theorem wkTo_ok {k : Nat} (t : Nat) (ht : t ≤ botN k) : ∀ (m : Nat) (s : Nat × Bd), t - s.1 = m → s.2.Ok k s.1 → (wkTo s t).2.Ok k (wkTo s t).1 ∧ (wkTo s t).1 = max s.1 t := by
  intro m
  induction m with
  | zero => intro s hm hs; rw [wkTo_self (by omega)]; exact ⟨hs, by omega⟩
  | succ m ih =>
    intro s hm hs
    rw [wkTo_low (by omega)]
    have h := ih (wkLow s) (by show t - (s.1 + 1) = m; omega) (bd_low_ok hs (by omega))
    exact ⟨h.1, by rw [h.2]; show max (s.1 + 1) t = _; omega⟩
end Go.Proofs.YtpnlmfilmbodfaaGreatDoor
