/- Package ladder: what sketches cost, in plain data. -/
import Derived.Test.YtpnlmfilmbodfaaGreatDoorZLF
namespace Go.Proofs.YtpnlmfilmbodfaaGreatDoor
open Go Go.RowKit Go.Shelf
theorem Same_sk {B : Bd} {k L : Nat} {v v' : Value} {w : World} (hv : SkB w v k L B) (hv' : SkB w v' k L B) : Calls Tryz.prog 24 #[v, v'] w fun e w' => e = .returned (.bool true) ∧ Below w.heap.size w w' := by
  obtain ⟨y, s, rfl, rfl, hA⟩ := hv
  obtain ⟨y', t, rfl, rfl, hA'⟩ := hv'
  have h1 := ladder_Same_any (skOf k L B) (skOf k L B) s t w hA hA'
  rw [sk_same] at h1
  exact h1
end Go.Proofs.YtpnlmfilmbodfaaGreatDoor
