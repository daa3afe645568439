/- Regions that draw their order inside a round: by the walk outside of one. Of no program. -/
import Derived.Test.YtpnlmfilmbodfaaGreatDoorVH0
import Derived.Shelf.RegionOpen
namespace Go.Proofs.YtpnlmfilmbodfaaGreatDoor
open Go Go.RowKit
section
variable {F : Fence} {n : Nat} {P : Program} {ops : Array Oper} {Q : Exit → Act → World → Prop} {md : Region.Mode} {l : Nat}
theorem wpInO_round {o : Oper} {K : Act → World → Prop} {a : Act} {w : World} (hro : F.round = none) (hd : ∀ c, o.op ≠ .defer c) (h : o.wpIn F n P a w K Q) : o.wpIn (F.inRound l) n P a w K Q := by
  unfold Oper.wpIn at h ⊢
  refine ⟨h.1, ?_⟩
  have h2 := h.2
  rw [hro, Oper.semAt_none] at h2
  rw [Fence.inRound_round, Oper.semAt_some _ _ _ hd]
  generalize (execOp a.eval o).run P w = r at h2 ⊢
  cases r with
  | ok x w' => cases x <;> exact h2
  | halt x w' => cases x <;> exact h2
theorem wpOpIn_round {i : Nat} {K : Act → World → Prop} {a : Act} {w : World} (hro : F.round = none) (hd : ∀ (i : Nat) (o : Oper), ops[i]? = some o → ∀ c, o.op ≠ .defer c) (h : wpOpIn F n P ops Q i K a w) : wpOpIn (F.inRound l) n P ops Q i K a w := by
  unfold wpOpIn at h ⊢
  cases ho : ops[i]? with
  | none => simpa only [ho] using h
  | some o =>
    simp only [ho] at h ⊢
    split
    · rename_i hw; rw [if_pos hw] at h; exact wpInO_round hro (hd i o ho) h
    · rename_i hw; rw [if_neg hw] at h; exact h
theorem wpAnyIn_round (hro : F.round = none) (hd : ∀ (i : Nat) (o : Oper), ops[i]? = some o → ∀ c, o.op ≠ .defer c) (fuel : Nat) : ∀ (listed : Array Bool) (a : Act) (w : World), wpAnyIn F n P md ops Q fuel listed a w → wpAnyIn (F.inRound l) n P md ops Q fuel listed a w := by
  induction fuel with
  | zero => intro listed a w h; exact h
  | succ fuel ih => intro listed a w h; exact ⟨h.1, fun i hi => wpOpIn_round hro hd (wpOpIn_mono (fun a' w' h' => ih (listed.setIfInBounds i true) a' w' h') (h.2 i hi))⟩
def noDefers (ops : Array Oper) : Bool := ops.toList.all fun o => match o.op with | .defer _ => false | _ => true
theorem noDefers_spec (h : noDefers ops = true) : ∀ (i : Nat) (o : Oper), ops[i]? = some o → ∀ c, o.op ≠ .defer c := by
  intro i o ho c hc
  rw [noDefers, List.all_eq_true] at h
  have h1 := h o (by rw [← Array.getElem?_toList] at ho; exact List.mem_of_getElem? ho)
  rw [hc] at h1
  cases h1
theorem wpIn_region_round {id : Nat} {a : Act} {w : World} (hro : F.round = none) (hm : P.follows .mixedOrders = true) (hd : noDefers ops = true)
    (h : wpAnyIn F n P .any ops Q ops.size (Array.replicate ops.size false) a w.drew) : (Code.region id ops true).wpIn (F.inRound l) n P Q a w :=
  wpIn_region_any hm (wpAnyIn_round hro (noDefers_spec hd) _ _ _ _ h)
end
end Go.Proofs.YtpnlmfilmbodfaaGreatDoor
