/-
  DERIVED. GIVEN WITH THE SEED: THE CARDS: each row of YtlmlcadcdhhlcaaGreatDoorRows.lean that lists a variable, with what it lists TIED to the program's text (the seventh form; the later family's looks); each row that meets fmt, with fmt's text TOLD by the authors' own Lean function (tested against real Go, not proved from fmt's source: count such statements apart). THE CARD IS WHAT COUNTS. Prove the row's statement (the work); the ties are given (YtlmlcadcdhhlcaaGreatDoorTie.lean); close each card by the builder's one call (the guide's Derived/Test/ToyasCard.lean, 'card_holds'). Laid BY PROGRAM, IN A SANDBOX (cutbox-door.mjs). By AI agents, Wed Nov 11 2026. No macro, syntax, notation, axiom, sorry.
-/
import Derived.Test.YtlmlcadcdhhlcaaGreatDoorRows
import GoSem.ClaimSeven
namespace Go.Proofs.YtlmlcadcdhhlcaaGreatDoor
namespace Rows

/-- THE TIED CARD OF 'aviarylaw20.WireNone'. -/
def wireNoneCard : Claim7 := { stood := { row := wireNoneRow, standIns := [], harness := (true, "e883660ee80a717eff5395b76e9efda17b847569b4817490ba1120922bcf2794"), looks := true }, kinds := [], alts := [], laidByText := true, laidKinds := [.data, .handle, .sentinel, .sentinel, .pinned], laidTests := true, laidLooks := .later }
def WireNoneCardSaid : Prop := Claim7.holds Tryz.pinned (.plain (OpenSpec.ofChange wireNoneSpec)) wireNoneCard

/-- THE TIED CARD OF 'aviarylaw20.WireBack'. -/
def wireBackCard : Claim7 := { stood := { row := wireBackRow, standIns := [], harness := (true, "e883660ee80a717eff5395b76e9efda17b847569b4817490ba1120922bcf2794"), looks := true }, kinds := [], alts := [], laidByText := true, laidKinds := [.data, .handle, .sentinel, .sentinel, .pinned], laidTests := true, laidLooks := .later }
def WireBackCardSaid : Prop := Claim7.holds Tryz.pinned (.plain (OpenSpec.ofChange wireBackSpec)) wireBackCard

/-- THE TIED CARD OF 'aviarylaw20.WireHello'. -/
def wireHelloCard : Claim7 := { stood := { row := wireHelloRow, standIns := [], harness := (true, "e883660ee80a717eff5395b76e9efda17b847569b4817490ba1120922bcf2794"), looks := true }, kinds := [], alts := [], laidByText := true, laidKinds := [.data, .handle, .sentinel, .sentinel, .pinned], laidTests := true, laidLooks := .later }
def WireHelloCardSaid : Prop := Claim7.holds Tryz.pinned (.plain (OpenSpec.ofChange wireHelloSpec)) wireHelloCard

/-- THE SECOND FORM's CARD OF 'aviarylaw20.WireNone'. -/
def wireNoneUptoCard : Claim7 := { stood := { row := wireNoneUptoRow, standIns := [], harness := (true, "e883660ee80a717eff5395b76e9efda17b847569b4817490ba1120922bcf2794"), looks := true }, kinds := [], alts := [], laidByText := true, laidKinds := [.data, .handle, .sentinel, .sentinel, .pinned], laidTests := true, laidLooks := .later }
def WireNoneUptoCardSaid : Prop := Claim7.holds Tryz.pinned (.plain (OpenSpec.upto wireNoneSpec)) wireNoneUptoCard

/-- THE SECOND FORM's CARD OF 'aviarylaw20.WireBack'. -/
def wireBackUptoCard : Claim7 := { stood := { row := wireBackUptoRow, standIns := [], harness := (true, "e883660ee80a717eff5395b76e9efda17b847569b4817490ba1120922bcf2794"), looks := true }, kinds := [], alts := [], laidByText := true, laidKinds := [.data, .handle, .sentinel, .sentinel, .pinned], laidTests := true, laidLooks := .later }
def WireBackUptoCardSaid : Prop := Claim7.holds Tryz.pinned (.plain (OpenSpec.upto wireBackSpec)) wireBackUptoCard

/-- THE SECOND FORM's CARD OF 'aviarylaw20.WireHello'. -/
def wireHelloUptoCard : Claim7 := { stood := { row := wireHelloUptoRow, standIns := [], harness := (true, "e883660ee80a717eff5395b76e9efda17b847569b4817490ba1120922bcf2794"), looks := true }, kinds := [], alts := [], laidByText := true, laidKinds := [.data, .handle, .sentinel, .sentinel, .pinned], laidTests := true, laidLooks := .later }
def WireHelloUptoCardSaid : Prop := Claim7.holds Tryz.pinned (.plain (OpenSpec.upto wireHelloSpec)) wireHelloUptoCard
end Rows
end Go.Proofs.YtlmlcadcdhhlcaaGreatDoor
