/-
  DERIVED. GIVEN WITH THE SEED: THE CARDS: each row of YtpklkhgnjbopnaaGreatDoorRows.lean that lists a variable, with what it lists TIED to the program's text (the seventh form; the later family's looks); each row that meets fmt, with fmt's text TOLD by the authors' own Lean function (tested against real Go, not proved from fmt's source: count such statements apart). THE CARD IS WHAT COUNTS. Prove the row's statement (the work); the ties are given (YtpklkhgnjbopnaaGreatDoorTie.lean); close each card by the builder's one call (the guide's Derived/Test/ToyasCard.lean, 'card_holds'). Laid BY PROGRAM, IN A SANDBOX (cutbox-door.mjs). By AI agents, Wed Nov 11 2026. No macro, syntax, notation, axiom, sorry.
-/
import Derived.Test.YtpklkhgnjbopnaaGreatDoorRows
import GoSem.ClaimSeven
namespace Go.Proofs.YtpklkhgnjbopnaaGreatDoor
namespace Rows

/-- THE TIED CARD OF 'aviarylaw20.WireNone'. -/
def wireNoneCard : Claim7 := { stood := { row := wireNoneRow, standIns := [], harness := (true, "1eee1fa5b2a8975dc428104a4f90b96ff3685de1700f53fff47d1bc04b9bb1c6"), looks := true }, kinds := [], alts := [], laidByText := true, laidKinds := [.data, .handle, .sentinel, .sentinel, .pinned], laidTests := true, laidLooks := .later }
def WireNoneCardSaid : Prop := Claim7.holds Tryz.pinned (.plain (OpenSpec.ofChange wireNoneSpec)) wireNoneCard

/-- THE TIED CARD OF 'aviarylaw20.WireHello'. -/
def wireHelloCard : Claim7 := { stood := { row := wireHelloRow, standIns := [], harness := (true, "1eee1fa5b2a8975dc428104a4f90b96ff3685de1700f53fff47d1bc04b9bb1c6"), looks := true }, kinds := [], alts := [], laidByText := true, laidKinds := [.data, .handle, .sentinel, .sentinel, .pinned], laidTests := true, laidLooks := .later }
def WireHelloCardSaid : Prop := Claim7.holds Tryz.pinned (.plain (OpenSpec.ofChange wireHelloSpec)) wireHelloCard

/-- THE TIED CARD OF 'aviarylaw20.WireCodes'. -/
def wireCodesCard : Claim7 := { stood := { row := wireCodesRow, standIns := [], harness := (true, "1eee1fa5b2a8975dc428104a4f90b96ff3685de1700f53fff47d1bc04b9bb1c6"), looks := true }, kinds := [], alts := [], laidByText := true, laidKinds := [.data, .handle, .sentinel, .sentinel, .pinned], laidTests := true, laidLooks := .later }
def WireCodesCardSaid : Prop := Claim7.holds Tryz.pinned (.plain (OpenSpec.ofChange wireCodesSpec)) wireCodesCard

/-- THE SECOND FORM's CARD OF 'aviarylaw20.WireNone'. -/
def wireNoneUptoCard : Claim7 := { stood := { row := wireNoneUptoRow, standIns := [], harness := (true, "1eee1fa5b2a8975dc428104a4f90b96ff3685de1700f53fff47d1bc04b9bb1c6"), looks := true }, kinds := [], alts := [], laidByText := true, laidKinds := [.data, .handle, .sentinel, .sentinel, .pinned], laidTests := true, laidLooks := .later }
def WireNoneUptoCardSaid : Prop := Claim7.holds Tryz.pinned (.plain (OpenSpec.upto wireNoneSpec)) wireNoneUptoCard

/-- THE SECOND FORM's CARD OF 'aviarylaw20.WireHello'. -/
def wireHelloUptoCard : Claim7 := { stood := { row := wireHelloUptoRow, standIns := [], harness := (true, "1eee1fa5b2a8975dc428104a4f90b96ff3685de1700f53fff47d1bc04b9bb1c6"), looks := true }, kinds := [], alts := [], laidByText := true, laidKinds := [.data, .handle, .sentinel, .sentinel, .pinned], laidTests := true, laidLooks := .later }
def WireHelloUptoCardSaid : Prop := Claim7.holds Tryz.pinned (.plain (OpenSpec.upto wireHelloSpec)) wireHelloUptoCard

/-- THE SECOND FORM's CARD OF 'aviarylaw20.WireCodes'. -/
def wireCodesUptoCard : Claim7 := { stood := { row := wireCodesUptoRow, standIns := [], harness := (true, "1eee1fa5b2a8975dc428104a4f90b96ff3685de1700f53fff47d1bc04b9bb1c6"), looks := true }, kinds := [], alts := [], laidByText := true, laidKinds := [.data, .handle, .sentinel, .sentinel, .pinned], laidTests := true, laidLooks := .later }
def WireCodesUptoCardSaid : Prop := Claim7.holds Tryz.pinned (.plain (OpenSpec.upto wireCodesSpec)) wireCodesUptoCard
end Rows
end Go.Proofs.YtpklkhgnjbopnaaGreatDoor
