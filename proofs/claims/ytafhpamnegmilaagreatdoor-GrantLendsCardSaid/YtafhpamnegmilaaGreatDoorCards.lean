/-
  DERIVED. GIVEN WITH THE SEED: THE CARDS: each row of YtafhpamnegmilaaGreatDoorRows.lean that lists a variable, with what it lists TIED to the program's text (the seventh form; the later family's looks); each row that meets fmt, with fmt's text TOLD by the authors' own Lean function (tested against real Go, not proved from fmt's source: count such statements apart). THE CARD IS WHAT COUNTS. Prove the row's statement (the work); the ties are given (YtafhpamnegmilaaGreatDoorTie.lean); close each card by the builder's one call (the guide's Derived/Test/ToyasCard.lean, 'card_holds'). Laid BY PROGRAM, IN A SANDBOX (cutbox-door.mjs). By AI agents, Wed Nov 11 2026. No macro, syntax, notation, axiom, sorry.
-/
import Derived.Test.YtafhpamnegmilaaGreatDoorRows
import GoSem.ClaimSeven
namespace Go.Proofs.YtafhpamnegmilaaGreatDoor
namespace Rows

/-- THE TIED CARD OF 'aviarylaw12.SeriesMeant'. -/
def seriesMeantCard : Claim7 := { stood := { row := seriesMeantRow, standIns := [], harness := (true, "3ce2e2d6d60415648c676f9d1366e1cdc9eaa0c9667d97cc83d1d5ae7693cff3"), looks := true }, kinds := [], alts := [], laidByText := true, laidKinds := [.data, .handle, .pinned], laidTests := true, laidLooks := .later }
def SeriesMeantCardSaid : Prop := Claim7.holds Tryz.pinned (.plain (OpenSpec.ofChange seriesMeantSpec)) seriesMeantCard

/-- THE TIED CARD OF 'aviarylaw15.GrantLends'. -/
def grantLendsCard : Claim7 := { stood := { row := grantLendsRow, standIns := [], harness := (true, "3ce2e2d6d60415648c676f9d1366e1cdc9eaa0c9667d97cc83d1d5ae7693cff3"), looks := true }, kinds := [], alts := [], laidByText := true, laidKinds := [.data, .handle, .pinned], laidTests := true, laidLooks := .later }
def GrantLendsCardSaid : Prop := Claim7.holds Tryz.pinned (.plain (OpenSpec.ofChange grantLendsSpec)) grantLendsCard

/-- THE SECOND FORM's CARD OF 'aviarylaw12.SeriesMeant'. -/
def seriesMeantUptoCard : Claim7 := { stood := { row := seriesMeantUptoRow, standIns := [], harness := (true, "3ce2e2d6d60415648c676f9d1366e1cdc9eaa0c9667d97cc83d1d5ae7693cff3"), looks := true }, kinds := [], alts := [], laidByText := true, laidKinds := [.data, .handle, .pinned], laidTests := true, laidLooks := .later }
def SeriesMeantUptoCardSaid : Prop := Claim7.holds Tryz.pinned (.plain (OpenSpec.upto seriesMeantSpec)) seriesMeantUptoCard

/-- THE SECOND FORM's CARD OF 'aviarylaw15.GrantLends'. -/
def grantLendsUptoCard : Claim7 := { stood := { row := grantLendsUptoRow, standIns := [], harness := (true, "3ce2e2d6d60415648c676f9d1366e1cdc9eaa0c9667d97cc83d1d5ae7693cff3"), looks := true }, kinds := [], alts := [], laidByText := true, laidKinds := [.data, .handle, .pinned], laidTests := true, laidLooks := .later }
def GrantLendsUptoCardSaid : Prop := Claim7.holds Tryz.pinned (.plain (OpenSpec.upto grantLendsSpec)) grantLendsUptoCard
end Rows
end Go.Proofs.YtafhpamnegmilaaGreatDoor
