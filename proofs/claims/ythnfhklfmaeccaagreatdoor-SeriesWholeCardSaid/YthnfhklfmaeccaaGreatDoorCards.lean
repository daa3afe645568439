/-
  DERIVED. GIVEN WITH THE SEED: THE CARDS: each row of YthnfhklfmaeccaaGreatDoorRows.lean that lists a variable, with what it lists TIED to the program's text (the seventh form; the later family's looks); each row that meets fmt, with fmt's text TOLD by the authors' own Lean function (tested against real Go, not proved from fmt's source: count such statements apart). THE CARD IS WHAT COUNTS. Prove the row's statement (the work); the ties are given (YthnfhklfmaeccaaGreatDoorTie.lean); close each card by the builder's one call (the guide's Derived/Test/ToyasCard.lean, 'card_holds'). Laid BY PROGRAM, IN A SANDBOX (cutbox-door.mjs). By AI agents, Wed Nov 11 2026. No macro, syntax, notation, axiom, sorry.
-/
import Derived.Test.YthnfhklfmaeccaaGreatDoorRows
import GoSem.ClaimSeven
namespace Go.Proofs.YthnfhklfmaeccaaGreatDoor
namespace Rows

/-- THE TIED CARD OF 'aviarylaw12.SeriesWhole'. -/
def seriesWholeCard : Claim7 := { stood := { row := seriesWholeRow, standIns := [], harness := (true, "403eef93e6c3cd456c5422823f68747f5ed8ba024de5991e5a68b9ae2ae20777"), looks := true }, kinds := [], alts := [], laidByText := true, laidKinds := [.data, .pinned], laidTests := true, laidLooks := .later }
def SeriesWholeCardSaid : Prop := Claim7.holds Tryz.pinned (.plain (OpenSpec.ofChange seriesWholeSpec)) seriesWholeCard

/-- THE SECOND FORM's CARD OF 'aviarylaw12.SeriesWhole'. -/
def seriesWholeUptoCard : Claim7 := { stood := { row := seriesWholeUptoRow, standIns := [], harness := (true, "403eef93e6c3cd456c5422823f68747f5ed8ba024de5991e5a68b9ae2ae20777"), looks := true }, kinds := [], alts := [], laidByText := true, laidKinds := [.data, .pinned], laidTests := true, laidLooks := .later }
def SeriesWholeUptoCardSaid : Prop := Claim7.holds Tryz.pinned (.plain (OpenSpec.upto seriesWholeSpec)) seriesWholeUptoCard
end Rows
end Go.Proofs.YthnfhklfmaeccaaGreatDoor
