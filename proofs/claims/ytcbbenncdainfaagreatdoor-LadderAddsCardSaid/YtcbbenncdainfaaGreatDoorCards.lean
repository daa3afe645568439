/-
  DERIVED. GIVEN WITH THE SEED: THE CARDS: each row of YtcbbenncdainfaaGreatDoorRows.lean that lists a variable, with what it lists TIED to the program's text (the seventh form; the later family's looks); each row that meets fmt, with fmt's text TOLD by the authors' own Lean function (tested against real Go, not proved from fmt's source: count such statements apart). THE CARD IS WHAT COUNTS. Prove the row's statement (the work); the ties are given (YtcbbenncdainfaaGreatDoorTie.lean); close each card by the builder's one call (the guide's Derived/Test/ToyasCard.lean, 'card_holds'). Laid BY PROGRAM, IN A SANDBOX (cutbox-door.mjs). By AI agents, Wed Nov 11 2026. No macro, syntax, notation, axiom, sorry.
-/
import Derived.Test.YtcbbenncdainfaaGreatDoorRows
import GoSem.ClaimSeven
namespace Go.Proofs.YtcbbenncdainfaaGreatDoor
namespace Rows

/-- THE TIED CARD OF 'aviarylaw10.LadderMerges'. -/
def ladderMergesCard : Claim7 := { stood := { row := ladderMergesRow, standIns := [], harness := (true, "f5ab470c2ce77c9413c18c40d8a8187db02be1301e659a763ac1f8df9a8eee94"), looks := true }, kinds := [], alts := [], laidByText := true, laidKinds := [.handle], laidTests := true, laidLooks := .later }
def LadderMergesCardSaid : Prop := Claim7.holds Tryz.pinned (.plain (OpenSpec.ofChange ladderMergesSpec)) ladderMergesCard

/-- THE TIED CARD OF 'aviarylaw10.LadderAdds'. -/
def ladderAddsCard : Claim7 := { stood := { row := ladderAddsRow, standIns := [], harness := (true, "f5ab470c2ce77c9413c18c40d8a8187db02be1301e659a763ac1f8df9a8eee94"), looks := true }, kinds := [], alts := [], laidByText := true, laidKinds := [.handle], laidTests := true, laidLooks := .later }
def LadderAddsCardSaid : Prop := Claim7.holds Tryz.pinned (.plain (OpenSpec.ofChange ladderAddsSpec)) ladderAddsCard

/-- THE SECOND FORM's CARD OF 'aviarylaw10.LadderMerges'. -/
def ladderMergesUptoCard : Claim7 := { stood := { row := ladderMergesUptoRow, standIns := [], harness := (true, "f5ab470c2ce77c9413c18c40d8a8187db02be1301e659a763ac1f8df9a8eee94"), looks := true }, kinds := [], alts := [], laidByText := true, laidKinds := [.handle], laidTests := true, laidLooks := .later }
def LadderMergesUptoCardSaid : Prop := Claim7.holds Tryz.pinned (.plain (OpenSpec.upto ladderMergesSpec)) ladderMergesUptoCard

/-- THE SECOND FORM's CARD OF 'aviarylaw10.LadderAdds'. -/
def ladderAddsUptoCard : Claim7 := { stood := { row := ladderAddsUptoRow, standIns := [], harness := (true, "f5ab470c2ce77c9413c18c40d8a8187db02be1301e659a763ac1f8df9a8eee94"), looks := true }, kinds := [], alts := [], laidByText := true, laidKinds := [.handle], laidTests := true, laidLooks := .later }
def LadderAddsUptoCardSaid : Prop := Claim7.holds Tryz.pinned (.plain (OpenSpec.upto ladderAddsSpec)) ladderAddsUptoCard
end Rows
end Go.Proofs.YtcbbenncdainfaaGreatDoor
