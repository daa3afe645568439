/-
  DERIVED. GIVEN WITH THE SEED: THE CARDS: each row of YthbhmnakmhambaaGreatDoorRows.lean that lists a variable, with what it lists TIED to the program's text (the seventh form; the later family's looks); each row that meets fmt, with fmt's text TOLD by the authors' own Lean function (tested against real Go, not proved from fmt's source: count such statements apart). THE CARD IS WHAT COUNTS. Prove the row's statement (the work); the ties are given (YthbhmnakmhambaaGreatDoorTie.lean); close each card by the builder's one call (the guide's Derived/Test/ToyasCard.lean, 'card_holds'). Laid BY PROGRAM, IN A SANDBOX (cutbox-door.mjs). By AI agents, Wed Nov 11 2026. No macro, syntax, notation, axiom, sorry.
-/
import Derived.Test.YthbhmnakmhambaaGreatDoorRows
import GoSem.ClaimSeven
namespace Go.Proofs.YthbhmnakmhambaaGreatDoor
namespace Rows

/-- THE TIED CARD OF 'aviarylaw13.QuotaVictims'. -/
def quotaVictimsCard : Claim7 := { stood := { row := quotaVictimsRow, standIns := [], harness := (true, "fbb2b81a63c5d25ed9ace2c0676aa045e25b4dc088d630bcc84564e175f8df7f"), looks := true }, kinds := [], alts := [], laidByText := true, laidKinds := [.data, .handle, .pinned], laidTests := true, laidLooks := .later }
def QuotaVictimsCardSaid : Prop := Claim7.holds Tryz.pinned (.plain (OpenSpec.ofChange quotaVictimsSpec)) quotaVictimsCard

/-- THE TIED CARD OF 'aviarylaw15.GrantAll'. -/
def grantAllCard : Claim7 := { stood := { row := grantAllRow, standIns := [], harness := (true, "fbb2b81a63c5d25ed9ace2c0676aa045e25b4dc088d630bcc84564e175f8df7f"), looks := true }, kinds := [], alts := [], laidByText := true, laidKinds := [.data, .handle, .pinned], laidTests := true, laidLooks := .later }
def GrantAllCardSaid : Prop := Claim7.holds Tryz.pinned (.plain (OpenSpec.ofChange grantAllSpec)) grantAllCard

/-- THE TIED CARD OF 'aviarylaw15.GrantHides'. -/
def grantHidesCard : Claim7 := { stood := { row := grantHidesRow, standIns := [], harness := (true, "fbb2b81a63c5d25ed9ace2c0676aa045e25b4dc088d630bcc84564e175f8df7f"), looks := true }, kinds := [], alts := [], laidByText := true, laidKinds := [.data, .handle, .pinned], laidTests := true, laidLooks := .later }
def GrantHidesCardSaid : Prop := Claim7.holds Tryz.pinned (.plain (OpenSpec.ofChange grantHidesSpec)) grantHidesCard

/-- THE TIED CARD OF 'aviarylaw12.SeriesParts'. -/
def seriesPartsCard : Claim7 := { stood := { row := seriesPartsRow, standIns := [], harness := (true, "fbb2b81a63c5d25ed9ace2c0676aa045e25b4dc088d630bcc84564e175f8df7f"), looks := true }, kinds := [], alts := [], laidByText := true, laidKinds := [.data, .handle, .pinned], laidTests := true, laidLooks := .later }
def SeriesPartsCardSaid : Prop := Claim7.holds Tryz.pinned (.plain (OpenSpec.ofChange seriesPartsSpec)) seriesPartsCard

/-- THE SECOND FORM's CARD OF 'aviarylaw13.QuotaVictims'. -/
def quotaVictimsUptoCard : Claim7 := { stood := { row := quotaVictimsUptoRow, standIns := [], harness := (true, "fbb2b81a63c5d25ed9ace2c0676aa045e25b4dc088d630bcc84564e175f8df7f"), looks := true }, kinds := [], alts := [], laidByText := true, laidKinds := [.data, .handle, .pinned], laidTests := true, laidLooks := .later }
def QuotaVictimsUptoCardSaid : Prop := Claim7.holds Tryz.pinned (.plain (OpenSpec.upto quotaVictimsSpec)) quotaVictimsUptoCard

/-- THE SECOND FORM's CARD OF 'aviarylaw15.GrantAll'. -/
def grantAllUptoCard : Claim7 := { stood := { row := grantAllUptoRow, standIns := [], harness := (true, "fbb2b81a63c5d25ed9ace2c0676aa045e25b4dc088d630bcc84564e175f8df7f"), looks := true }, kinds := [], alts := [], laidByText := true, laidKinds := [.data, .handle, .pinned], laidTests := true, laidLooks := .later }
def GrantAllUptoCardSaid : Prop := Claim7.holds Tryz.pinned (.plain (OpenSpec.upto grantAllSpec)) grantAllUptoCard

/-- THE SECOND FORM's CARD OF 'aviarylaw15.GrantHides'. -/
def grantHidesUptoCard : Claim7 := { stood := { row := grantHidesUptoRow, standIns := [], harness := (true, "fbb2b81a63c5d25ed9ace2c0676aa045e25b4dc088d630bcc84564e175f8df7f"), looks := true }, kinds := [], alts := [], laidByText := true, laidKinds := [.data, .handle, .pinned], laidTests := true, laidLooks := .later }
def GrantHidesUptoCardSaid : Prop := Claim7.holds Tryz.pinned (.plain (OpenSpec.upto grantHidesSpec)) grantHidesUptoCard

/-- THE SECOND FORM's CARD OF 'aviarylaw12.SeriesParts'. -/
def seriesPartsUptoCard : Claim7 := { stood := { row := seriesPartsUptoRow, standIns := [], harness := (true, "fbb2b81a63c5d25ed9ace2c0676aa045e25b4dc088d630bcc84564e175f8df7f"), looks := true }, kinds := [], alts := [], laidByText := true, laidKinds := [.data, .handle, .pinned], laidTests := true, laidLooks := .later }
def SeriesPartsUptoCardSaid : Prop := Claim7.holds Tryz.pinned (.plain (OpenSpec.upto seriesPartsSpec)) seriesPartsUptoCard
end Rows
end Go.Proofs.YthbhmnakmhambaaGreatDoor
