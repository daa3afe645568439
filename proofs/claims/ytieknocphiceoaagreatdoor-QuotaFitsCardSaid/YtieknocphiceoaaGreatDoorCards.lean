/-
  DERIVED. GIVEN WITH THE SEED: THE CARDS: each row of YtieknocphiceoaaGreatDoorRows.lean that lists a variable, with what it lists TIED to the program's text (the seventh form; the later family's looks); each row that meets fmt, with fmt's text TOLD by the authors' own Lean function (tested against real Go, not proved from fmt's source: count such statements apart). THE CARD IS WHAT COUNTS. Prove the row's statement (the work); the ties are given (YtieknocphiceoaaGreatDoorTie.lean); close each card by the builder's one call (the guide's Derived/Test/ToyasCard.lean, 'card_holds'). Laid BY PROGRAM, IN A SANDBOX (cutbox-door.mjs). By AI agents, Wed Nov 11 2026. No macro, syntax, notation, axiom, sorry.
-/
import Derived.Test.YtieknocphiceoaaGreatDoorRows
import GoSem.ClaimSeven
namespace Go.Proofs.YtieknocphiceoaaGreatDoor
namespace Rows

/-- THE TIED CARD OF 'aviarylaw13.QuotaFits'. -/
def quotaFitsCard : Claim7 := { stood := { row := quotaFitsRow, standIns := [], harness := (true, "86dc69d3f19983f00d60ba7359cdf34fff15e1ef35f2b376f627b6903a5693b4"), looks := true }, kinds := [], alts := [], laidByText := true, laidKinds := [.data, .handle, .pinned], laidTests := true, laidLooks := .later }
def QuotaFitsCardSaid : Prop := Claim7.holds Tryz.pinned (.plain (OpenSpec.ofChange quotaFitsSpec)) quotaFitsCard

/-- THE TIED CARD OF 'aviarylaw12.SeriesMeant'. -/
def seriesMeantCard : Claim7 := { stood := { row := seriesMeantRow, standIns := [], harness := (true, "86dc69d3f19983f00d60ba7359cdf34fff15e1ef35f2b376f627b6903a5693b4"), looks := true }, kinds := [], alts := [], laidByText := true, laidKinds := [.data, .handle, .pinned], laidTests := true, laidLooks := .later }
def SeriesMeantCardSaid : Prop := Claim7.holds Tryz.pinned (.plain (OpenSpec.ofChange seriesMeantSpec)) seriesMeantCard

/-- THE TIED CARD OF 'aviarylaw15.GrantLends'. -/
def grantLendsCard : Claim7 := { stood := { row := grantLendsRow, standIns := [], harness := (true, "86dc69d3f19983f00d60ba7359cdf34fff15e1ef35f2b376f627b6903a5693b4"), looks := true }, kinds := [], alts := [], laidByText := true, laidKinds := [.data, .handle, .pinned], laidTests := true, laidLooks := .later }
def GrantLendsCardSaid : Prop := Claim7.holds Tryz.pinned (.plain (OpenSpec.ofChange grantLendsSpec)) grantLendsCard

/-- THE SECOND FORM's CARD OF 'aviarylaw13.QuotaFits'. -/
def quotaFitsUptoCard : Claim7 := { stood := { row := quotaFitsUptoRow, standIns := [], harness := (true, "86dc69d3f19983f00d60ba7359cdf34fff15e1ef35f2b376f627b6903a5693b4"), looks := true }, kinds := [], alts := [], laidByText := true, laidKinds := [.data, .handle, .pinned], laidTests := true, laidLooks := .later }
def QuotaFitsUptoCardSaid : Prop := Claim7.holds Tryz.pinned (.plain (OpenSpec.upto quotaFitsSpec)) quotaFitsUptoCard

/-- THE SECOND FORM's CARD OF 'aviarylaw12.SeriesMeant'. -/
def seriesMeantUptoCard : Claim7 := { stood := { row := seriesMeantUptoRow, standIns := [], harness := (true, "86dc69d3f19983f00d60ba7359cdf34fff15e1ef35f2b376f627b6903a5693b4"), looks := true }, kinds := [], alts := [], laidByText := true, laidKinds := [.data, .handle, .pinned], laidTests := true, laidLooks := .later }
def SeriesMeantUptoCardSaid : Prop := Claim7.holds Tryz.pinned (.plain (OpenSpec.upto seriesMeantSpec)) seriesMeantUptoCard

/-- THE SECOND FORM's CARD OF 'aviarylaw15.GrantLends'. -/
def grantLendsUptoCard : Claim7 := { stood := { row := grantLendsUptoRow, standIns := [], harness := (true, "86dc69d3f19983f00d60ba7359cdf34fff15e1ef35f2b376f627b6903a5693b4"), looks := true }, kinds := [], alts := [], laidByText := true, laidKinds := [.data, .handle, .pinned], laidTests := true, laidLooks := .later }
def GrantLendsUptoCardSaid : Prop := Claim7.holds Tryz.pinned (.plain (OpenSpec.upto grantLendsSpec)) grantLendsUptoCard
end Rows
end Go.Proofs.YtieknocphiceoaaGreatDoor
