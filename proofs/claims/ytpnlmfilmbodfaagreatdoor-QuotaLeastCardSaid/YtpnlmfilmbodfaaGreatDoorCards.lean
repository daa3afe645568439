/-
  DERIVED. GIVEN WITH THE SEED: THE CARDS: each row of YtpnlmfilmbodfaaGreatDoorRows.lean that lists a variable, with what it lists TIED to the program's text (the seventh form; the later family's looks); each row that meets fmt, with fmt's text TOLD by the authors' own Lean function (tested against real Go, not proved from fmt's source: count such statements apart). THE CARD IS WHAT COUNTS. Prove the row's statement (the work); the ties are given (YtpnlmfilmbodfaaGreatDoorTie.lean); close each card by the builder's one call (the guide's Derived/Test/ToyasCard.lean, 'card_holds'). Laid BY PROGRAM, IN A SANDBOX (cutbox-door.mjs). By AI agents, Wed Nov 11 2026. No macro, syntax, notation, axiom, sorry.
-/
import Derived.Test.YtpnlmfilmbodfaaGreatDoorRows
import GoSem.ClaimSeven
namespace Go.Proofs.YtpnlmfilmbodfaaGreatDoor
namespace Rows

/-- THE TIED CARD OF 'aviarylaw10.LadderMerges'. -/
def ladderMergesCard : Claim7 := { stood := { row := ladderMergesRow, standIns := [], harness := (true, "d5d121469265d5d5e9c975c3c767eefcefbe800056b7313b82192310734a80dc"), looks := true }, kinds := [], alts := [], laidByText := true, laidKinds := [.handle], laidTests := true, laidLooks := .later }
def LadderMergesCardSaid : Prop := Claim7.holds Tryz.pinned (.plain (OpenSpec.ofChange ladderMergesSpec)) ladderMergesCard

/-- THE TIED CARD OF 'aviarylaw10.LadderAdds'. -/
def ladderAddsCard : Claim7 := { stood := { row := ladderAddsRow, standIns := [], harness := (true, "d5d121469265d5d5e9c975c3c767eefcefbe800056b7313b82192310734a80dc"), looks := true }, kinds := [], alts := [], laidByText := true, laidKinds := [.handle], laidTests := true, laidLooks := .later }
def LadderAddsCardSaid : Prop := Claim7.holds Tryz.pinned (.plain (OpenSpec.ofChange ladderAddsSpec)) ladderAddsCard

/-- THE TIED CARD OF 'aviarylaw11.CodeMerges'. -/
def codeMergesCard : Claim7 := { stood := { row := codeMergesRow, standIns := [], harness := (true, "d5d121469265d5d5e9c975c3c767eefcefbe800056b7313b82192310734a80dc"), looks := true }, kinds := [], alts := [], laidByText := true, laidKinds := [.handle, .sentinel, .sentinel, .sentinel, .sentinel], laidTests := true, laidLooks := .later }
def CodeMergesCardSaid : Prop := Claim7.holds Tryz.pinned (.plain (OpenSpec.ofChange codeMergesSpec)) codeMergesCard

/-- THE TIED CARD OF 'aviarylaw13.QuotaVictims'. -/
def quotaVictimsCard : Claim7 := { stood := { row := quotaVictimsRow, standIns := [], harness := (true, "d5d121469265d5d5e9c975c3c767eefcefbe800056b7313b82192310734a80dc"), looks := true }, kinds := [], alts := [], laidByText := true, laidKinds := [.data, .handle, .pinned], laidTests := true, laidLooks := .later }
def QuotaVictimsCardSaid : Prop := Claim7.holds Tryz.pinned (.plain (OpenSpec.ofChange quotaVictimsSpec)) quotaVictimsCard

/-- THE TIED CARD OF 'aviarylaw13.QuotaMore'. -/
def quotaMoreCard : Claim7 := { stood := { row := quotaMoreRow, standIns := [], harness := (true, "d5d121469265d5d5e9c975c3c767eefcefbe800056b7313b82192310734a80dc"), looks := true }, kinds := [], alts := [], laidByText := true, laidKinds := [.data, .handle, .pinned], laidTests := true, laidLooks := .later }
def QuotaMoreCardSaid : Prop := Claim7.holds Tryz.pinned (.plain (OpenSpec.ofChange quotaMoreSpec)) quotaMoreCard

/-- THE TIED CARD OF 'aviarylaw13.QuotaTwice'. -/
def quotaTwiceCard : Claim7 := { stood := { row := quotaTwiceRow, standIns := [], harness := (true, "d5d121469265d5d5e9c975c3c767eefcefbe800056b7313b82192310734a80dc"), looks := true }, kinds := [], alts := [], laidByText := true, laidKinds := [.data, .handle, .pinned], laidTests := true, laidLooks := .later }
def QuotaTwiceCardSaid : Prop := Claim7.holds Tryz.pinned (.plain (OpenSpec.ofChange quotaTwiceSpec)) quotaTwiceCard

/-- THE TIED CARD OF 'aviarylaw13.QuotaBound'. -/
def quotaBoundCard : Claim7 := { stood := { row := quotaBoundRow, standIns := [], harness := (true, "d5d121469265d5d5e9c975c3c767eefcefbe800056b7313b82192310734a80dc"), looks := true }, kinds := [], alts := [], laidByText := true, laidKinds := [.data, .handle, .pinned], laidTests := true, laidLooks := .later }
def QuotaBoundCardSaid : Prop := Claim7.holds Tryz.pinned (.plain (OpenSpec.ofChange quotaBoundSpec)) quotaBoundCard

/-- THE TIED CARD OF 'aviarylaw13.QuotaSteps'. -/
def quotaStepsCard : Claim7 := { stood := { row := quotaStepsRow, standIns := [], harness := (true, "d5d121469265d5d5e9c975c3c767eefcefbe800056b7313b82192310734a80dc"), looks := true }, kinds := [], alts := [], laidByText := true, laidKinds := [.data, .handle, .pinned], laidTests := true, laidLooks := .later }
def QuotaStepsCardSaid : Prop := Claim7.holds Tryz.pinned (.plain (OpenSpec.ofChange quotaStepsSpec)) quotaStepsCard

/-- THE TIED CARD OF 'aviarylaw13.QuotaLeast'. -/
def quotaLeastCard : Claim7 := { stood := { row := quotaLeastRow, standIns := [], harness := (true, "d5d121469265d5d5e9c975c3c767eefcefbe800056b7313b82192310734a80dc"), looks := true }, kinds := [], alts := [], laidByText := true, laidKinds := [.data, .handle, .pinned], laidTests := true, laidLooks := .later }
def QuotaLeastCardSaid : Prop := Claim7.holds Tryz.pinned (.plain (OpenSpec.ofChange quotaLeastSpec)) quotaLeastCard

/-- THE TIED CARD OF 'aviarylaw13.QuotaFits'. -/
def quotaFitsCard : Claim7 := { stood := { row := quotaFitsRow, standIns := [], harness := (true, "d5d121469265d5d5e9c975c3c767eefcefbe800056b7313b82192310734a80dc"), looks := true }, kinds := [], alts := [], laidByText := true, laidKinds := [.data, .handle, .pinned], laidTests := true, laidLooks := .later }
def QuotaFitsCardSaid : Prop := Claim7.holds Tryz.pinned (.plain (OpenSpec.ofChange quotaFitsSpec)) quotaFitsCard

/-- THE TIED CARD OF 'aviarylaw12.SeriesParts'. -/
def seriesPartsCard : Claim7 := { stood := { row := seriesPartsRow, standIns := [], harness := (true, "d5d121469265d5d5e9c975c3c767eefcefbe800056b7313b82192310734a80dc"), looks := true }, kinds := [], alts := [], laidByText := true, laidKinds := [.data, .handle, .pinned], laidTests := true, laidLooks := .later }
def SeriesPartsCardSaid : Prop := Claim7.holds Tryz.pinned (.plain (OpenSpec.ofChange seriesPartsSpec)) seriesPartsCard

/-- THE TIED CARD OF 'aviarylaw12.SeriesMeant'. -/
def seriesMeantCard : Claim7 := { stood := { row := seriesMeantRow, standIns := [], harness := (true, "d5d121469265d5d5e9c975c3c767eefcefbe800056b7313b82192310734a80dc"), looks := true }, kinds := [], alts := [], laidByText := true, laidKinds := [.data, .handle, .pinned], laidTests := true, laidLooks := .later }
def SeriesMeantCardSaid : Prop := Claim7.holds Tryz.pinned (.plain (OpenSpec.ofChange seriesMeantSpec)) seriesMeantCard

/-- THE SECOND FORM's CARD OF 'aviarylaw10.LadderMerges'. -/
def ladderMergesUptoCard : Claim7 := { stood := { row := ladderMergesUptoRow, standIns := [], harness := (true, "d5d121469265d5d5e9c975c3c767eefcefbe800056b7313b82192310734a80dc"), looks := true }, kinds := [], alts := [], laidByText := true, laidKinds := [.handle], laidTests := true, laidLooks := .later }
def LadderMergesUptoCardSaid : Prop := Claim7.holds Tryz.pinned (.plain (OpenSpec.upto ladderMergesSpec)) ladderMergesUptoCard

/-- THE SECOND FORM's CARD OF 'aviarylaw10.LadderAdds'. -/
def ladderAddsUptoCard : Claim7 := { stood := { row := ladderAddsUptoRow, standIns := [], harness := (true, "d5d121469265d5d5e9c975c3c767eefcefbe800056b7313b82192310734a80dc"), looks := true }, kinds := [], alts := [], laidByText := true, laidKinds := [.handle], laidTests := true, laidLooks := .later }
def LadderAddsUptoCardSaid : Prop := Claim7.holds Tryz.pinned (.plain (OpenSpec.upto ladderAddsSpec)) ladderAddsUptoCard

/-- THE SECOND FORM's CARD OF 'aviarylaw11.CodeMerges'. -/
def codeMergesUptoCard : Claim7 := { stood := { row := codeMergesUptoRow, standIns := [], harness := (true, "d5d121469265d5d5e9c975c3c767eefcefbe800056b7313b82192310734a80dc"), looks := true }, kinds := [], alts := [], laidByText := true, laidKinds := [.handle, .sentinel, .sentinel, .sentinel, .sentinel], laidTests := true, laidLooks := .later }
def CodeMergesUptoCardSaid : Prop := Claim7.holds Tryz.pinned (.plain (OpenSpec.upto codeMergesSpec)) codeMergesUptoCard

/-- THE SECOND FORM's CARD OF 'aviarylaw13.QuotaVictims'. -/
def quotaVictimsUptoCard : Claim7 := { stood := { row := quotaVictimsUptoRow, standIns := [], harness := (true, "d5d121469265d5d5e9c975c3c767eefcefbe800056b7313b82192310734a80dc"), looks := true }, kinds := [], alts := [], laidByText := true, laidKinds := [.data, .handle, .pinned], laidTests := true, laidLooks := .later }
def QuotaVictimsUptoCardSaid : Prop := Claim7.holds Tryz.pinned (.plain (OpenSpec.upto quotaVictimsSpec)) quotaVictimsUptoCard

/-- THE SECOND FORM's CARD OF 'aviarylaw13.QuotaMore'. -/
def quotaMoreUptoCard : Claim7 := { stood := { row := quotaMoreUptoRow, standIns := [], harness := (true, "d5d121469265d5d5e9c975c3c767eefcefbe800056b7313b82192310734a80dc"), looks := true }, kinds := [], alts := [], laidByText := true, laidKinds := [.data, .handle, .pinned], laidTests := true, laidLooks := .later }
def QuotaMoreUptoCardSaid : Prop := Claim7.holds Tryz.pinned (.plain (OpenSpec.upto quotaMoreSpec)) quotaMoreUptoCard

/-- THE SECOND FORM's CARD OF 'aviarylaw13.QuotaTwice'. -/
def quotaTwiceUptoCard : Claim7 := { stood := { row := quotaTwiceUptoRow, standIns := [], harness := (true, "d5d121469265d5d5e9c975c3c767eefcefbe800056b7313b82192310734a80dc"), looks := true }, kinds := [], alts := [], laidByText := true, laidKinds := [.data, .handle, .pinned], laidTests := true, laidLooks := .later }
def QuotaTwiceUptoCardSaid : Prop := Claim7.holds Tryz.pinned (.plain (OpenSpec.upto quotaTwiceSpec)) quotaTwiceUptoCard

/-- THE SECOND FORM's CARD OF 'aviarylaw13.QuotaBound'. -/
def quotaBoundUptoCard : Claim7 := { stood := { row := quotaBoundUptoRow, standIns := [], harness := (true, "d5d121469265d5d5e9c975c3c767eefcefbe800056b7313b82192310734a80dc"), looks := true }, kinds := [], alts := [], laidByText := true, laidKinds := [.data, .handle, .pinned], laidTests := true, laidLooks := .later }
def QuotaBoundUptoCardSaid : Prop := Claim7.holds Tryz.pinned (.plain (OpenSpec.upto quotaBoundSpec)) quotaBoundUptoCard

/-- THE SECOND FORM's CARD OF 'aviarylaw13.QuotaSteps'. -/
def quotaStepsUptoCard : Claim7 := { stood := { row := quotaStepsUptoRow, standIns := [], harness := (true, "d5d121469265d5d5e9c975c3c767eefcefbe800056b7313b82192310734a80dc"), looks := true }, kinds := [], alts := [], laidByText := true, laidKinds := [.data, .handle, .pinned], laidTests := true, laidLooks := .later }
def QuotaStepsUptoCardSaid : Prop := Claim7.holds Tryz.pinned (.plain (OpenSpec.upto quotaStepsSpec)) quotaStepsUptoCard

/-- THE SECOND FORM's CARD OF 'aviarylaw13.QuotaLeast'. -/
def quotaLeastUptoCard : Claim7 := { stood := { row := quotaLeastUptoRow, standIns := [], harness := (true, "d5d121469265d5d5e9c975c3c767eefcefbe800056b7313b82192310734a80dc"), looks := true }, kinds := [], alts := [], laidByText := true, laidKinds := [.data, .handle, .pinned], laidTests := true, laidLooks := .later }
def QuotaLeastUptoCardSaid : Prop := Claim7.holds Tryz.pinned (.plain (OpenSpec.upto quotaLeastSpec)) quotaLeastUptoCard

/-- THE SECOND FORM's CARD OF 'aviarylaw13.QuotaFits'. -/
def quotaFitsUptoCard : Claim7 := { stood := { row := quotaFitsUptoRow, standIns := [], harness := (true, "d5d121469265d5d5e9c975c3c767eefcefbe800056b7313b82192310734a80dc"), looks := true }, kinds := [], alts := [], laidByText := true, laidKinds := [.data, .handle, .pinned], laidTests := true, laidLooks := .later }
def QuotaFitsUptoCardSaid : Prop := Claim7.holds Tryz.pinned (.plain (OpenSpec.upto quotaFitsSpec)) quotaFitsUptoCard

/-- THE SECOND FORM's CARD OF 'aviarylaw12.SeriesParts'. -/
def seriesPartsUptoCard : Claim7 := { stood := { row := seriesPartsUptoRow, standIns := [], harness := (true, "d5d121469265d5d5e9c975c3c767eefcefbe800056b7313b82192310734a80dc"), looks := true }, kinds := [], alts := [], laidByText := true, laidKinds := [.data, .handle, .pinned], laidTests := true, laidLooks := .later }
def SeriesPartsUptoCardSaid : Prop := Claim7.holds Tryz.pinned (.plain (OpenSpec.upto seriesPartsSpec)) seriesPartsUptoCard

/-- THE SECOND FORM's CARD OF 'aviarylaw12.SeriesMeant'. -/
def seriesMeantUptoCard : Claim7 := { stood := { row := seriesMeantUptoRow, standIns := [], harness := (true, "d5d121469265d5d5e9c975c3c767eefcefbe800056b7313b82192310734a80dc"), looks := true }, kinds := [], alts := [], laidByText := true, laidKinds := [.data, .handle, .pinned], laidTests := true, laidLooks := .later }
def SeriesMeantUptoCardSaid : Prop := Claim7.holds Tryz.pinned (.plain (OpenSpec.upto seriesMeantSpec)) seriesMeantUptoCard
end Rows
end Go.Proofs.YtpnlmfilmbodfaaGreatDoor
