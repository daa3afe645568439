/-
  DERIVED. GIVEN WITH THE SEED: THE CARDS: each row of YtnmgfdkacibinaaDoorRows.lean that lists a variable, with what it lists TIED to the program's text (the seventh form; the later family's looks); each row that meets fmt, with fmt's text TOLD by the authors' own Lean function (tested against real Go, not proved from fmt's source: count such statements apart). THE CARD IS WHAT COUNTS. Prove the row's statement (the work); the ties are given (YtnmgfdkacibinaaDoorTie.lean); close each card by the builder's one call (the guide's Derived/Test/ToyasCard.lean, 'card_holds'). Laid BY PROGRAM, IN A SANDBOX (cutbox-door.mjs). By AI agents, Wed Nov 11 2026. No macro, syntax, notation, axiom, sorry.
-/
import Derived.Test.YtnmgfdkacibinaaDoorRows
import GoSem.ClaimSeven
namespace Go.Proofs.YtnmgfdkacibinaaDoor
namespace Rows

/-- THE TIED CARD OF 'aviarylaw11.CodeBack'. -/
def codeBackCard : Claim7 := { stood := { row := codeBackRow, standIns := [], harness := (true, "335e66adb6d044af250a179c274f1195627546bd5c1c3cbdc3312438c2bf96b7"), looks := true }, kinds := [], alts := [], laidByText := true, laidKinds := [.sentinel, .sentinel, .sentinel, .sentinel], laidTests := true, laidLooks := .later }
def CodeBackCardSaid : Prop := Claim7.holds Tryd.pinned (.plain (OpenSpec.ofChange codeBackSpec)) codeBackCard

/-- THE TIED CARD OF 'aviarylaw11.CodeApart'. -/
def codeApartCard : Claim7 := { stood := { row := codeApartRow, standIns := [], harness := (true, "335e66adb6d044af250a179c274f1195627546bd5c1c3cbdc3312438c2bf96b7"), looks := true }, kinds := [], alts := [], laidByText := true, laidKinds := [.sentinel, .sentinel, .sentinel, .sentinel], laidTests := true, laidLooks := .later }
def CodeApartCardSaid : Prop := Claim7.holds Tryd.pinned (.plain (OpenSpec.ofChange codeApartSpec)) codeApartCard

/-- THE TIED CARD OF 'aviarylaw12.SeriesCosts'. -/
def seriesCostsCard : Claim7 := { stood := { row := seriesCostsRow, standIns := [], harness := (true, "335e66adb6d044af250a179c274f1195627546bd5c1c3cbdc3312438c2bf96b7"), looks := true }, kinds := [], alts := [], laidByText := true, laidKinds := [.data, .pinned], laidTests := true, laidLooks := .later }
def SeriesCostsCardSaid : Prop := Claim7.holds Tryd.pinned (.plain (OpenSpec.ofChange seriesCostsSpec)) seriesCostsCard

/-- THE TIED CARD OF 'aviarylaw12.SeriesOwn'. -/
def seriesOwnCard : Claim7 := { stood := { row := seriesOwnRow, standIns := [], harness := (true, "335e66adb6d044af250a179c274f1195627546bd5c1c3cbdc3312438c2bf96b7"), looks := true }, kinds := [], alts := [], laidByText := true, laidKinds := [.data, .pinned], laidTests := true, laidLooks := .later }
def SeriesOwnCardSaid : Prop := Claim7.holds Tryd.pinned (.plain (OpenSpec.ofChange seriesOwnSpec)) seriesOwnCard

/-- THE TIED CARD OF 'aviarylaw11.CodeSizes'. -/
def codeSizesCard : Claim7 := { stood := { row := codeSizesRow, standIns := [], harness := (true, "335e66adb6d044af250a179c274f1195627546bd5c1c3cbdc3312438c2bf96b7"), looks := true }, kinds := [], alts := [], laidByText := true, laidKinds := [.sentinel, .sentinel, .sentinel, .sentinel], laidTests := true, laidLooks := .later }
def CodeSizesCardSaid : Prop := Claim7.holds Tryd.pinned (.plain (OpenSpec.ofChange codeSizesSpec)) codeSizesCard

/-- THE TIED CARD OF 'aviarylaw12.SeriesOrders'. -/
def seriesOrdersCard : Claim7 := { stood := { row := seriesOrdersRow, standIns := [], harness := (true, "335e66adb6d044af250a179c274f1195627546bd5c1c3cbdc3312438c2bf96b7"), looks := true }, kinds := [], alts := [], laidByText := true, laidKinds := [.data, .pinned], laidTests := true, laidLooks := .later }
def SeriesOrdersCardSaid : Prop := Claim7.holds Tryd.pinned (.plain (OpenSpec.ofChange seriesOrdersSpec)) seriesOrdersCard

/-- THE SECOND FORM's CARD OF 'aviarylaw11.CodeBack'. -/
def codeBackUptoCard : Claim7 := { stood := { row := codeBackUptoRow, standIns := [], harness := (true, "335e66adb6d044af250a179c274f1195627546bd5c1c3cbdc3312438c2bf96b7"), looks := true }, kinds := [], alts := [], laidByText := true, laidKinds := [.sentinel, .sentinel, .sentinel, .sentinel], laidTests := true, laidLooks := .later }
def CodeBackUptoCardSaid : Prop := Claim7.holds Tryd.pinned (.plain (OpenSpec.upto codeBackSpec)) codeBackUptoCard

/-- THE SECOND FORM's CARD OF 'aviarylaw11.CodeApart'. -/
def codeApartUptoCard : Claim7 := { stood := { row := codeApartUptoRow, standIns := [], harness := (true, "335e66adb6d044af250a179c274f1195627546bd5c1c3cbdc3312438c2bf96b7"), looks := true }, kinds := [], alts := [], laidByText := true, laidKinds := [.sentinel, .sentinel, .sentinel, .sentinel], laidTests := true, laidLooks := .later }
def CodeApartUptoCardSaid : Prop := Claim7.holds Tryd.pinned (.plain (OpenSpec.upto codeApartSpec)) codeApartUptoCard

/-- THE SECOND FORM's CARD OF 'aviarylaw12.SeriesCosts'. -/
def seriesCostsUptoCard : Claim7 := { stood := { row := seriesCostsUptoRow, standIns := [], harness := (true, "335e66adb6d044af250a179c274f1195627546bd5c1c3cbdc3312438c2bf96b7"), looks := true }, kinds := [], alts := [], laidByText := true, laidKinds := [.data, .pinned], laidTests := true, laidLooks := .later }
def SeriesCostsUptoCardSaid : Prop := Claim7.holds Tryd.pinned (.plain (OpenSpec.upto seriesCostsSpec)) seriesCostsUptoCard

/-- THE SECOND FORM's CARD OF 'aviarylaw12.SeriesOwn'. -/
def seriesOwnUptoCard : Claim7 := { stood := { row := seriesOwnUptoRow, standIns := [], harness := (true, "335e66adb6d044af250a179c274f1195627546bd5c1c3cbdc3312438c2bf96b7"), looks := true }, kinds := [], alts := [], laidByText := true, laidKinds := [.data, .pinned], laidTests := true, laidLooks := .later }
def SeriesOwnUptoCardSaid : Prop := Claim7.holds Tryd.pinned (.plain (OpenSpec.upto seriesOwnSpec)) seriesOwnUptoCard

/-- THE SECOND FORM's CARD OF 'aviarylaw11.CodeSizes'. -/
def codeSizesUptoCard : Claim7 := { stood := { row := codeSizesUptoRow, standIns := [], harness := (true, "335e66adb6d044af250a179c274f1195627546bd5c1c3cbdc3312438c2bf96b7"), looks := true }, kinds := [], alts := [], laidByText := true, laidKinds := [.sentinel, .sentinel, .sentinel, .sentinel], laidTests := true, laidLooks := .later }
def CodeSizesUptoCardSaid : Prop := Claim7.holds Tryd.pinned (.plain (OpenSpec.upto codeSizesSpec)) codeSizesUptoCard

/-- THE SECOND FORM's CARD OF 'aviarylaw12.SeriesOrders'. -/
def seriesOrdersUptoCard : Claim7 := { stood := { row := seriesOrdersUptoRow, standIns := [], harness := (true, "335e66adb6d044af250a179c274f1195627546bd5c1c3cbdc3312438c2bf96b7"), looks := true }, kinds := [], alts := [], laidByText := true, laidKinds := [.data, .pinned], laidTests := true, laidLooks := .later }
def SeriesOrdersUptoCardSaid : Prop := Claim7.holds Tryd.pinned (.plain (OpenSpec.upto seriesOrdersSpec)) seriesOrdersUptoCard
end Rows
end Go.Proofs.YtnmgfdkacibinaaDoor
