/-
  DERIVED. GIVEN WITH THE SEED: THE CARDS: each row of YtnegciklhanmbaaGreatDoorRows.lean that lists a variable, with what it lists TIED to the program's text (the seventh form; the later family's looks); each row that meets fmt, with fmt's text TOLD by the authors' own Lean function (tested against real Go, not proved from fmt's source: count such statements apart). THE CARD IS WHAT COUNTS. Prove the row's statement (the work); the ties are given (YtnegciklhanmbaaGreatDoorTie.lean); close each card by the builder's one call (the guide's Derived/Test/ToyasCard.lean, 'card_holds'). Laid BY PROGRAM, IN A SANDBOX (cutbox-door.mjs). By AI agents, Wed Nov 11 2026. No macro, syntax, notation, axiom, sorry.
-/
import Derived.Test.YtnegciklhanmbaaGreatDoorRows
import GoSem.ClaimSeven
namespace Go.Proofs.YtnegciklhanmbaaGreatDoor
namespace Rows

/-- THE TIED CARD OF 'aviarylaw18.TenantNone'. -/
def tenantNoneCard : Claim7 := { stood := { row := tenantNoneRow, standIns := [], harness := (true, "3e3039ed5c8680f1d18e45b5414b2ad4065d02c5829d75d432479325cbbfed7c"), looks := true }, kinds := [], alts := [], laidByText := true, laidKinds := [.data, .handle, .pinned], laidTests := true, laidLooks := .later }
def TenantNoneCardSaid : Prop := Claim7.holds Tryz.pinned (.plain (OpenSpec.ofChange tenantNoneSpec)) tenantNoneCard

/-- THE TIED CARD OF 'aviarylaw18.TenantParts'. -/
def tenantPartsCard : Claim7 := { stood := { row := tenantPartsRow, standIns := [], harness := (true, "3e3039ed5c8680f1d18e45b5414b2ad4065d02c5829d75d432479325cbbfed7c"), looks := true }, kinds := [], alts := [], laidByText := true, laidKinds := [.data, .handle, .pinned], laidTests := true, laidLooks := .later }
def TenantPartsCardSaid : Prop := Claim7.holds Tryz.pinned (.plain (OpenSpec.ofChange tenantPartsSpec)) tenantPartsCard

/-- THE SECOND FORM's CARD OF 'aviarylaw18.TenantNone'. -/
def tenantNoneUptoCard : Claim7 := { stood := { row := tenantNoneUptoRow, standIns := [], harness := (true, "3e3039ed5c8680f1d18e45b5414b2ad4065d02c5829d75d432479325cbbfed7c"), looks := true }, kinds := [], alts := [], laidByText := true, laidKinds := [.data, .handle, .pinned], laidTests := true, laidLooks := .later }
def TenantNoneUptoCardSaid : Prop := Claim7.holds Tryz.pinned (.plain (OpenSpec.upto tenantNoneSpec)) tenantNoneUptoCard

/-- THE SECOND FORM's CARD OF 'aviarylaw18.TenantParts'. -/
def tenantPartsUptoCard : Claim7 := { stood := { row := tenantPartsUptoRow, standIns := [], harness := (true, "3e3039ed5c8680f1d18e45b5414b2ad4065d02c5829d75d432479325cbbfed7c"), looks := true }, kinds := [], alts := [], laidByText := true, laidKinds := [.data, .handle, .pinned], laidTests := true, laidLooks := .later }
def TenantPartsUptoCardSaid : Prop := Claim7.holds Tryz.pinned (.plain (OpenSpec.upto tenantPartsSpec)) tenantPartsUptoCard
end Rows
end Go.Proofs.YtnegciklhanmbaaGreatDoor
