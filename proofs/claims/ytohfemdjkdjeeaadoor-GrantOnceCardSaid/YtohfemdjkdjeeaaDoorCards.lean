/-
  DERIVED. GIVEN WITH THE SEED: THE CARDS: each row of YtohfemdjkdjeeaaDoorRows.lean that lists a variable, with what it lists TIED to the program's text (the seventh form; the later family's looks); each row that meets fmt, with fmt's text TOLD by the authors' own Lean function (tested against real Go, not proved from fmt's source: count such statements apart). THE CARD IS WHAT COUNTS. Prove the row's statement (the work); the ties are given (YtohfemdjkdjeeaaDoorTie.lean); close each card by the builder's one call (the guide's Derived/Test/ToyasCard.lean, 'card_holds'). Laid BY PROGRAM, IN A SANDBOX (cutbox-door.mjs). By AI agents, Wed Nov 11 2026. No macro, syntax, notation, axiom, sorry.
-/
import Derived.Test.YtohfemdjkdjeeaaDoorRows
import GoSem.ClaimSeven
namespace Go.Proofs.YtohfemdjkdjeeaaDoor
namespace Rows

/-- THE TIED CARD OF 'aviarylaw15.GrantOnce'. -/
def grantOnceCard : Claim7 := { stood := { row := grantOnceRow, standIns := [], harness := (true, "552ba239308248480e054ad83151592fa4a3a564b2769ae64ef71043e0ff278d"), looks := true }, kinds := [], alts := [], laidByText := true, laidKinds := [.data, .pinned], laidTests := true, laidLooks := .later }
def GrantOnceCardSaid : Prop := Claim7.holds Tryd.pinned (.plain (OpenSpec.ofChange grantOnceSpec)) grantOnceCard

/-- THE TIED CARD OF 'aviarylaw15.GrantMore'. -/
def grantMoreCard : Claim7 := { stood := { row := grantMoreRow, standIns := [], harness := (true, "552ba239308248480e054ad83151592fa4a3a564b2769ae64ef71043e0ff278d"), looks := true }, kinds := [], alts := [], laidByText := true, laidKinds := [.data, .pinned], laidTests := true, laidLooks := .later }
def GrantMoreCardSaid : Prop := Claim7.holds Tryd.pinned (.plain (OpenSpec.ofChange grantMoreSpec)) grantMoreCard

/-- THE SECOND FORM's CARD OF 'aviarylaw15.GrantOnce'. -/
def grantOnceUptoCard : Claim7 := { stood := { row := grantOnceUptoRow, standIns := [], harness := (true, "552ba239308248480e054ad83151592fa4a3a564b2769ae64ef71043e0ff278d"), looks := true }, kinds := [], alts := [], laidByText := true, laidKinds := [.data, .pinned], laidTests := true, laidLooks := .later }
def GrantOnceUptoCardSaid : Prop := Claim7.holds Tryd.pinned (.plain (OpenSpec.upto grantOnceSpec)) grantOnceUptoCard

/-- THE SECOND FORM's CARD OF 'aviarylaw15.GrantMore'. -/
def grantMoreUptoCard : Claim7 := { stood := { row := grantMoreUptoRow, standIns := [], harness := (true, "552ba239308248480e054ad83151592fa4a3a564b2769ae64ef71043e0ff278d"), looks := true }, kinds := [], alts := [], laidByText := true, laidKinds := [.data, .pinned], laidTests := true, laidLooks := .later }
def GrantMoreUptoCardSaid : Prop := Claim7.holds Tryd.pinned (.plain (OpenSpec.upto grantMoreSpec)) grantMoreUptoCard
end Rows
end Go.Proofs.YtohfemdjkdjeeaaDoor
