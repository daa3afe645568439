/-
  NARROWER THAN 'FOR EVERY INPUT', by the rows' own cells (each row's printed sentence says how): WireNone: laid · WireHello: laid · WireCodes: laid.
  DERIVED. THE GIVEN ROWS OF THIS SEAT. 3 by the template 'for every input the law returns true; each argument reads behind the call as it read before'; 0 by the template 'total and deterministic' (their statements: YtpklkhgnjbopnaaGreatDoorTotals.lean).
  GIVEN WITH THE SEED: the statements are not yours to turn. If you find one false, say at which input.
  Laid BY PROGRAM, IN A SANDBOX (cutbox-rows.mjs): the forced cells as the released guide's own fill.sh prints them over the translation 34c69809e4d2b4b2… (all of the seat's roots in one cut). By AI agents, Wed Nov 11 2026. No macro, syntax, notation, axiom, sorry.
-/
import Derived.Test.YtpklkhgnjbopnaaGreatDoorChecked
import GoSem.PinnedTables
import GoSem.Claim
import GoSem.ClaimJoined
import GoSem.ClaimMapViews
import Derived.JoinedTies
import Derived.KernelRfl
namespace Go.Proofs.YtpklkhgnjbopnaaGreatDoor
/- THE CELL 'sum', in the pinned program and in every row, IS THE sha256 OF THE DUMP (.gsa) THAT YtpklkhgnjbopnaaGreatDoorProg.lean LOADS. Nothing in Lean hashes anything: it is a label: what it is worth is what the hold of that sum in a sandbox is worth. -/
noncomputable def Tryz.pinned : Pinned := { name := "ytpklkhgnjbopnaagreatdoor", sum := "34c69809e4d2b4b222d3e25286096aad00059f60258bb85d191deff0616da3cd", checked := Tryz.checked }
namespace Rows
def none {H : Type} : Left H := { results := [], args := [] }

/- WHAT THE LISTED PACKAGE-LEVEL VARIABLES READ AS WHEN THE CALL BEGINS. Each datum BY PROGRAM (the guide's laid-datum.mjs) off the statement by which the dump's own 'gosem.cut.vars' lays the variable. In a bare row this is a premise. The card (YtpklkhgnjbopnaaGreatDoorCards.lean) ties it to the program's text. -/
def laid_unicode_utf8_acceptRanges {H : Type} : DataW H := .agg [.agg [.lit (.int .u8 128), .lit (.int .u8 191)], .agg [.lit (.int .u8 160), .lit (.int .u8 191)], .agg [.lit (.int .u8 128), .lit (.int .u8 159)], .agg [.lit (.int .u8 144), .lit (.int .u8 191)], .agg [.lit (.int .u8 128), .lit (.int .u8 143)], .agg [.lit (.int .u8 0), .lit (.int .u8 0)], .agg [.lit (.int .u8 0), .lit (.int .u8 0)], .agg [.lit (.int .u8 0), .lit (.int .u8 0)], .agg [.lit (.int .u8 0), .lit (.int .u8 0)], .agg [.lit (.int .u8 0), .lit (.int .u8 0)], .agg [.lit (.int .u8 0), .lit (.int .u8 0)], .agg [.lit (.int .u8 0), .lit (.int .u8 0)], .agg [.lit (.int .u8 0), .lit (.int .u8 0)], .agg [.lit (.int .u8 0), .lit (.int .u8 0)], .agg [.lit (.int .u8 0), .lit (.int .u8 0)], .agg [.lit (.int .u8 0), .lit (.int .u8 0)]]
def laid_errors_errorType {H : Type} : DataW H := .iface "internal/reflectlite.rtype" (.agg [.ptr (.lit (.string [101, 114, 114, 111, 114]))])
def laid_aviary_field_errMore {H : Type} : DataW H := .iface "*errors.errorString" (.ptr (.agg [.lit (.string [102, 105, 101, 108, 100, 58, 32, 98, 121, 116, 101, 115, 32, 97, 114, 101, 32, 109, 105, 115, 115, 105, 110, 103])]))
def laid_aviary_field_errField {H : Type} : DataW H := .iface "*errors.errorString" (.ptr (.agg [.lit (.string [102, 105, 101, 108, 100, 58, 32, 116, 104, 101, 115, 101, 32, 98, 121, 116, 101, 115, 32, 97, 114, 101, 32, 110, 111, 110, 101])]))
/-- One of Go's own tables, pinned by name: the form's constant. -/
def laid_unicode_utf8_first : DataW Unit := Go.Pinned.utf8First

/-- 'aviarylaw20.WireNone': WHATEVER THE INPUT: true; the input reads as it did. -/
def wireNoneSpec : ChangeSpec := { name := "wireNone", fn := fun _ => fun
  | [d1, d2, d3] => { results := [.lit (.bool true)], args := [d1, d2, d3] }
  | _ => none }
def wireNoneRow : OpenClaim := { program := "ytpklkhgnjbopnaagreatdoor", sum := "34c69809e4d2b4b222d3e25286096aad00059f60258bb85d191deff0616da3cd", func := "aviary/aviarylaw20.WireNone", spec := "wireNone", inPlace := ["internal/abi.NoEscape", "internal/bytealg.MakeNoZero", "internal/reflectlite.TypeOf", "internal/reflectlite.ValueOf", "(internal/reflectlite.Value).Type", "(internal/reflectlite.Value).IsNil", "(internal/reflectlite.Value).Elem", "(internal/reflectlite.Value).Set", "internal/bytealg.IndexByteString", "internal/bytealg.IndexString"], unfollowed := true, recurses := true, named := ["aviary/field.errMore", "aviary/field.errField", "errors.errorType", "unicode/utf8.first", "unicode/utf8.acceptRanges", "internal/bytealg.MaxLen"], apart := false, laid := [("unicode/utf8.acceptRanges", laid_unicode_utf8_acceptRanges), ("errors.errorType", laid_errors_errorType), ("aviary/field.errMore", laid_aviary_field_errMore), ("aviary/field.errField", laid_aviary_field_errField), ("unicode/utf8.first", laid_unicode_utf8_first)] }
def WireNoneSaid : Prop := wireNoneRow.holds Tryz.pinned (OpenSpec.ofChange wireNoneSpec)

/-- ITS FALSE NEIGHBOUR: 'it returns false'. Refute it at one input. -/
def wireNoneWrong : ChangeSpec := { name := "wireNone", fn := fun _ => fun
  | [d1, d2, d3] => { results := [.lit (.bool false)], args := [d1, d2, d3] }
  | _ => none }
def WireNoneWrongFalsely : Prop := wireNoneRow.holds Tryz.pinned (OpenSpec.ofChange wireNoneWrong)

/-- 'aviarylaw20.WireHello': WHATEVER THE INPUT: true; the input reads as it did. -/
def wireHelloSpec : ChangeSpec := { name := "wireHello", fn := fun _ => fun
  | [d1, d2, d3, d4, d5] => { results := [.lit (.bool true)], args := [d1, d2, d3, d4, d5] }
  | _ => none }
def wireHelloRow : OpenClaim := { program := "ytpklkhgnjbopnaagreatdoor", sum := "34c69809e4d2b4b222d3e25286096aad00059f60258bb85d191deff0616da3cd", func := "aviary/aviarylaw20.WireHello", spec := "wireHello", inPlace := ["internal/abi.NoEscape", "internal/bytealg.MakeNoZero", "internal/reflectlite.TypeOf", "internal/reflectlite.ValueOf", "(internal/reflectlite.Value).Type", "(internal/reflectlite.Value).IsNil", "(internal/reflectlite.Value).Elem", "(internal/reflectlite.Value).Set", "internal/bytealg.IndexByteString", "internal/bytealg.IndexString"], unfollowed := true, recurses := true, named := ["aviary/field.errMore", "aviary/field.errField", "errors.errorType", "unicode/utf8.first", "unicode/utf8.acceptRanges", "internal/bytealg.MaxLen"], apart := false, laid := [("unicode/utf8.acceptRanges", laid_unicode_utf8_acceptRanges), ("errors.errorType", laid_errors_errorType), ("aviary/field.errMore", laid_aviary_field_errMore), ("aviary/field.errField", laid_aviary_field_errField), ("unicode/utf8.first", laid_unicode_utf8_first)] }
def WireHelloSaid : Prop := wireHelloRow.holds Tryz.pinned (OpenSpec.ofChange wireHelloSpec)

/-- ITS FALSE NEIGHBOUR: 'it returns false'. Refute it at one input. -/
def wireHelloWrong : ChangeSpec := { name := "wireHello", fn := fun _ => fun
  | [d1, d2, d3, d4, d5] => { results := [.lit (.bool false)], args := [d1, d2, d3, d4, d5] }
  | _ => none }
def WireHelloWrongFalsely : Prop := wireHelloRow.holds Tryz.pinned (OpenSpec.ofChange wireHelloWrong)

/-- 'aviarylaw20.WireCodes': WHATEVER THE INPUT: true; the input reads as it did. -/
def wireCodesSpec : ChangeSpec := { name := "wireCodes", fn := fun _ => fun
  | [d1, d2, d3, d4] => { results := [.lit (.bool true)], args := [d1, d2, d3, d4] }
  | _ => none }
def wireCodesRow : OpenClaim := { program := "ytpklkhgnjbopnaagreatdoor", sum := "34c69809e4d2b4b222d3e25286096aad00059f60258bb85d191deff0616da3cd", func := "aviary/aviarylaw20.WireCodes", spec := "wireCodes", inPlace := ["internal/abi.NoEscape", "internal/bytealg.MakeNoZero", "internal/reflectlite.TypeOf", "internal/reflectlite.ValueOf", "(internal/reflectlite.Value).Type", "(internal/reflectlite.Value).IsNil", "(internal/reflectlite.Value).Elem", "(internal/reflectlite.Value).Set", "internal/bytealg.IndexByteString", "internal/bytealg.IndexString"], unfollowed := true, recurses := true, named := ["aviary/field.errMore", "aviary/field.errField", "errors.errorType", "unicode/utf8.first", "unicode/utf8.acceptRanges", "internal/bytealg.MaxLen"], apart := false, laid := [("unicode/utf8.acceptRanges", laid_unicode_utf8_acceptRanges), ("errors.errorType", laid_errors_errorType), ("aviary/field.errMore", laid_aviary_field_errMore), ("aviary/field.errField", laid_aviary_field_errField), ("unicode/utf8.first", laid_unicode_utf8_first)] }
def WireCodesSaid : Prop := wireCodesRow.holds Tryz.pinned (OpenSpec.ofChange wireCodesSpec)

/-- ITS FALSE NEIGHBOUR: 'it returns false'. Refute it at one input. -/
def wireCodesWrong : ChangeSpec := { name := "wireCodes", fn := fun _ => fun
  | [d1, d2, d3, d4] => { results := [.lit (.bool false)], args := [d1, d2, d3, d4] }
  | _ => none }
def WireCodesWrongFalsely : Prop := wireCodesRow.holds Tryz.pinned (OpenSpec.ofChange wireCodesWrong)

/- THE SECOND FORM. 'bulk': how many values and letters a reading holds, each counted each time it is reached (what is shared counts as often as it is met; a slice's spare places count too). A statement '..UptoSaid' is the law's where the arguments, and the package variables that the reading takes, are together of bulk at most 1048576: NARROWER than '..Said'. Prove '..Said' where nothing that the law and all that it calls make is longer than what came in: it says more and counts as full. Else prove '..UptoSaid'. A law counts once. -/
mutual
def uptoBulk {H : Type} : DataW H → Nat
  | .lit (.string bytes) => bytes.length + 1
  | .lit _ => 1
  | .nil => 1
  | .ptr d => uptoBulk d + 1
  | .slice elems spare => uptoBulkAll elems + uptoBulkAll spare + 1
  | .agg parts => uptoBulkAll parts + 1
  | .iface _ d => uptoBulk d + 1
  | .map entries => uptoBulkEntries entries + 1
  | .held _ => 1
def uptoBulkAll {H : Type} : List (DataW H) → Nat
  | [] => 0
  | d :: r => uptoBulk d + uptoBulkAll r
def uptoBulkEntries {H : Type} : List (Lit × DataW H) → Nat
  | [] => 0
  | x :: r => uptoBulkEntry x + uptoBulkEntries r
def uptoBulkEntry {H : Type} : Lit × DataW H → Nat
  | (.string bytes, d) => bytes.length + uptoBulk d + 1
  | (_, d) => uptoBulk d + 1
 end
def uptoSmall : (H : Type) → List (DataW H) → Bool := fun _ ds => decide (uptoBulkAll ds ≤ 1048576)
def OpenSpec.upto (s : _root_.Go.ChangeSpec) : _root_.Go.OpenSpec := { _root_.Go.OpenSpec.ofChange s with cond := some uptoSmall }

/-- 'aviarylaw20.WireNone', WHERE WHAT IT READS IS OF BULK AT MOST 1048576: true; the input reads as it did. -/
def wireNoneUptoRow : OpenClaim := { program := "ytpklkhgnjbopnaagreatdoor", sum := "34c69809e4d2b4b222d3e25286096aad00059f60258bb85d191deff0616da3cd", func := "aviary/aviarylaw20.WireNone", spec := "wireNone", inPlace := ["internal/abi.NoEscape", "internal/bytealg.MakeNoZero", "internal/reflectlite.TypeOf", "internal/reflectlite.ValueOf", "(internal/reflectlite.Value).Type", "(internal/reflectlite.Value).IsNil", "(internal/reflectlite.Value).Elem", "(internal/reflectlite.Value).Set", "internal/bytealg.IndexByteString", "internal/bytealg.IndexString"], unfollowed := true, recurses := true, named := ["aviary/field.errMore", "aviary/field.errField", "errors.errorType", "unicode/utf8.first", "unicode/utf8.acceptRanges", "internal/bytealg.MaxLen"], apart := false, laid := [("unicode/utf8.acceptRanges", laid_unicode_utf8_acceptRanges), ("errors.errorType", laid_errors_errorType), ("aviary/field.errMore", laid_aviary_field_errMore), ("aviary/field.errField", laid_aviary_field_errField), ("unicode/utf8.first", laid_unicode_utf8_first)], narrowed := true }
def WireNoneUptoSaid : Prop := wireNoneUptoRow.holds Tryz.pinned (OpenSpec.upto wireNoneSpec)

/-- 'aviarylaw20.WireHello', WHERE WHAT IT READS IS OF BULK AT MOST 1048576: true; the input reads as it did. -/
def wireHelloUptoRow : OpenClaim := { program := "ytpklkhgnjbopnaagreatdoor", sum := "34c69809e4d2b4b222d3e25286096aad00059f60258bb85d191deff0616da3cd", func := "aviary/aviarylaw20.WireHello", spec := "wireHello", inPlace := ["internal/abi.NoEscape", "internal/bytealg.MakeNoZero", "internal/reflectlite.TypeOf", "internal/reflectlite.ValueOf", "(internal/reflectlite.Value).Type", "(internal/reflectlite.Value).IsNil", "(internal/reflectlite.Value).Elem", "(internal/reflectlite.Value).Set", "internal/bytealg.IndexByteString", "internal/bytealg.IndexString"], unfollowed := true, recurses := true, named := ["aviary/field.errMore", "aviary/field.errField", "errors.errorType", "unicode/utf8.first", "unicode/utf8.acceptRanges", "internal/bytealg.MaxLen"], apart := false, laid := [("unicode/utf8.acceptRanges", laid_unicode_utf8_acceptRanges), ("errors.errorType", laid_errors_errorType), ("aviary/field.errMore", laid_aviary_field_errMore), ("aviary/field.errField", laid_aviary_field_errField), ("unicode/utf8.first", laid_unicode_utf8_first)], narrowed := true }
def WireHelloUptoSaid : Prop := wireHelloUptoRow.holds Tryz.pinned (OpenSpec.upto wireHelloSpec)

/-- 'aviarylaw20.WireCodes', WHERE WHAT IT READS IS OF BULK AT MOST 1048576: true; the input reads as it did. -/
def wireCodesUptoRow : OpenClaim := { program := "ytpklkhgnjbopnaagreatdoor", sum := "34c69809e4d2b4b222d3e25286096aad00059f60258bb85d191deff0616da3cd", func := "aviary/aviarylaw20.WireCodes", spec := "wireCodes", inPlace := ["internal/abi.NoEscape", "internal/bytealg.MakeNoZero", "internal/reflectlite.TypeOf", "internal/reflectlite.ValueOf", "(internal/reflectlite.Value).Type", "(internal/reflectlite.Value).IsNil", "(internal/reflectlite.Value).Elem", "(internal/reflectlite.Value).Set", "internal/bytealg.IndexByteString", "internal/bytealg.IndexString"], unfollowed := true, recurses := true, named := ["aviary/field.errMore", "aviary/field.errField", "errors.errorType", "unicode/utf8.first", "unicode/utf8.acceptRanges", "internal/bytealg.MaxLen"], apart := false, laid := [("unicode/utf8.acceptRanges", laid_unicode_utf8_acceptRanges), ("errors.errorType", laid_errors_errorType), ("aviary/field.errMore", laid_aviary_field_errMore), ("aviary/field.errField", laid_aviary_field_errField), ("unicode/utf8.first", laid_unicode_utf8_first)], narrowed := true }
def WireCodesUptoSaid : Prop := wireCodesUptoRow.holds Tryz.pinned (OpenSpec.upto wireCodesSpec)

end Rows
end Go.Proofs.YtpklkhgnjbopnaaGreatDoor
