/-
  NARROWER THAN 'FOR EVERY INPUT', by the rows' own cells (each row's printed sentence says how): LadderMerges: laid · LadderAdds: laid · CodeMerges: laid · QuotaVictims: laid · QuotaMore: laid · QuotaTwice: laid · QuotaBound: laid · QuotaSteps: laid · QuotaLeast: laid · QuotaFits: laid · SeriesParts: laid · SeriesMeant: laid.
  DERIVED. THE GIVEN ROWS OF THIS SEAT. 12 by the template 'for every input the law returns true; each argument reads behind the call as it read before'; 0 by the template 'total and deterministic' (their statements: YtpnlmfilmbodfaaGreatDoorTotals.lean).
  GIVEN WITH THE SEED: the statements are not yours to turn. If you find one false, say at which input.
  Laid BY PROGRAM, IN A SANDBOX (cutbox-rows.mjs): the forced cells as the released guide's own fill.sh prints them over the translation ae04dac90e93d020… (all of the seat's roots in one cut). By AI agents, Wed Nov 11 2026. No macro, syntax, notation, axiom, sorry.
-/
import Derived.Test.YtpnlmfilmbodfaaGreatDoorChecked
import GoSem.PinnedTables
import GoSem.Claim
import GoSem.ClaimJoined
import GoSem.ClaimMapViews
import Derived.JoinedTies
import Derived.KernelRfl
namespace Go.Proofs.YtpnlmfilmbodfaaGreatDoor
/- THE CELL 'sum', in the pinned program and in every row, IS THE sha256 OF THE DUMP (.gsa) THAT YtpnlmfilmbodfaaGreatDoorProg.lean LOADS. Nothing in Lean hashes anything: it is a label: what it is worth is what the hold of that sum in a sandbox is worth. -/
noncomputable def Tryz.pinned : Pinned := { name := "ytpnlmfilmbodfaagreatdoor", sum := "ae04dac90e93d020136a28dcf821802f54240bf215d29b274eabbd450a176986", checked := Tryz.checked }
namespace Rows
def none {H : Type} : Left H := { results := [], args := [] }

/- WHAT THE LISTED PACKAGE-LEVEL VARIABLES READ AS WHEN THE CALL BEGINS. Each datum BY PROGRAM (the guide's laid-datum.mjs) off the statement by which the dump's own 'gosem.cut.vars' lays the variable. In a bare row this is a premise. The card (YtpnlmfilmbodfaaGreatDoorCards.lean) ties it to the program's text. -/
def laid_errors_errorType {H : Type} : DataW H := .iface "internal/reflectlite.rtype" (.agg [.ptr (.lit (.string [101, 114, 114, 111, 114]))])
def laid_aviary_field_errMore {H : Type} : DataW H := .iface "*errors.errorString" (.ptr (.agg [.lit (.string [102, 105, 101, 108, 100, 58, 32, 98, 121, 116, 101, 115, 32, 97, 114, 101, 32, 109, 105, 115, 115, 105, 110, 103])]))
def laid_aviary_field_errField {H : Type} : DataW H := .iface "*errors.errorString" (.ptr (.agg [.lit (.string [102, 105, 101, 108, 100, 58, 32, 116, 104, 101, 115, 101, 32, 98, 121, 116, 101, 115, 32, 97, 114, 101, 32, 110, 111, 110, 101])]))
def laid_aviary_code_errMore {H : Type} : DataW H := .iface "*errors.errorString" (.ptr (.agg [.lit (.string [98, 121, 116, 101, 115, 32, 97, 114, 101, 32, 109, 105, 115, 115, 105, 110, 103])]))
def laid_aviary_code_errCode {H : Type} : DataW H := .iface "*errors.errorString" (.ptr (.agg [.lit (.string [116, 104, 101, 115, 101, 32, 97, 114, 101, 32, 110, 111, 32, 115, 107, 101, 116, 99, 104, 39, 115, 32, 98, 121, 116, 101, 115])]))
def laid_unicode_utf8_acceptRanges {H : Type} : DataW H := .agg [.agg [.lit (.int .u8 128), .lit (.int .u8 191)], .agg [.lit (.int .u8 160), .lit (.int .u8 191)], .agg [.lit (.int .u8 128), .lit (.int .u8 159)], .agg [.lit (.int .u8 144), .lit (.int .u8 191)], .agg [.lit (.int .u8 128), .lit (.int .u8 143)], .agg [.lit (.int .u8 0), .lit (.int .u8 0)], .agg [.lit (.int .u8 0), .lit (.int .u8 0)], .agg [.lit (.int .u8 0), .lit (.int .u8 0)], .agg [.lit (.int .u8 0), .lit (.int .u8 0)], .agg [.lit (.int .u8 0), .lit (.int .u8 0)], .agg [.lit (.int .u8 0), .lit (.int .u8 0)], .agg [.lit (.int .u8 0), .lit (.int .u8 0)], .agg [.lit (.int .u8 0), .lit (.int .u8 0)], .agg [.lit (.int .u8 0), .lit (.int .u8 0)], .agg [.lit (.int .u8 0), .lit (.int .u8 0)], .agg [.lit (.int .u8 0), .lit (.int .u8 0)]]
/-- One of Go's own tables, pinned by name: the form's constant. -/
def laid_unicode_utf8_first : DataW Unit := Go.Pinned.utf8First

/-- 'aviarylaw10.LadderMerges': WHATEVER THE INPUT: true; the input reads as it did. -/
def ladderMergesSpec : ChangeSpec := { name := "ladderMerges", fn := fun _ => fun
  | [d1, d2, d3] => { results := [.lit (.bool true)], args := [d1, d2, d3] }
  | _ => none }
def ladderMergesRow : OpenClaim := { program := "ytpnlmfilmbodfaagreatdoor", sum := "ae04dac90e93d020136a28dcf821802f54240bf215d29b274eabbd450a176986", func := "aviary/aviarylaw10.LadderMerges", spec := "ladderMerges", inPlace := ["internal/reflectlite.ValueOf", "(internal/reflectlite.Value).Type", "(internal/reflectlite.Value).IsNil", "internal/reflectlite.TypeOf", "(internal/reflectlite.Value).Elem", "(internal/reflectlite.Value).Set"], unfollowed := true, recurses := true, named := ["errors.errorType"], apart := false, laid := [("errors.errorType", laid_errors_errorType)] }
def LadderMergesSaid : Prop := ladderMergesRow.holds Tryz.pinned (OpenSpec.ofChange ladderMergesSpec)

/-- ITS FALSE NEIGHBOUR: 'it returns false'. Refute it at one input. -/
def ladderMergesWrong : ChangeSpec := { name := "ladderMerges", fn := fun _ => fun
  | [d1, d2, d3] => { results := [.lit (.bool false)], args := [d1, d2, d3] }
  | _ => none }
def LadderMergesWrongFalsely : Prop := ladderMergesRow.holds Tryz.pinned (OpenSpec.ofChange ladderMergesWrong)

/-- 'aviarylaw10.LadderAdds': WHATEVER THE INPUT: true; the input reads as it did. -/
def ladderAddsSpec : ChangeSpec := { name := "ladderAdds", fn := fun _ => fun
  | [d1, d2, d3, d4] => { results := [.lit (.bool true)], args := [d1, d2, d3, d4] }
  | _ => none }
def ladderAddsRow : OpenClaim := { program := "ytpnlmfilmbodfaagreatdoor", sum := "ae04dac90e93d020136a28dcf821802f54240bf215d29b274eabbd450a176986", func := "aviary/aviarylaw10.LadderAdds", spec := "ladderAdds", inPlace := ["internal/reflectlite.ValueOf", "(internal/reflectlite.Value).Type", "(internal/reflectlite.Value).IsNil", "internal/reflectlite.TypeOf", "(internal/reflectlite.Value).Elem", "(internal/reflectlite.Value).Set"], unfollowed := true, recurses := true, named := ["errors.errorType"], apart := false, laid := [("errors.errorType", laid_errors_errorType)] }
def LadderAddsSaid : Prop := ladderAddsRow.holds Tryz.pinned (OpenSpec.ofChange ladderAddsSpec)

/-- ITS FALSE NEIGHBOUR: 'it returns false'. Refute it at one input. -/
def ladderAddsWrong : ChangeSpec := { name := "ladderAdds", fn := fun _ => fun
  | [d1, d2, d3, d4] => { results := [.lit (.bool false)], args := [d1, d2, d3, d4] }
  | _ => none }
def LadderAddsWrongFalsely : Prop := ladderAddsRow.holds Tryz.pinned (OpenSpec.ofChange ladderAddsWrong)

/-- 'aviarylaw11.CodeMerges': WHATEVER THE INPUT: true; the input reads as it did. -/
def codeMergesSpec : ChangeSpec := { name := "codeMerges", fn := fun _ => fun
  | [d1, d2] => { results := [.lit (.bool true)], args := [d1, d2] }
  | _ => none }
def codeMergesRow : OpenClaim := { program := "ytpnlmfilmbodfaagreatdoor", sum := "ae04dac90e93d020136a28dcf821802f54240bf215d29b274eabbd450a176986", func := "aviary/aviarylaw11.CodeMerges", spec := "codeMerges", inPlace := ["internal/abi.NoEscape", "internal/reflectlite.TypeOf", "internal/reflectlite.ValueOf", "(internal/reflectlite.Value).Type", "(internal/reflectlite.Value).IsNil", "(internal/reflectlite.Value).Elem", "(internal/reflectlite.Value).Set"], unfollowed := true, recurses := true, named := ["aviary/code.errMore", "aviary/code.errCode", "aviary/field.errMore", "aviary/field.errField", "errors.errorType"], apart := false, laid := [("errors.errorType", laid_errors_errorType), ("aviary/field.errMore", laid_aviary_field_errMore), ("aviary/field.errField", laid_aviary_field_errField), ("aviary/code.errMore", laid_aviary_code_errMore), ("aviary/code.errCode", laid_aviary_code_errCode)] }
def CodeMergesSaid : Prop := codeMergesRow.holds Tryz.pinned (OpenSpec.ofChange codeMergesSpec)

/-- ITS FALSE NEIGHBOUR: 'it returns false'. Refute it at one input. -/
def codeMergesWrong : ChangeSpec := { name := "codeMerges", fn := fun _ => fun
  | [d1, d2] => { results := [.lit (.bool false)], args := [d1, d2] }
  | _ => none }
def CodeMergesWrongFalsely : Prop := codeMergesRow.holds Tryz.pinned (OpenSpec.ofChange codeMergesWrong)

/-- 'aviarylaw13.QuotaVictims': WHATEVER THE INPUT: true; the input reads as it did. -/
def quotaVictimsSpec : ChangeSpec := { name := "quotaVictims", fn := fun _ => fun
  | [d] => { results := [.lit (.bool true)], args := [d] }
  | _ => none }
def quotaVictimsRow : OpenClaim := { program := "ytpnlmfilmbodfaagreatdoor", sum := "ae04dac90e93d020136a28dcf821802f54240bf215d29b274eabbd450a176986", func := "aviary/aviarylaw13.QuotaVictims", spec := "quotaVictims", inPlace := ["internal/abi.NoEscape", "internal/bytealg.MakeNoZero", "internal/reflectlite.ValueOf", "(internal/reflectlite.Value).Type", "(internal/reflectlite.Value).IsNil", "internal/reflectlite.TypeOf", "(internal/reflectlite.Value).Elem", "(internal/reflectlite.Value).Set"], unfollowed := true, recurses := true, named := ["unicode/utf8.first", "unicode/utf8.acceptRanges", "errors.errorType"], apart := false, laid := [("unicode/utf8.acceptRanges", laid_unicode_utf8_acceptRanges), ("errors.errorType", laid_errors_errorType), ("unicode/utf8.first", laid_unicode_utf8_first)] }
def QuotaVictimsSaid : Prop := quotaVictimsRow.holds Tryz.pinned (OpenSpec.ofChange quotaVictimsSpec)

/-- ITS FALSE NEIGHBOUR: 'it returns false'. Refute it at one input. -/
def quotaVictimsWrong : ChangeSpec := { name := "quotaVictims", fn := fun _ => fun
  | [d] => { results := [.lit (.bool false)], args := [d] }
  | _ => none }
def QuotaVictimsWrongFalsely : Prop := quotaVictimsRow.holds Tryz.pinned (OpenSpec.ofChange quotaVictimsWrong)

/-- 'aviarylaw13.QuotaMore': WHATEVER THE INPUT: true; the input reads as it did. -/
def quotaMoreSpec : ChangeSpec := { name := "quotaMore", fn := fun _ => fun
  | [d1, d2, d3] => { results := [.lit (.bool true)], args := [d1, d2, d3] }
  | _ => none }
def quotaMoreRow : OpenClaim := { program := "ytpnlmfilmbodfaagreatdoor", sum := "ae04dac90e93d020136a28dcf821802f54240bf215d29b274eabbd450a176986", func := "aviary/aviarylaw13.QuotaMore", spec := "quotaMore", inPlace := ["internal/abi.NoEscape", "internal/bytealg.MakeNoZero", "internal/reflectlite.ValueOf", "(internal/reflectlite.Value).Type", "(internal/reflectlite.Value).IsNil", "internal/reflectlite.TypeOf", "(internal/reflectlite.Value).Elem", "(internal/reflectlite.Value).Set"], unfollowed := true, recurses := true, named := ["unicode/utf8.first", "unicode/utf8.acceptRanges", "errors.errorType"], apart := false, laid := [("unicode/utf8.acceptRanges", laid_unicode_utf8_acceptRanges), ("errors.errorType", laid_errors_errorType), ("unicode/utf8.first", laid_unicode_utf8_first)] }
def QuotaMoreSaid : Prop := quotaMoreRow.holds Tryz.pinned (OpenSpec.ofChange quotaMoreSpec)

/-- ITS FALSE NEIGHBOUR: 'it returns false'. Refute it at one input. -/
def quotaMoreWrong : ChangeSpec := { name := "quotaMore", fn := fun _ => fun
  | [d1, d2, d3] => { results := [.lit (.bool false)], args := [d1, d2, d3] }
  | _ => none }
def QuotaMoreWrongFalsely : Prop := quotaMoreRow.holds Tryz.pinned (OpenSpec.ofChange quotaMoreWrong)

/-- 'aviarylaw13.QuotaTwice': WHATEVER THE INPUT: true; the input reads as it did. -/
def quotaTwiceSpec : ChangeSpec := { name := "quotaTwice", fn := fun _ => fun
  | [d1, d2, d3] => { results := [.lit (.bool true)], args := [d1, d2, d3] }
  | _ => none }
def quotaTwiceRow : OpenClaim := { program := "ytpnlmfilmbodfaagreatdoor", sum := "ae04dac90e93d020136a28dcf821802f54240bf215d29b274eabbd450a176986", func := "aviary/aviarylaw13.QuotaTwice", spec := "quotaTwice", inPlace := ["internal/abi.NoEscape", "internal/bytealg.MakeNoZero", "internal/reflectlite.ValueOf", "(internal/reflectlite.Value).Type", "(internal/reflectlite.Value).IsNil", "internal/reflectlite.TypeOf", "(internal/reflectlite.Value).Elem", "(internal/reflectlite.Value).Set"], unfollowed := true, recurses := true, named := ["unicode/utf8.first", "unicode/utf8.acceptRanges", "errors.errorType"], apart := false, laid := [("unicode/utf8.acceptRanges", laid_unicode_utf8_acceptRanges), ("errors.errorType", laid_errors_errorType), ("unicode/utf8.first", laid_unicode_utf8_first)] }
def QuotaTwiceSaid : Prop := quotaTwiceRow.holds Tryz.pinned (OpenSpec.ofChange quotaTwiceSpec)

/-- ITS FALSE NEIGHBOUR: 'it returns false'. Refute it at one input. -/
def quotaTwiceWrong : ChangeSpec := { name := "quotaTwice", fn := fun _ => fun
  | [d1, d2, d3] => { results := [.lit (.bool false)], args := [d1, d2, d3] }
  | _ => none }
def QuotaTwiceWrongFalsely : Prop := quotaTwiceRow.holds Tryz.pinned (OpenSpec.ofChange quotaTwiceWrong)

/-- 'aviarylaw13.QuotaBound': WHATEVER THE INPUT: true; the input reads as it did. -/
def quotaBoundSpec : ChangeSpec := { name := "quotaBound", fn := fun _ => fun
  | [d1, d2] => { results := [.lit (.bool true)], args := [d1, d2] }
  | _ => none }
def quotaBoundRow : OpenClaim := { program := "ytpnlmfilmbodfaagreatdoor", sum := "ae04dac90e93d020136a28dcf821802f54240bf215d29b274eabbd450a176986", func := "aviary/aviarylaw13.QuotaBound", spec := "quotaBound", inPlace := ["internal/abi.NoEscape", "internal/bytealg.MakeNoZero", "internal/reflectlite.ValueOf", "(internal/reflectlite.Value).Type", "(internal/reflectlite.Value).IsNil", "internal/reflectlite.TypeOf", "(internal/reflectlite.Value).Elem", "(internal/reflectlite.Value).Set"], unfollowed := true, recurses := true, named := ["unicode/utf8.first", "unicode/utf8.acceptRanges", "errors.errorType"], apart := false, laid := [("unicode/utf8.acceptRanges", laid_unicode_utf8_acceptRanges), ("errors.errorType", laid_errors_errorType), ("unicode/utf8.first", laid_unicode_utf8_first)] }
def QuotaBoundSaid : Prop := quotaBoundRow.holds Tryz.pinned (OpenSpec.ofChange quotaBoundSpec)

/-- ITS FALSE NEIGHBOUR: 'it returns false'. Refute it at one input. -/
def quotaBoundWrong : ChangeSpec := { name := "quotaBound", fn := fun _ => fun
  | [d1, d2] => { results := [.lit (.bool false)], args := [d1, d2] }
  | _ => none }
def QuotaBoundWrongFalsely : Prop := quotaBoundRow.holds Tryz.pinned (OpenSpec.ofChange quotaBoundWrong)

/-- 'aviarylaw13.QuotaSteps': WHATEVER THE INPUT: true; the input reads as it did. -/
def quotaStepsSpec : ChangeSpec := { name := "quotaSteps", fn := fun _ => fun
  | [d1, d2] => { results := [.lit (.bool true)], args := [d1, d2] }
  | _ => none }
def quotaStepsRow : OpenClaim := { program := "ytpnlmfilmbodfaagreatdoor", sum := "ae04dac90e93d020136a28dcf821802f54240bf215d29b274eabbd450a176986", func := "aviary/aviarylaw13.QuotaSteps", spec := "quotaSteps", inPlace := ["internal/abi.NoEscape", "internal/bytealg.MakeNoZero", "internal/reflectlite.ValueOf", "(internal/reflectlite.Value).Type", "(internal/reflectlite.Value).IsNil", "internal/reflectlite.TypeOf", "(internal/reflectlite.Value).Elem", "(internal/reflectlite.Value).Set"], unfollowed := true, recurses := true, named := ["unicode/utf8.first", "unicode/utf8.acceptRanges", "errors.errorType"], apart := false, laid := [("unicode/utf8.acceptRanges", laid_unicode_utf8_acceptRanges), ("errors.errorType", laid_errors_errorType), ("unicode/utf8.first", laid_unicode_utf8_first)] }
def QuotaStepsSaid : Prop := quotaStepsRow.holds Tryz.pinned (OpenSpec.ofChange quotaStepsSpec)

/-- ITS FALSE NEIGHBOUR: 'it returns false'. Refute it at one input. -/
def quotaStepsWrong : ChangeSpec := { name := "quotaSteps", fn := fun _ => fun
  | [d1, d2] => { results := [.lit (.bool false)], args := [d1, d2] }
  | _ => none }
def QuotaStepsWrongFalsely : Prop := quotaStepsRow.holds Tryz.pinned (OpenSpec.ofChange quotaStepsWrong)

/-- 'aviarylaw13.QuotaLeast': WHATEVER THE INPUT: true; the input reads as it did. -/
def quotaLeastSpec : ChangeSpec := { name := "quotaLeast", fn := fun _ => fun
  | [d1, d2] => { results := [.lit (.bool true)], args := [d1, d2] }
  | _ => none }
def quotaLeastRow : OpenClaim := { program := "ytpnlmfilmbodfaagreatdoor", sum := "ae04dac90e93d020136a28dcf821802f54240bf215d29b274eabbd450a176986", func := "aviary/aviarylaw13.QuotaLeast", spec := "quotaLeast", inPlace := ["internal/abi.NoEscape", "internal/bytealg.MakeNoZero", "internal/reflectlite.ValueOf", "(internal/reflectlite.Value).Type", "(internal/reflectlite.Value).IsNil", "internal/reflectlite.TypeOf", "(internal/reflectlite.Value).Elem", "(internal/reflectlite.Value).Set"], unfollowed := true, recurses := true, named := ["unicode/utf8.first", "unicode/utf8.acceptRanges", "errors.errorType"], apart := false, laid := [("unicode/utf8.acceptRanges", laid_unicode_utf8_acceptRanges), ("errors.errorType", laid_errors_errorType), ("unicode/utf8.first", laid_unicode_utf8_first)] }
def QuotaLeastSaid : Prop := quotaLeastRow.holds Tryz.pinned (OpenSpec.ofChange quotaLeastSpec)

/-- ITS FALSE NEIGHBOUR: 'it returns false'. Refute it at one input. -/
def quotaLeastWrong : ChangeSpec := { name := "quotaLeast", fn := fun _ => fun
  | [d1, d2] => { results := [.lit (.bool false)], args := [d1, d2] }
  | _ => none }
def QuotaLeastWrongFalsely : Prop := quotaLeastRow.holds Tryz.pinned (OpenSpec.ofChange quotaLeastWrong)

/-- 'aviarylaw13.QuotaFits': WHATEVER THE INPUT: true; the input reads as it did. -/
def quotaFitsSpec : ChangeSpec := { name := "quotaFits", fn := fun _ => fun
  | [d1, d2] => { results := [.lit (.bool true)], args := [d1, d2] }
  | _ => none }
def quotaFitsRow : OpenClaim := { program := "ytpnlmfilmbodfaagreatdoor", sum := "ae04dac90e93d020136a28dcf821802f54240bf215d29b274eabbd450a176986", func := "aviary/aviarylaw13.QuotaFits", spec := "quotaFits", inPlace := ["internal/abi.NoEscape", "internal/bytealg.MakeNoZero", "internal/reflectlite.ValueOf", "(internal/reflectlite.Value).Type", "(internal/reflectlite.Value).IsNil", "internal/reflectlite.TypeOf", "(internal/reflectlite.Value).Elem", "(internal/reflectlite.Value).Set"], unfollowed := true, recurses := true, named := ["unicode/utf8.first", "unicode/utf8.acceptRanges", "errors.errorType"], apart := false, laid := [("unicode/utf8.acceptRanges", laid_unicode_utf8_acceptRanges), ("errors.errorType", laid_errors_errorType), ("unicode/utf8.first", laid_unicode_utf8_first)] }
def QuotaFitsSaid : Prop := quotaFitsRow.holds Tryz.pinned (OpenSpec.ofChange quotaFitsSpec)

/-- ITS FALSE NEIGHBOUR: 'it returns false'. Refute it at one input. -/
def quotaFitsWrong : ChangeSpec := { name := "quotaFits", fn := fun _ => fun
  | [d1, d2] => { results := [.lit (.bool false)], args := [d1, d2] }
  | _ => none }
def QuotaFitsWrongFalsely : Prop := quotaFitsRow.holds Tryz.pinned (OpenSpec.ofChange quotaFitsWrong)

/-- 'aviarylaw12.SeriesParts': WHATEVER THE INPUT: true; the input reads as it did. -/
def seriesPartsSpec : ChangeSpec := { name := "seriesParts", fn := fun _ => fun
  | [d1, d2, d3, d4] => { results := [.lit (.bool true)], args := [d1, d2, d3, d4] }
  | _ => none }
def seriesPartsRow : OpenClaim := { program := "ytpnlmfilmbodfaagreatdoor", sum := "ae04dac90e93d020136a28dcf821802f54240bf215d29b274eabbd450a176986", func := "aviary/aviarylaw12.SeriesParts", spec := "seriesParts", inPlace := ["internal/abi.NoEscape", "internal/bytealg.MakeNoZero", "internal/bytealg.IndexByteString", "internal/bytealg.IndexString", "internal/reflectlite.ValueOf", "(internal/reflectlite.Value).Type", "(internal/reflectlite.Value).IsNil", "internal/reflectlite.TypeOf", "(internal/reflectlite.Value).Elem", "(internal/reflectlite.Value).Set"], unfollowed := true, recurses := true, named := ["unicode/utf8.first", "unicode/utf8.acceptRanges", "internal/bytealg.MaxLen", "errors.errorType"], apart := false, laid := [("unicode/utf8.acceptRanges", laid_unicode_utf8_acceptRanges), ("errors.errorType", laid_errors_errorType), ("unicode/utf8.first", laid_unicode_utf8_first)] }
def SeriesPartsSaid : Prop := seriesPartsRow.holds Tryz.pinned (OpenSpec.ofChange seriesPartsSpec)

/-- ITS FALSE NEIGHBOUR: 'it returns false'. Refute it at one input. -/
def seriesPartsWrong : ChangeSpec := { name := "seriesParts", fn := fun _ => fun
  | [d1, d2, d3, d4] => { results := [.lit (.bool false)], args := [d1, d2, d3, d4] }
  | _ => none }
def SeriesPartsWrongFalsely : Prop := seriesPartsRow.holds Tryz.pinned (OpenSpec.ofChange seriesPartsWrong)

/-- 'aviarylaw12.SeriesMeant': WHATEVER THE INPUT: true; the input reads as it did. -/
def seriesMeantSpec : ChangeSpec := { name := "seriesMeant", fn := fun _ => fun
  | [d1, d2, d3, d4] => { results := [.lit (.bool true)], args := [d1, d2, d3, d4] }
  | _ => none }
def seriesMeantRow : OpenClaim := { program := "ytpnlmfilmbodfaagreatdoor", sum := "ae04dac90e93d020136a28dcf821802f54240bf215d29b274eabbd450a176986", func := "aviary/aviarylaw12.SeriesMeant", spec := "seriesMeant", inPlace := ["internal/abi.NoEscape", "internal/bytealg.MakeNoZero", "internal/bytealg.IndexByteString", "internal/bytealg.IndexString", "internal/reflectlite.ValueOf", "(internal/reflectlite.Value).Type", "(internal/reflectlite.Value).IsNil", "internal/reflectlite.TypeOf", "(internal/reflectlite.Value).Elem", "(internal/reflectlite.Value).Set"], unfollowed := true, recurses := true, named := ["unicode/utf8.first", "unicode/utf8.acceptRanges", "internal/bytealg.MaxLen", "errors.errorType"], apart := false, laid := [("unicode/utf8.acceptRanges", laid_unicode_utf8_acceptRanges), ("errors.errorType", laid_errors_errorType), ("unicode/utf8.first", laid_unicode_utf8_first)] }
def SeriesMeantSaid : Prop := seriesMeantRow.holds Tryz.pinned (OpenSpec.ofChange seriesMeantSpec)

/-- ITS FALSE NEIGHBOUR: 'it returns false'. Refute it at one input. -/
def seriesMeantWrong : ChangeSpec := { name := "seriesMeant", fn := fun _ => fun
  | [d1, d2, d3, d4] => { results := [.lit (.bool false)], args := [d1, d2, d3, d4] }
  | _ => none }
def SeriesMeantWrongFalsely : Prop := seriesMeantRow.holds Tryz.pinned (OpenSpec.ofChange seriesMeantWrong)

/- THE SECOND FORM. 'bulk': how many values and letters a reading holds, each counted each time it is reached (what is shared counts as often as it is met; a slice's spare places count too). A statement '..UptoSaid' is the law's where the arguments, and the package variables that the reading takes, are together of bulk at most 1048576: NARROWER than '..Said'. Prove '..Said' where nothing that the law and all that it calls make is longer than what came in: it says more and counts as full. Else prove '..UptoSaid'. A law counts once. -/
mutual
def uptoBulk {H : Type} : DataW H → Nat
  | .lit (.string bytes) => bytes.length + 1
  | .lit _ => 1
  | .nil => 1
  | .ptr d => uptoBulk d + 1
  | .slice elems spare => uptoBulkAll elems + uptoBulkAll spare + 1
  | .agg parts => uptoBulkAll parts + 1
  | .iface _ d => uptoBulk d + 1
  | .map entries => uptoBulkEntries entries + 1
  | .held _ => 1
def uptoBulkAll {H : Type} : List (DataW H) → Nat
  | [] => 0
  | d :: r => uptoBulk d + uptoBulkAll r
def uptoBulkEntries {H : Type} : List (Lit × DataW H) → Nat
  | [] => 0
  | x :: r => uptoBulkEntry x + uptoBulkEntries r
def uptoBulkEntry {H : Type} : Lit × DataW H → Nat
  | (.string bytes, d) => bytes.length + uptoBulk d + 1
  | (_, d) => uptoBulk d + 1
 end
def uptoSmall : (H : Type) → List (DataW H) → Bool := fun _ ds => decide (uptoBulkAll ds ≤ 1048576)
def OpenSpec.upto (s : _root_.Go.ChangeSpec) : _root_.Go.OpenSpec := { _root_.Go.OpenSpec.ofChange s with cond := some uptoSmall }

/-- 'aviarylaw10.LadderMerges', WHERE WHAT IT READS IS OF BULK AT MOST 1048576: true; the input reads as it did. -/
def ladderMergesUptoRow : OpenClaim := { program := "ytpnlmfilmbodfaagreatdoor", sum := "ae04dac90e93d020136a28dcf821802f54240bf215d29b274eabbd450a176986", func := "aviary/aviarylaw10.LadderMerges", spec := "ladderMerges", inPlace := ["internal/reflectlite.ValueOf", "(internal/reflectlite.Value).Type", "(internal/reflectlite.Value).IsNil", "internal/reflectlite.TypeOf", "(internal/reflectlite.Value).Elem", "(internal/reflectlite.Value).Set"], unfollowed := true, recurses := true, named := ["errors.errorType"], apart := false, laid := [("errors.errorType", laid_errors_errorType)], narrowed := true }
def LadderMergesUptoSaid : Prop := ladderMergesUptoRow.holds Tryz.pinned (OpenSpec.upto ladderMergesSpec)

/-- 'aviarylaw10.LadderAdds', WHERE WHAT IT READS IS OF BULK AT MOST 1048576: true; the input reads as it did. -/
def ladderAddsUptoRow : OpenClaim := { program := "ytpnlmfilmbodfaagreatdoor", sum := "ae04dac90e93d020136a28dcf821802f54240bf215d29b274eabbd450a176986", func := "aviary/aviarylaw10.LadderAdds", spec := "ladderAdds", inPlace := ["internal/reflectlite.ValueOf", "(internal/reflectlite.Value).Type", "(internal/reflectlite.Value).IsNil", "internal/reflectlite.TypeOf", "(internal/reflectlite.Value).Elem", "(internal/reflectlite.Value).Set"], unfollowed := true, recurses := true, named := ["errors.errorType"], apart := false, laid := [("errors.errorType", laid_errors_errorType)], narrowed := true }
def LadderAddsUptoSaid : Prop := ladderAddsUptoRow.holds Tryz.pinned (OpenSpec.upto ladderAddsSpec)

/-- 'aviarylaw11.CodeMerges', WHERE WHAT IT READS IS OF BULK AT MOST 1048576: true; the input reads as it did. -/
def codeMergesUptoRow : OpenClaim := { program := "ytpnlmfilmbodfaagreatdoor", sum := "ae04dac90e93d020136a28dcf821802f54240bf215d29b274eabbd450a176986", func := "aviary/aviarylaw11.CodeMerges", spec := "codeMerges", inPlace := ["internal/abi.NoEscape", "internal/reflectlite.TypeOf", "internal/reflectlite.ValueOf", "(internal/reflectlite.Value).Type", "(internal/reflectlite.Value).IsNil", "(internal/reflectlite.Value).Elem", "(internal/reflectlite.Value).Set"], unfollowed := true, recurses := true, named := ["aviary/code.errMore", "aviary/code.errCode", "aviary/field.errMore", "aviary/field.errField", "errors.errorType"], apart := false, laid := [("errors.errorType", laid_errors_errorType), ("aviary/field.errMore", laid_aviary_field_errMore), ("aviary/field.errField", laid_aviary_field_errField), ("aviary/code.errMore", laid_aviary_code_errMore), ("aviary/code.errCode", laid_aviary_code_errCode)], narrowed := true }
def CodeMergesUptoSaid : Prop := codeMergesUptoRow.holds Tryz.pinned (OpenSpec.upto codeMergesSpec)

/-- 'aviarylaw13.QuotaVictims', WHERE WHAT IT READS IS OF BULK AT MOST 1048576: true; the input reads as it did. -/
def quotaVictimsUptoRow : OpenClaim := { program := "ytpnlmfilmbodfaagreatdoor", sum := "ae04dac90e93d020136a28dcf821802f54240bf215d29b274eabbd450a176986", func := "aviary/aviarylaw13.QuotaVictims", spec := "quotaVictims", inPlace := ["internal/abi.NoEscape", "internal/bytealg.MakeNoZero", "internal/reflectlite.ValueOf", "(internal/reflectlite.Value).Type", "(internal/reflectlite.Value).IsNil", "internal/reflectlite.TypeOf", "(internal/reflectlite.Value).Elem", "(internal/reflectlite.Value).Set"], unfollowed := true, recurses := true, named := ["unicode/utf8.first", "unicode/utf8.acceptRanges", "errors.errorType"], apart := false, laid := [("unicode/utf8.acceptRanges", laid_unicode_utf8_acceptRanges), ("errors.errorType", laid_errors_errorType), ("unicode/utf8.first", laid_unicode_utf8_first)], narrowed := true }
def QuotaVictimsUptoSaid : Prop := quotaVictimsUptoRow.holds Tryz.pinned (OpenSpec.upto quotaVictimsSpec)

/-- 'aviarylaw13.QuotaMore', WHERE WHAT IT READS IS OF BULK AT MOST 1048576: true; the input reads as it did. -/
def quotaMoreUptoRow : OpenClaim := { program := "ytpnlmfilmbodfaagreatdoor", sum := "ae04dac90e93d020136a28dcf821802f54240bf215d29b274eabbd450a176986", func := "aviary/aviarylaw13.QuotaMore", spec := "quotaMore", inPlace := ["internal/abi.NoEscape", "internal/bytealg.MakeNoZero", "internal/reflectlite.ValueOf", "(internal/reflectlite.Value).Type", "(internal/reflectlite.Value).IsNil", "internal/reflectlite.TypeOf", "(internal/reflectlite.Value).Elem", "(internal/reflectlite.Value).Set"], unfollowed := true, recurses := true, named := ["unicode/utf8.first", "unicode/utf8.acceptRanges", "errors.errorType"], apart := false, laid := [("unicode/utf8.acceptRanges", laid_unicode_utf8_acceptRanges), ("errors.errorType", laid_errors_errorType), ("unicode/utf8.first", laid_unicode_utf8_first)], narrowed := true }
def QuotaMoreUptoSaid : Prop := quotaMoreUptoRow.holds Tryz.pinned (OpenSpec.upto quotaMoreSpec)

/-- 'aviarylaw13.QuotaTwice', WHERE WHAT IT READS IS OF BULK AT MOST 1048576: true; the input reads as it did. -/
def quotaTwiceUptoRow : OpenClaim := { program := "ytpnlmfilmbodfaagreatdoor", sum := "ae04dac90e93d020136a28dcf821802f54240bf215d29b274eabbd450a176986", func := "aviary/aviarylaw13.QuotaTwice", spec := "quotaTwice", inPlace := ["internal/abi.NoEscape", "internal/bytealg.MakeNoZero", "internal/reflectlite.ValueOf", "(internal/reflectlite.Value).Type", "(internal/reflectlite.Value).IsNil", "internal/reflectlite.TypeOf", "(internal/reflectlite.Value).Elem", "(internal/reflectlite.Value).Set"], unfollowed := true, recurses := true, named := ["unicode/utf8.first", "unicode/utf8.acceptRanges", "errors.errorType"], apart := false, laid := [("unicode/utf8.acceptRanges", laid_unicode_utf8_acceptRanges), ("errors.errorType", laid_errors_errorType), ("unicode/utf8.first", laid_unicode_utf8_first)], narrowed := true }
def QuotaTwiceUptoSaid : Prop := quotaTwiceUptoRow.holds Tryz.pinned (OpenSpec.upto quotaTwiceSpec)

/-- 'aviarylaw13.QuotaBound', WHERE WHAT IT READS IS OF BULK AT MOST 1048576: true; the input reads as it did. -/
def quotaBoundUptoRow : OpenClaim := { program := "ytpnlmfilmbodfaagreatdoor", sum := "ae04dac90e93d020136a28dcf821802f54240bf215d29b274eabbd450a176986", func := "aviary/aviarylaw13.QuotaBound", spec := "quotaBound", inPlace := ["internal/abi.NoEscape", "internal/bytealg.MakeNoZero", "internal/reflectlite.ValueOf", "(internal/reflectlite.Value).Type", "(internal/reflectlite.Value).IsNil", "internal/reflectlite.TypeOf", "(internal/reflectlite.Value).Elem", "(internal/reflectlite.Value).Set"], unfollowed := true, recurses := true, named := ["unicode/utf8.first", "unicode/utf8.acceptRanges", "errors.errorType"], apart := false, laid := [("unicode/utf8.acceptRanges", laid_unicode_utf8_acceptRanges), ("errors.errorType", laid_errors_errorType), ("unicode/utf8.first", laid_unicode_utf8_first)], narrowed := true }
def QuotaBoundUptoSaid : Prop := quotaBoundUptoRow.holds Tryz.pinned (OpenSpec.upto quotaBoundSpec)

/-- 'aviarylaw13.QuotaSteps', WHERE WHAT IT READS IS OF BULK AT MOST 1048576: true; the input reads as it did. -/
def quotaStepsUptoRow : OpenClaim := { program := "ytpnlmfilmbodfaagreatdoor", sum := "ae04dac90e93d020136a28dcf821802f54240bf215d29b274eabbd450a176986", func := "aviary/aviarylaw13.QuotaSteps", spec := "quotaSteps", inPlace := ["internal/abi.NoEscape", "internal/bytealg.MakeNoZero", "internal/reflectlite.ValueOf", "(internal/reflectlite.Value).Type", "(internal/reflectlite.Value).IsNil", "internal/reflectlite.TypeOf", "(internal/reflectlite.Value).Elem", "(internal/reflectlite.Value).Set"], unfollowed := true, recurses := true, named := ["unicode/utf8.first", "unicode/utf8.acceptRanges", "errors.errorType"], apart := false, laid := [("unicode/utf8.acceptRanges", laid_unicode_utf8_acceptRanges), ("errors.errorType", laid_errors_errorType), ("unicode/utf8.first", laid_unicode_utf8_first)], narrowed := true }
def QuotaStepsUptoSaid : Prop := quotaStepsUptoRow.holds Tryz.pinned (OpenSpec.upto quotaStepsSpec)

/-- 'aviarylaw13.QuotaLeast', WHERE WHAT IT READS IS OF BULK AT MOST 1048576: true; the input reads as it did. -/
def quotaLeastUptoRow : OpenClaim := { program := "ytpnlmfilmbodfaagreatdoor", sum := "ae04dac90e93d020136a28dcf821802f54240bf215d29b274eabbd450a176986", func := "aviary/aviarylaw13.QuotaLeast", spec := "quotaLeast", inPlace := ["internal/abi.NoEscape", "internal/bytealg.MakeNoZero", "internal/reflectlite.ValueOf", "(internal/reflectlite.Value).Type", "(internal/reflectlite.Value).IsNil", "internal/reflectlite.TypeOf", "(internal/reflectlite.Value).Elem", "(internal/reflectlite.Value).Set"], unfollowed := true, recurses := true, named := ["unicode/utf8.first", "unicode/utf8.acceptRanges", "errors.errorType"], apart := false, laid := [("unicode/utf8.acceptRanges", laid_unicode_utf8_acceptRanges), ("errors.errorType", laid_errors_errorType), ("unicode/utf8.first", laid_unicode_utf8_first)], narrowed := true }
def QuotaLeastUptoSaid : Prop := quotaLeastUptoRow.holds Tryz.pinned (OpenSpec.upto quotaLeastSpec)

/-- 'aviarylaw13.QuotaFits', WHERE WHAT IT READS IS OF BULK AT MOST 1048576: true; the input reads as it did. -/
def quotaFitsUptoRow : OpenClaim := { program := "ytpnlmfilmbodfaagreatdoor", sum := "ae04dac90e93d020136a28dcf821802f54240bf215d29b274eabbd450a176986", func := "aviary/aviarylaw13.QuotaFits", spec := "quotaFits", inPlace := ["internal/abi.NoEscape", "internal/bytealg.MakeNoZero", "internal/reflectlite.ValueOf", "(internal/reflectlite.Value).Type", "(internal/reflectlite.Value).IsNil", "internal/reflectlite.TypeOf", "(internal/reflectlite.Value).Elem", "(internal/reflectlite.Value).Set"], unfollowed := true, recurses := true, named := ["unicode/utf8.first", "unicode/utf8.acceptRanges", "errors.errorType"], apart := false, laid := [("unicode/utf8.acceptRanges", laid_unicode_utf8_acceptRanges), ("errors.errorType", laid_errors_errorType), ("unicode/utf8.first", laid_unicode_utf8_first)], narrowed := true }
def QuotaFitsUptoSaid : Prop := quotaFitsUptoRow.holds Tryz.pinned (OpenSpec.upto quotaFitsSpec)

/-- 'aviarylaw12.SeriesParts', WHERE WHAT IT READS IS OF BULK AT MOST 1048576: true; the input reads as it did. -/
def seriesPartsUptoRow : OpenClaim := { program := "ytpnlmfilmbodfaagreatdoor", sum := "ae04dac90e93d020136a28dcf821802f54240bf215d29b274eabbd450a176986", func := "aviary/aviarylaw12.SeriesParts", spec := "seriesParts", inPlace := ["internal/abi.NoEscape", "internal/bytealg.MakeNoZero", "internal/bytealg.IndexByteString", "internal/bytealg.IndexString", "internal/reflectlite.ValueOf", "(internal/reflectlite.Value).Type", "(internal/reflectlite.Value).IsNil", "internal/reflectlite.TypeOf", "(internal/reflectlite.Value).Elem", "(internal/reflectlite.Value).Set"], unfollowed := true, recurses := true, named := ["unicode/utf8.first", "unicode/utf8.acceptRanges", "internal/bytealg.MaxLen", "errors.errorType"], apart := false, laid := [("unicode/utf8.acceptRanges", laid_unicode_utf8_acceptRanges), ("errors.errorType", laid_errors_errorType), ("unicode/utf8.first", laid_unicode_utf8_first)], narrowed := true }
def SeriesPartsUptoSaid : Prop := seriesPartsUptoRow.holds Tryz.pinned (OpenSpec.upto seriesPartsSpec)

/-- 'aviarylaw12.SeriesMeant', WHERE WHAT IT READS IS OF BULK AT MOST 1048576: true; the input reads as it did. -/
def seriesMeantUptoRow : OpenClaim := { program := "ytpnlmfilmbodfaagreatdoor", sum := "ae04dac90e93d020136a28dcf821802f54240bf215d29b274eabbd450a176986", func := "aviary/aviarylaw12.SeriesMeant", spec := "seriesMeant", inPlace := ["internal/abi.NoEscape", "internal/bytealg.MakeNoZero", "internal/bytealg.IndexByteString", "internal/bytealg.IndexString", "internal/reflectlite.ValueOf", "(internal/reflectlite.Value).Type", "(internal/reflectlite.Value).IsNil", "internal/reflectlite.TypeOf", "(internal/reflectlite.Value).Elem", "(internal/reflectlite.Value).Set"], unfollowed := true, recurses := true, named := ["unicode/utf8.first", "unicode/utf8.acceptRanges", "internal/bytealg.MaxLen", "errors.errorType"], apart := false, laid := [("unicode/utf8.acceptRanges", laid_unicode_utf8_acceptRanges), ("errors.errorType", laid_errors_errorType), ("unicode/utf8.first", laid_unicode_utf8_first)], narrowed := true }
def SeriesMeantUptoSaid : Prop := seriesMeantUptoRow.holds Tryz.pinned (OpenSpec.upto seriesMeantSpec)

end Rows
end Go.Proofs.YtpnlmfilmbodfaaGreatDoor
