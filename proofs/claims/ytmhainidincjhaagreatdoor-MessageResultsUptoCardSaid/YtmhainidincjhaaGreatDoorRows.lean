/-
  NARROWER THAN 'FOR EVERY INPUT', by the rows' own cells (each row's printed sentence says how): MessageTells: laid · MessageBack: laid · PackTells: laid · PackBack: laid · PackOne: laid · PackReads: laid · MessageShort: laid · MessageReads: laid · PackShort: laid · PackErrors: laid · PackSizes: laid · MessageAny: laid · MessageResults: laid.
  DERIVED. THE GIVEN ROWS OF THIS SEAT. 13 by the template 'for every input the law returns true; each argument reads behind the call as it read before'; 0 by the template 'total and deterministic' (their statements: YtmhainidincjhaaGreatDoorTotals.lean).
  GIVEN WITH THE SEED: the statements are not yours to turn. If you find one false, say at which input.
  Laid BY PROGRAM, IN A SANDBOX (cutbox-rows.mjs): the forced cells as the released guide's own fill.sh prints them over the translation 1d498025bfeb9327… (all of the seat's roots in one cut). By AI agents, Wed Nov 11 2026. No macro, syntax, notation, axiom, sorry.
-/
import Derived.Test.YtmhainidincjhaaGreatDoorChecked
import GoSem.Claim
import GoSem.ClaimJoined
import GoSem.ClaimMapViews
import Derived.JoinedTies
import Derived.KernelRfl
namespace Go.Proofs.YtmhainidincjhaaGreatDoor
/- THE CELL 'sum', in the pinned program and in every row, IS THE sha256 OF THE DUMP (.gsa) THAT YtmhainidincjhaaGreatDoorProg.lean LOADS. Nothing in Lean hashes anything: it is a label: what it is worth is what the hold of that sum in a sandbox is worth. -/
noncomputable def Tryz.pinned : Pinned := { name := "ytmhainidincjhaagreatdoor", sum := "1d498025bfeb9327e74b9737e7be571fbbd6bd6cc439d6ea9eb0ad4a6aedda41", checked := Tryz.checked }
namespace Rows
def none {H : Type} : Left H := { results := [], args := [] }

/- WHAT THE LISTED PACKAGE-LEVEL VARIABLES READ AS WHEN THE CALL BEGINS. Each datum BY PROGRAM (the guide's laid-datum.mjs) off the statement by which the dump's own 'gosem.cut.vars' lays the variable. In a bare row this is a premise. The card (YtmhainidincjhaaGreatDoorCards.lean) ties it to the program's text. -/
def laid_errors_errorType {H : Type} : DataW H := .iface "internal/reflectlite.rtype" (.agg [.ptr (.lit (.string [101, 114, 114, 111, 114]))])

/-- 'actuarylaw27.MessageTells': WHATEVER THE INPUT: true; the input reads as it did. -/
def messageTellsSpec : ChangeSpec := { name := "messageTells", fn := fun _ => fun
  | [d] => { results := [.lit (.bool true)], args := [d] }
  | _ => none }
def messageTellsRow : OpenClaim := { program := "ytmhainidincjhaagreatdoor", sum := "1d498025bfeb9327e74b9737e7be571fbbd6bd6cc439d6ea9eb0ad4a6aedda41", func := "actuary/actuarylaw27.MessageTells", spec := "messageTells", inPlace := ["internal/reflectlite.ValueOf", "(internal/reflectlite.Value).Type", "(internal/reflectlite.Value).IsNil", "internal/reflectlite.TypeOf", "(internal/reflectlite.Value).Elem", "(internal/reflectlite.Value).Set"], unfollowed := true, recurses := true, named := ["errors.errorType"], apart := false, laid := [("errors.errorType", laid_errors_errorType)] }
def MessageTellsSaid : Prop := messageTellsRow.holds Tryz.pinned (OpenSpec.ofChange messageTellsSpec)

/-- ITS FALSE NEIGHBOUR: 'it returns false'. Refute it at one input. -/
def messageTellsWrong : ChangeSpec := { name := "messageTells", fn := fun _ => fun
  | [d] => { results := [.lit (.bool false)], args := [d] }
  | _ => none }
def MessageTellsWrongFalsely : Prop := messageTellsRow.holds Tryz.pinned (OpenSpec.ofChange messageTellsWrong)

/-- 'actuarylaw27.MessageBack': WHATEVER THE INPUT: true; the input reads as it did. -/
def messageBackSpec : ChangeSpec := { name := "messageBack", fn := fun _ => fun
  | [d1, d2] => { results := [.lit (.bool true)], args := [d1, d2] }
  | _ => none }
def messageBackRow : OpenClaim := { program := "ytmhainidincjhaagreatdoor", sum := "1d498025bfeb9327e74b9737e7be571fbbd6bd6cc439d6ea9eb0ad4a6aedda41", func := "actuary/actuarylaw27.MessageBack", spec := "messageBack", inPlace := ["internal/reflectlite.ValueOf", "(internal/reflectlite.Value).Type", "(internal/reflectlite.Value).IsNil", "internal/reflectlite.TypeOf", "(internal/reflectlite.Value).Elem", "(internal/reflectlite.Value).Set"], unfollowed := true, recurses := true, named := ["errors.errorType"], apart := false, laid := [("errors.errorType", laid_errors_errorType)] }
def MessageBackSaid : Prop := messageBackRow.holds Tryz.pinned (OpenSpec.ofChange messageBackSpec)

/-- ITS FALSE NEIGHBOUR: 'it returns false'. Refute it at one input. -/
def messageBackWrong : ChangeSpec := { name := "messageBack", fn := fun _ => fun
  | [d1, d2] => { results := [.lit (.bool false)], args := [d1, d2] }
  | _ => none }
def MessageBackWrongFalsely : Prop := messageBackRow.holds Tryz.pinned (OpenSpec.ofChange messageBackWrong)

/-- 'actuarylaw09.PackTells': WHATEVER THE INPUT: true; the input reads as it did. -/
def packTellsSpec : ChangeSpec := { name := "packTells", fn := fun _ => fun
  | [d] => { results := [.lit (.bool true)], args := [d] }
  | _ => none }
def packTellsRow : OpenClaim := { program := "ytmhainidincjhaagreatdoor", sum := "1d498025bfeb9327e74b9737e7be571fbbd6bd6cc439d6ea9eb0ad4a6aedda41", func := "actuary/actuarylaw09.PackTells", spec := "packTells", inPlace := ["internal/bytealg.IndexByteString", "internal/bytealg.IndexString", "internal/abi.NoEscape", "internal/reflectlite.ValueOf", "(internal/reflectlite.Value).Type", "(internal/reflectlite.Value).IsNil", "internal/reflectlite.TypeOf", "(internal/reflectlite.Value).Elem", "(internal/reflectlite.Value).Set"], unfollowed := true, recurses := true, named := ["internal/bytealg.MaxLen", "errors.errorType"], apart := false, laid := [("errors.errorType", laid_errors_errorType)] }
def PackTellsSaid : Prop := packTellsRow.holds Tryz.pinned (OpenSpec.ofChange packTellsSpec)

/-- ITS FALSE NEIGHBOUR: 'it returns false'. Refute it at one input. -/
def packTellsWrong : ChangeSpec := { name := "packTells", fn := fun _ => fun
  | [d] => { results := [.lit (.bool false)], args := [d] }
  | _ => none }
def PackTellsWrongFalsely : Prop := packTellsRow.holds Tryz.pinned (OpenSpec.ofChange packTellsWrong)

/-- 'actuarylaw09.PackBack': WHATEVER THE INPUT: true; the input reads as it did. -/
def packBackSpec : ChangeSpec := { name := "packBack", fn := fun _ => fun
  | [d1, d2, d3, d4] => { results := [.lit (.bool true)], args := [d1, d2, d3, d4] }
  | _ => none }
def packBackRow : OpenClaim := { program := "ytmhainidincjhaagreatdoor", sum := "1d498025bfeb9327e74b9737e7be571fbbd6bd6cc439d6ea9eb0ad4a6aedda41", func := "actuary/actuarylaw09.PackBack", spec := "packBack", inPlace := ["internal/bytealg.IndexByteString", "internal/bytealg.IndexString", "internal/abi.NoEscape", "internal/reflectlite.ValueOf", "(internal/reflectlite.Value).Type", "(internal/reflectlite.Value).IsNil", "internal/reflectlite.TypeOf", "(internal/reflectlite.Value).Elem", "(internal/reflectlite.Value).Set"], unfollowed := true, recurses := true, named := ["internal/bytealg.MaxLen", "errors.errorType"], apart := false, laid := [("errors.errorType", laid_errors_errorType)] }
def PackBackSaid : Prop := packBackRow.holds Tryz.pinned (OpenSpec.ofChange packBackSpec)

/-- ITS FALSE NEIGHBOUR: 'it returns false'. Refute it at one input. -/
def packBackWrong : ChangeSpec := { name := "packBack", fn := fun _ => fun
  | [d1, d2, d3, d4] => { results := [.lit (.bool false)], args := [d1, d2, d3, d4] }
  | _ => none }
def PackBackWrongFalsely : Prop := packBackRow.holds Tryz.pinned (OpenSpec.ofChange packBackWrong)

/-- 'actuarylaw09.PackOne': WHATEVER THE INPUT: true; the input reads as it did. -/
def packOneSpec : ChangeSpec := { name := "packOne", fn := fun _ => fun
  | [d1, d2] => { results := [.lit (.bool true)], args := [d1, d2] }
  | _ => none }
def packOneRow : OpenClaim := { program := "ytmhainidincjhaagreatdoor", sum := "1d498025bfeb9327e74b9737e7be571fbbd6bd6cc439d6ea9eb0ad4a6aedda41", func := "actuary/actuarylaw09.PackOne", spec := "packOne", inPlace := ["internal/bytealg.IndexByteString", "internal/bytealg.IndexString", "internal/abi.NoEscape", "internal/reflectlite.ValueOf", "(internal/reflectlite.Value).Type", "(internal/reflectlite.Value).IsNil", "internal/reflectlite.TypeOf", "(internal/reflectlite.Value).Elem", "(internal/reflectlite.Value).Set"], unfollowed := true, recurses := true, named := ["internal/bytealg.MaxLen", "errors.errorType"], apart := false, laid := [("errors.errorType", laid_errors_errorType)] }
def PackOneSaid : Prop := packOneRow.holds Tryz.pinned (OpenSpec.ofChange packOneSpec)

/-- ITS FALSE NEIGHBOUR: 'it returns false'. Refute it at one input. -/
def packOneWrong : ChangeSpec := { name := "packOne", fn := fun _ => fun
  | [d1, d2] => { results := [.lit (.bool false)], args := [d1, d2] }
  | _ => none }
def PackOneWrongFalsely : Prop := packOneRow.holds Tryz.pinned (OpenSpec.ofChange packOneWrong)

/-- 'actuarylaw09.PackReads': WHATEVER THE INPUT: true; the input reads as it did. -/
def packReadsSpec : ChangeSpec := { name := "packReads", fn := fun _ => fun
  | [d1, d2] => { results := [.lit (.bool true)], args := [d1, d2] }
  | _ => none }
def packReadsRow : OpenClaim := { program := "ytmhainidincjhaagreatdoor", sum := "1d498025bfeb9327e74b9737e7be571fbbd6bd6cc439d6ea9eb0ad4a6aedda41", func := "actuary/actuarylaw09.PackReads", spec := "packReads", inPlace := ["internal/bytealg.IndexByteString", "internal/bytealg.IndexString", "internal/abi.NoEscape", "internal/reflectlite.ValueOf", "(internal/reflectlite.Value).Type", "(internal/reflectlite.Value).IsNil", "internal/reflectlite.TypeOf", "(internal/reflectlite.Value).Elem", "(internal/reflectlite.Value).Set"], unfollowed := true, recurses := true, named := ["internal/bytealg.MaxLen", "errors.errorType"], apart := false, laid := [("errors.errorType", laid_errors_errorType)] }
def PackReadsSaid : Prop := packReadsRow.holds Tryz.pinned (OpenSpec.ofChange packReadsSpec)

/-- ITS FALSE NEIGHBOUR: 'it returns false'. Refute it at one input. -/
def packReadsWrong : ChangeSpec := { name := "packReads", fn := fun _ => fun
  | [d1, d2] => { results := [.lit (.bool false)], args := [d1, d2] }
  | _ => none }
def PackReadsWrongFalsely : Prop := packReadsRow.holds Tryz.pinned (OpenSpec.ofChange packReadsWrong)

/-- 'actuarylaw27.MessageShort': WHATEVER THE INPUT: true; the input reads as it did. -/
def messageShortSpec : ChangeSpec := { name := "messageShort", fn := fun _ => fun
  | [d1, d2, d3] => { results := [.lit (.bool true)], args := [d1, d2, d3] }
  | _ => none }
def messageShortRow : OpenClaim := { program := "ytmhainidincjhaagreatdoor", sum := "1d498025bfeb9327e74b9737e7be571fbbd6bd6cc439d6ea9eb0ad4a6aedda41", func := "actuary/actuarylaw27.MessageShort", spec := "messageShort", inPlace := ["internal/reflectlite.ValueOf", "(internal/reflectlite.Value).Type", "(internal/reflectlite.Value).IsNil", "internal/reflectlite.TypeOf", "(internal/reflectlite.Value).Elem", "(internal/reflectlite.Value).Set"], unfollowed := true, recurses := true, named := ["errors.errorType"], apart := false, laid := [("errors.errorType", laid_errors_errorType)] }
def MessageShortSaid : Prop := messageShortRow.holds Tryz.pinned (OpenSpec.ofChange messageShortSpec)

/-- ITS FALSE NEIGHBOUR: 'it returns false'. Refute it at one input. -/
def messageShortWrong : ChangeSpec := { name := "messageShort", fn := fun _ => fun
  | [d1, d2, d3] => { results := [.lit (.bool false)], args := [d1, d2, d3] }
  | _ => none }
def MessageShortWrongFalsely : Prop := messageShortRow.holds Tryz.pinned (OpenSpec.ofChange messageShortWrong)

/-- 'actuarylaw27.MessageReads': WHATEVER THE INPUT: true; the input reads as it did. -/
def messageReadsSpec : ChangeSpec := { name := "messageReads", fn := fun _ => fun
  | [d] => { results := [.lit (.bool true)], args := [d] }
  | _ => none }
def messageReadsRow : OpenClaim := { program := "ytmhainidincjhaagreatdoor", sum := "1d498025bfeb9327e74b9737e7be571fbbd6bd6cc439d6ea9eb0ad4a6aedda41", func := "actuary/actuarylaw27.MessageReads", spec := "messageReads", inPlace := ["internal/reflectlite.ValueOf", "(internal/reflectlite.Value).Type", "(internal/reflectlite.Value).IsNil", "internal/reflectlite.TypeOf", "(internal/reflectlite.Value).Elem", "(internal/reflectlite.Value).Set"], unfollowed := true, recurses := true, named := ["errors.errorType"], apart := false, laid := [("errors.errorType", laid_errors_errorType)] }
def MessageReadsSaid : Prop := messageReadsRow.holds Tryz.pinned (OpenSpec.ofChange messageReadsSpec)

/-- ITS FALSE NEIGHBOUR: 'it returns false'. Refute it at one input. -/
def messageReadsWrong : ChangeSpec := { name := "messageReads", fn := fun _ => fun
  | [d] => { results := [.lit (.bool false)], args := [d] }
  | _ => none }
def MessageReadsWrongFalsely : Prop := messageReadsRow.holds Tryz.pinned (OpenSpec.ofChange messageReadsWrong)

/-- 'actuarylaw09.PackShort': WHATEVER THE INPUT: true; the input reads as it did. -/
def packShortSpec : ChangeSpec := { name := "packShort", fn := fun _ => fun
  | [d1, d2] => { results := [.lit (.bool true)], args := [d1, d2] }
  | _ => none }
def packShortRow : OpenClaim := { program := "ytmhainidincjhaagreatdoor", sum := "1d498025bfeb9327e74b9737e7be571fbbd6bd6cc439d6ea9eb0ad4a6aedda41", func := "actuary/actuarylaw09.PackShort", spec := "packShort", inPlace := ["internal/bytealg.IndexByteString", "internal/bytealg.IndexString", "internal/abi.NoEscape", "internal/reflectlite.ValueOf", "(internal/reflectlite.Value).Type", "(internal/reflectlite.Value).IsNil", "internal/reflectlite.TypeOf", "(internal/reflectlite.Value).Elem", "(internal/reflectlite.Value).Set"], unfollowed := true, recurses := true, named := ["internal/bytealg.MaxLen", "errors.errorType"], apart := false, laid := [("errors.errorType", laid_errors_errorType)] }
def PackShortSaid : Prop := packShortRow.holds Tryz.pinned (OpenSpec.ofChange packShortSpec)

/-- ITS FALSE NEIGHBOUR: 'it returns false'. Refute it at one input. -/
def packShortWrong : ChangeSpec := { name := "packShort", fn := fun _ => fun
  | [d1, d2] => { results := [.lit (.bool false)], args := [d1, d2] }
  | _ => none }
def PackShortWrongFalsely : Prop := packShortRow.holds Tryz.pinned (OpenSpec.ofChange packShortWrong)

/-- 'actuarylaw09.PackErrors': WHATEVER THE INPUT: true; the input reads as it did. -/
def packErrorsSpec : ChangeSpec := { name := "packErrors", fn := fun _ => fun
  | [d1, d2] => { results := [.lit (.bool true)], args := [d1, d2] }
  | _ => none }
def packErrorsRow : OpenClaim := { program := "ytmhainidincjhaagreatdoor", sum := "1d498025bfeb9327e74b9737e7be571fbbd6bd6cc439d6ea9eb0ad4a6aedda41", func := "actuary/actuarylaw09.PackErrors", spec := "packErrors", inPlace := ["internal/bytealg.IndexByteString", "internal/bytealg.IndexString", "internal/abi.NoEscape", "internal/reflectlite.ValueOf", "(internal/reflectlite.Value).Type", "(internal/reflectlite.Value).IsNil", "internal/reflectlite.TypeOf", "(internal/reflectlite.Value).Elem", "(internal/reflectlite.Value).Set"], unfollowed := true, recurses := true, named := ["internal/bytealg.MaxLen", "errors.errorType"], apart := false, laid := [("errors.errorType", laid_errors_errorType)] }
def PackErrorsSaid : Prop := packErrorsRow.holds Tryz.pinned (OpenSpec.ofChange packErrorsSpec)

/-- ITS FALSE NEIGHBOUR: 'it returns false'. Refute it at one input. -/
def packErrorsWrong : ChangeSpec := { name := "packErrors", fn := fun _ => fun
  | [d1, d2] => { results := [.lit (.bool false)], args := [d1, d2] }
  | _ => none }
def PackErrorsWrongFalsely : Prop := packErrorsRow.holds Tryz.pinned (OpenSpec.ofChange packErrorsWrong)

/-- 'actuarylaw09.PackSizes': WHATEVER THE INPUT: true; the input reads as it did. -/
def packSizesSpec : ChangeSpec := { name := "packSizes", fn := fun _ => fun
  | [d] => { results := [.lit (.bool true)], args := [d] }
  | _ => none }
def packSizesRow : OpenClaim := { program := "ytmhainidincjhaagreatdoor", sum := "1d498025bfeb9327e74b9737e7be571fbbd6bd6cc439d6ea9eb0ad4a6aedda41", func := "actuary/actuarylaw09.PackSizes", spec := "packSizes", inPlace := ["internal/bytealg.IndexByteString", "internal/bytealg.IndexString", "internal/abi.NoEscape", "internal/reflectlite.ValueOf", "(internal/reflectlite.Value).Type", "(internal/reflectlite.Value).IsNil", "internal/reflectlite.TypeOf", "(internal/reflectlite.Value).Elem", "(internal/reflectlite.Value).Set"], unfollowed := true, recurses := true, named := ["internal/bytealg.MaxLen", "errors.errorType"], apart := false, laid := [("errors.errorType", laid_errors_errorType)] }
def PackSizesSaid : Prop := packSizesRow.holds Tryz.pinned (OpenSpec.ofChange packSizesSpec)

/-- ITS FALSE NEIGHBOUR: 'it returns false'. Refute it at one input. -/
def packSizesWrong : ChangeSpec := { name := "packSizes", fn := fun _ => fun
  | [d] => { results := [.lit (.bool false)], args := [d] }
  | _ => none }
def PackSizesWrongFalsely : Prop := packSizesRow.holds Tryz.pinned (OpenSpec.ofChange packSizesWrong)

/-- 'actuarylaw27.MessageAny': WHATEVER THE INPUT: true; the input reads as it did. -/
def messageAnySpec : ChangeSpec := { name := "messageAny", fn := fun _ => fun
  | [d1, d2, d3] => { results := [.lit (.bool true)], args := [d1, d2, d3] }
  | _ => none }
def messageAnyRow : OpenClaim := { program := "ytmhainidincjhaagreatdoor", sum := "1d498025bfeb9327e74b9737e7be571fbbd6bd6cc439d6ea9eb0ad4a6aedda41", func := "actuary/actuarylaw27.MessageAny", spec := "messageAny", inPlace := ["internal/reflectlite.ValueOf", "(internal/reflectlite.Value).Type", "(internal/reflectlite.Value).IsNil", "internal/reflectlite.TypeOf", "(internal/reflectlite.Value).Elem", "(internal/reflectlite.Value).Set"], unfollowed := true, recurses := true, named := ["errors.errorType"], apart := false, laid := [("errors.errorType", laid_errors_errorType)] }
def MessageAnySaid : Prop := messageAnyRow.holds Tryz.pinned (OpenSpec.ofChange messageAnySpec)

/-- ITS FALSE NEIGHBOUR: 'it returns false'. Refute it at one input. -/
def messageAnyWrong : ChangeSpec := { name := "messageAny", fn := fun _ => fun
  | [d1, d2, d3] => { results := [.lit (.bool false)], args := [d1, d2, d3] }
  | _ => none }
def MessageAnyWrongFalsely : Prop := messageAnyRow.holds Tryz.pinned (OpenSpec.ofChange messageAnyWrong)

/-- 'actuarylaw27.MessageResults': WHATEVER THE INPUT: true; the input reads as it did. -/
def messageResultsSpec : ChangeSpec := { name := "messageResults", fn := fun _ => fun
  | [d1, d2] => { results := [.lit (.bool true)], args := [d1, d2] }
  | _ => none }
def messageResultsRow : OpenClaim := { program := "ytmhainidincjhaagreatdoor", sum := "1d498025bfeb9327e74b9737e7be571fbbd6bd6cc439d6ea9eb0ad4a6aedda41", func := "actuary/actuarylaw27.MessageResults", spec := "messageResults", inPlace := ["internal/reflectlite.ValueOf", "(internal/reflectlite.Value).Type", "(internal/reflectlite.Value).IsNil", "internal/reflectlite.TypeOf", "(internal/reflectlite.Value).Elem", "(internal/reflectlite.Value).Set"], unfollowed := true, recurses := true, named := ["errors.errorType"], apart := false, laid := [("errors.errorType", laid_errors_errorType)] }
def MessageResultsSaid : Prop := messageResultsRow.holds Tryz.pinned (OpenSpec.ofChange messageResultsSpec)

/-- ITS FALSE NEIGHBOUR: 'it returns false'. Refute it at one input. -/
def messageResultsWrong : ChangeSpec := { name := "messageResults", fn := fun _ => fun
  | [d1, d2] => { results := [.lit (.bool false)], args := [d1, d2] }
  | _ => none }
def MessageResultsWrongFalsely : Prop := messageResultsRow.holds Tryz.pinned (OpenSpec.ofChange messageResultsWrong)

/- THE SECOND FORM. 'bulk': how many values and letters a reading holds, each counted each time it is reached (what is shared counts as often as it is met; a slice's spare places count too). A statement '..UptoSaid' is the law's where the arguments, and the package variables that the reading takes, are together of bulk at most 1048576: NARROWER than '..Said'. Prove '..Said' where nothing that the law and all that it calls make is longer than what came in: it says more and counts as full. Else prove '..UptoSaid'. A law counts once. -/
mutual
def uptoBulk {H : Type} : DataW H → Nat
  | .lit (.string bytes) => bytes.length + 1
  | .lit _ => 1
  | .nil => 1
  | .ptr d => uptoBulk d + 1
  | .slice elems spare => uptoBulkAll elems + uptoBulkAll spare + 1
  | .agg parts => uptoBulkAll parts + 1
  | .iface _ d => uptoBulk d + 1
  | .map entries => uptoBulkEntries entries + 1
  | .held _ => 1
def uptoBulkAll {H : Type} : List (DataW H) → Nat
  | [] => 0
  | d :: r => uptoBulk d + uptoBulkAll r
def uptoBulkEntries {H : Type} : List (Lit × DataW H) → Nat
  | [] => 0
  | x :: r => uptoBulkEntry x + uptoBulkEntries r
def uptoBulkEntry {H : Type} : Lit × DataW H → Nat
  | (.string bytes, d) => bytes.length + uptoBulk d + 1
  | (_, d) => uptoBulk d + 1
 end
def uptoSmall : (H : Type) → List (DataW H) → Bool := fun _ ds => decide (uptoBulkAll ds ≤ 1048576)
def OpenSpec.upto (s : _root_.Go.ChangeSpec) : _root_.Go.OpenSpec := { _root_.Go.OpenSpec.ofChange s with cond := some uptoSmall }

/-- 'actuarylaw27.MessageTells', WHERE WHAT IT READS IS OF BULK AT MOST 1048576: true; the input reads as it did. -/
def messageTellsUptoRow : OpenClaim := { program := "ytmhainidincjhaagreatdoor", sum := "1d498025bfeb9327e74b9737e7be571fbbd6bd6cc439d6ea9eb0ad4a6aedda41", func := "actuary/actuarylaw27.MessageTells", spec := "messageTells", inPlace := ["internal/reflectlite.ValueOf", "(internal/reflectlite.Value).Type", "(internal/reflectlite.Value).IsNil", "internal/reflectlite.TypeOf", "(internal/reflectlite.Value).Elem", "(internal/reflectlite.Value).Set"], unfollowed := true, recurses := true, named := ["errors.errorType"], apart := false, laid := [("errors.errorType", laid_errors_errorType)], narrowed := true }
def MessageTellsUptoSaid : Prop := messageTellsUptoRow.holds Tryz.pinned (OpenSpec.upto messageTellsSpec)

/-- 'actuarylaw27.MessageBack', WHERE WHAT IT READS IS OF BULK AT MOST 1048576: true; the input reads as it did. -/
def messageBackUptoRow : OpenClaim := { program := "ytmhainidincjhaagreatdoor", sum := "1d498025bfeb9327e74b9737e7be571fbbd6bd6cc439d6ea9eb0ad4a6aedda41", func := "actuary/actuarylaw27.MessageBack", spec := "messageBack", inPlace := ["internal/reflectlite.ValueOf", "(internal/reflectlite.Value).Type", "(internal/reflectlite.Value).IsNil", "internal/reflectlite.TypeOf", "(internal/reflectlite.Value).Elem", "(internal/reflectlite.Value).Set"], unfollowed := true, recurses := true, named := ["errors.errorType"], apart := false, laid := [("errors.errorType", laid_errors_errorType)], narrowed := true }
def MessageBackUptoSaid : Prop := messageBackUptoRow.holds Tryz.pinned (OpenSpec.upto messageBackSpec)

/-- 'actuarylaw09.PackTells', WHERE WHAT IT READS IS OF BULK AT MOST 1048576: true; the input reads as it did. -/
def packTellsUptoRow : OpenClaim := { program := "ytmhainidincjhaagreatdoor", sum := "1d498025bfeb9327e74b9737e7be571fbbd6bd6cc439d6ea9eb0ad4a6aedda41", func := "actuary/actuarylaw09.PackTells", spec := "packTells", inPlace := ["internal/bytealg.IndexByteString", "internal/bytealg.IndexString", "internal/abi.NoEscape", "internal/reflectlite.ValueOf", "(internal/reflectlite.Value).Type", "(internal/reflectlite.Value).IsNil", "internal/reflectlite.TypeOf", "(internal/reflectlite.Value).Elem", "(internal/reflectlite.Value).Set"], unfollowed := true, recurses := true, named := ["internal/bytealg.MaxLen", "errors.errorType"], apart := false, laid := [("errors.errorType", laid_errors_errorType)], narrowed := true }
def PackTellsUptoSaid : Prop := packTellsUptoRow.holds Tryz.pinned (OpenSpec.upto packTellsSpec)

/-- 'actuarylaw09.PackBack', WHERE WHAT IT READS IS OF BULK AT MOST 1048576: true; the input reads as it did. -/
def packBackUptoRow : OpenClaim := { program := "ytmhainidincjhaagreatdoor", sum := "1d498025bfeb9327e74b9737e7be571fbbd6bd6cc439d6ea9eb0ad4a6aedda41", func := "actuary/actuarylaw09.PackBack", spec := "packBack", inPlace := ["internal/bytealg.IndexByteString", "internal/bytealg.IndexString", "internal/abi.NoEscape", "internal/reflectlite.ValueOf", "(internal/reflectlite.Value).Type", "(internal/reflectlite.Value).IsNil", "internal/reflectlite.TypeOf", "(internal/reflectlite.Value).Elem", "(internal/reflectlite.Value).Set"], unfollowed := true, recurses := true, named := ["internal/bytealg.MaxLen", "errors.errorType"], apart := false, laid := [("errors.errorType", laid_errors_errorType)], narrowed := true }
def PackBackUptoSaid : Prop := packBackUptoRow.holds Tryz.pinned (OpenSpec.upto packBackSpec)

/-- 'actuarylaw09.PackOne', WHERE WHAT IT READS IS OF BULK AT MOST 1048576: true; the input reads as it did. -/
def packOneUptoRow : OpenClaim := { program := "ytmhainidincjhaagreatdoor", sum := "1d498025bfeb9327e74b9737e7be571fbbd6bd6cc439d6ea9eb0ad4a6aedda41", func := "actuary/actuarylaw09.PackOne", spec := "packOne", inPlace := ["internal/bytealg.IndexByteString", "internal/bytealg.IndexString", "internal/abi.NoEscape", "internal/reflectlite.ValueOf", "(internal/reflectlite.Value).Type", "(internal/reflectlite.Value).IsNil", "internal/reflectlite.TypeOf", "(internal/reflectlite.Value).Elem", "(internal/reflectlite.Value).Set"], unfollowed := true, recurses := true, named := ["internal/bytealg.MaxLen", "errors.errorType"], apart := false, laid := [("errors.errorType", laid_errors_errorType)], narrowed := true }
def PackOneUptoSaid : Prop := packOneUptoRow.holds Tryz.pinned (OpenSpec.upto packOneSpec)

/-- 'actuarylaw09.PackReads', WHERE WHAT IT READS IS OF BULK AT MOST 1048576: true; the input reads as it did. -/
def packReadsUptoRow : OpenClaim := { program := "ytmhainidincjhaagreatdoor", sum := "1d498025bfeb9327e74b9737e7be571fbbd6bd6cc439d6ea9eb0ad4a6aedda41", func := "actuary/actuarylaw09.PackReads", spec := "packReads", inPlace := ["internal/bytealg.IndexByteString", "internal/bytealg.IndexString", "internal/abi.NoEscape", "internal/reflectlite.ValueOf", "(internal/reflectlite.Value).Type", "(internal/reflectlite.Value).IsNil", "internal/reflectlite.TypeOf", "(internal/reflectlite.Value).Elem", "(internal/reflectlite.Value).Set"], unfollowed := true, recurses := true, named := ["internal/bytealg.MaxLen", "errors.errorType"], apart := false, laid := [("errors.errorType", laid_errors_errorType)], narrowed := true }
def PackReadsUptoSaid : Prop := packReadsUptoRow.holds Tryz.pinned (OpenSpec.upto packReadsSpec)

/-- 'actuarylaw27.MessageShort', WHERE WHAT IT READS IS OF BULK AT MOST 1048576: true; the input reads as it did. -/
def messageShortUptoRow : OpenClaim := { program := "ytmhainidincjhaagreatdoor", sum := "1d498025bfeb9327e74b9737e7be571fbbd6bd6cc439d6ea9eb0ad4a6aedda41", func := "actuary/actuarylaw27.MessageShort", spec := "messageShort", inPlace := ["internal/reflectlite.ValueOf", "(internal/reflectlite.Value).Type", "(internal/reflectlite.Value).IsNil", "internal/reflectlite.TypeOf", "(internal/reflectlite.Value).Elem", "(internal/reflectlite.Value).Set"], unfollowed := true, recurses := true, named := ["errors.errorType"], apart := false, laid := [("errors.errorType", laid_errors_errorType)], narrowed := true }
def MessageShortUptoSaid : Prop := messageShortUptoRow.holds Tryz.pinned (OpenSpec.upto messageShortSpec)

/-- 'actuarylaw27.MessageReads', WHERE WHAT IT READS IS OF BULK AT MOST 1048576: true; the input reads as it did. -/
def messageReadsUptoRow : OpenClaim := { program := "ytmhainidincjhaagreatdoor", sum := "1d498025bfeb9327e74b9737e7be571fbbd6bd6cc439d6ea9eb0ad4a6aedda41", func := "actuary/actuarylaw27.MessageReads", spec := "messageReads", inPlace := ["internal/reflectlite.ValueOf", "(internal/reflectlite.Value).Type", "(internal/reflectlite.Value).IsNil", "internal/reflectlite.TypeOf", "(internal/reflectlite.Value).Elem", "(internal/reflectlite.Value).Set"], unfollowed := true, recurses := true, named := ["errors.errorType"], apart := false, laid := [("errors.errorType", laid_errors_errorType)], narrowed := true }
def MessageReadsUptoSaid : Prop := messageReadsUptoRow.holds Tryz.pinned (OpenSpec.upto messageReadsSpec)

/-- 'actuarylaw09.PackShort', WHERE WHAT IT READS IS OF BULK AT MOST 1048576: true; the input reads as it did. -/
def packShortUptoRow : OpenClaim := { program := "ytmhainidincjhaagreatdoor", sum := "1d498025bfeb9327e74b9737e7be571fbbd6bd6cc439d6ea9eb0ad4a6aedda41", func := "actuary/actuarylaw09.PackShort", spec := "packShort", inPlace := ["internal/bytealg.IndexByteString", "internal/bytealg.IndexString", "internal/abi.NoEscape", "internal/reflectlite.ValueOf", "(internal/reflectlite.Value).Type", "(internal/reflectlite.Value).IsNil", "internal/reflectlite.TypeOf", "(internal/reflectlite.Value).Elem", "(internal/reflectlite.Value).Set"], unfollowed := true, recurses := true, named := ["internal/bytealg.MaxLen", "errors.errorType"], apart := false, laid := [("errors.errorType", laid_errors_errorType)], narrowed := true }
def PackShortUptoSaid : Prop := packShortUptoRow.holds Tryz.pinned (OpenSpec.upto packShortSpec)

/-- 'actuarylaw09.PackErrors', WHERE WHAT IT READS IS OF BULK AT MOST 1048576: true; the input reads as it did. -/
def packErrorsUptoRow : OpenClaim := { program := "ytmhainidincjhaagreatdoor", sum := "1d498025bfeb9327e74b9737e7be571fbbd6bd6cc439d6ea9eb0ad4a6aedda41", func := "actuary/actuarylaw09.PackErrors", spec := "packErrors", inPlace := ["internal/bytealg.IndexByteString", "internal/bytealg.IndexString", "internal/abi.NoEscape", "internal/reflectlite.ValueOf", "(internal/reflectlite.Value).Type", "(internal/reflectlite.Value).IsNil", "internal/reflectlite.TypeOf", "(internal/reflectlite.Value).Elem", "(internal/reflectlite.Value).Set"], unfollowed := true, recurses := true, named := ["internal/bytealg.MaxLen", "errors.errorType"], apart := false, laid := [("errors.errorType", laid_errors_errorType)], narrowed := true }
def PackErrorsUptoSaid : Prop := packErrorsUptoRow.holds Tryz.pinned (OpenSpec.upto packErrorsSpec)

/-- 'actuarylaw09.PackSizes', WHERE WHAT IT READS IS OF BULK AT MOST 1048576: true; the input reads as it did. -/
def packSizesUptoRow : OpenClaim := { program := "ytmhainidincjhaagreatdoor", sum := "1d498025bfeb9327e74b9737e7be571fbbd6bd6cc439d6ea9eb0ad4a6aedda41", func := "actuary/actuarylaw09.PackSizes", spec := "packSizes", inPlace := ["internal/bytealg.IndexByteString", "internal/bytealg.IndexString", "internal/abi.NoEscape", "internal/reflectlite.ValueOf", "(internal/reflectlite.Value).Type", "(internal/reflectlite.Value).IsNil", "internal/reflectlite.TypeOf", "(internal/reflectlite.Value).Elem", "(internal/reflectlite.Value).Set"], unfollowed := true, recurses := true, named := ["internal/bytealg.MaxLen", "errors.errorType"], apart := false, laid := [("errors.errorType", laid_errors_errorType)], narrowed := true }
def PackSizesUptoSaid : Prop := packSizesUptoRow.holds Tryz.pinned (OpenSpec.upto packSizesSpec)

/-- 'actuarylaw27.MessageAny', WHERE WHAT IT READS IS OF BULK AT MOST 1048576: true; the input reads as it did. -/
def messageAnyUptoRow : OpenClaim := { program := "ytmhainidincjhaagreatdoor", sum := "1d498025bfeb9327e74b9737e7be571fbbd6bd6cc439d6ea9eb0ad4a6aedda41", func := "actuary/actuarylaw27.MessageAny", spec := "messageAny", inPlace := ["internal/reflectlite.ValueOf", "(internal/reflectlite.Value).Type", "(internal/reflectlite.Value).IsNil", "internal/reflectlite.TypeOf", "(internal/reflectlite.Value).Elem", "(internal/reflectlite.Value).Set"], unfollowed := true, recurses := true, named := ["errors.errorType"], apart := false, laid := [("errors.errorType", laid_errors_errorType)], narrowed := true }
def MessageAnyUptoSaid : Prop := messageAnyUptoRow.holds Tryz.pinned (OpenSpec.upto messageAnySpec)

/-- 'actuarylaw27.MessageResults', WHERE WHAT IT READS IS OF BULK AT MOST 1048576: true; the input reads as it did. -/
def messageResultsUptoRow : OpenClaim := { program := "ytmhainidincjhaagreatdoor", sum := "1d498025bfeb9327e74b9737e7be571fbbd6bd6cc439d6ea9eb0ad4a6aedda41", func := "actuary/actuarylaw27.MessageResults", spec := "messageResults", inPlace := ["internal/reflectlite.ValueOf", "(internal/reflectlite.Value).Type", "(internal/reflectlite.Value).IsNil", "internal/reflectlite.TypeOf", "(internal/reflectlite.Value).Elem", "(internal/reflectlite.Value).Set"], unfollowed := true, recurses := true, named := ["errors.errorType"], apart := false, laid := [("errors.errorType", laid_errors_errorType)], narrowed := true }
def MessageResultsUptoSaid : Prop := messageResultsUptoRow.holds Tryz.pinned (OpenSpec.upto messageResultsSpec)

end Rows
end Go.Proofs.YtmhainidincjhaaGreatDoor
