/-
  NARROWER THAN 'FOR EVERY INPUT', by the rows' own cells (each row's printed sentence says how): QuotaChecks: laid · QuotaOne: laid · QuotaJust: laid · QuotaFits: laid.
  DERIVED. THE GIVEN ROWS OF THIS SEAT. 4 by the template 'for every input the law returns true; each argument reads behind the call as it read before'; 0 by the template 'total and deterministic' (their statements: YtgicnjpneoedoaaDoorTotals.lean).
  GIVEN WITH THE SEED: the statements are not yours to turn. If you find one false, say at which input.
  Laid BY PROGRAM, IN A SANDBOX (cutbox-rows.mjs): the forced cells as the released guide's own fill.sh prints them over the translation c590ba1725f503c2… (all of the seat's roots in one cut). By AI agents, Wed Nov 11 2026. No macro, syntax, notation, axiom, sorry.
-/
import Derived.Test.YtgicnjpneoedoaaDoorChecked
import GoSem.Claim
import GoSem.ClaimJoined
import GoSem.ClaimMapViews
import Derived.JoinedTies
import Derived.KernelRfl
namespace Go.Proofs.YtgicnjpneoedoaaDoor
/- THE CELL 'sum', in the pinned program and in every row, IS THE sha256 OF THE DUMP (.gsa) THAT YtgicnjpneoedoaaDoorProg.lean LOADS. Nothing in Lean hashes anything: it is a label: what it is worth is what the hold of that sum in a sandbox is worth. -/
noncomputable def Tryd.pinned : Pinned := { name := "ytgicnjpneoedoaadoor", sum := "c590ba1725f503c25e1d753474058012a239dba66c4f0957cfb60881f4cbd073", checked := Tryd.checked }
namespace Rows
def none {H : Type} : Left H := { results := [], args := [] }

/- WHAT THE LISTED PACKAGE-LEVEL VARIABLES READ AS WHEN THE CALL BEGINS. Each datum BY PROGRAM (the guide's laid-datum.mjs) off the statement by which the dump's own 'gosem.cut.vars' lays the variable. In a bare row this is a premise. The card (YtgicnjpneoedoaaDoorCards.lean) ties it to the program's text. -/
def laid_errors_errorType {H : Type} : DataW H := .iface "internal/reflectlite.rtype" (.agg [.ptr (.lit (.string [101, 114, 114, 111, 114]))])

/-- 'actuarylaw24.QuotaChecks': WHATEVER THE INPUT: true; the input reads as it did. -/
def quotaChecksSpec : ChangeSpec := { name := "quotaChecks", fn := fun _ => fun
  | [d1, d2] => { results := [.lit (.bool true)], args := [d1, d2] }
  | _ => none }
def quotaChecksRow : OpenClaim := { program := "ytgicnjpneoedoaadoor", sum := "c590ba1725f503c25e1d753474058012a239dba66c4f0957cfb60881f4cbd073", func := "actuary/actuarylaw24.QuotaChecks", spec := "quotaChecks", inPlace := ["internal/reflectlite.ValueOf", "(internal/reflectlite.Value).Type", "(internal/reflectlite.Value).IsNil", "internal/reflectlite.TypeOf", "(internal/reflectlite.Value).Elem", "(internal/reflectlite.Value).Set"], unfollowed := true, recurses := true, named := ["errors.errorType"], apart := false, laid := [("errors.errorType", laid_errors_errorType)] }
def QuotaChecksSaid : Prop := quotaChecksRow.holds Tryd.pinned (OpenSpec.ofChange quotaChecksSpec)

/-- ITS FALSE NEIGHBOUR: 'it returns false'. Refute it at one input. -/
def quotaChecksWrong : ChangeSpec := { name := "quotaChecks", fn := fun _ => fun
  | [d1, d2] => { results := [.lit (.bool false)], args := [d1, d2] }
  | _ => none }
def QuotaChecksWrongFalsely : Prop := quotaChecksRow.holds Tryd.pinned (OpenSpec.ofChange quotaChecksWrong)

/-- 'actuarylaw24.QuotaOne': WHATEVER THE INPUT: true; the input reads as it did. -/
def quotaOneSpec : ChangeSpec := { name := "quotaOne", fn := fun _ => fun
  | [d1, d2, d3] => { results := [.lit (.bool true)], args := [d1, d2, d3] }
  | _ => none }
def quotaOneRow : OpenClaim := { program := "ytgicnjpneoedoaadoor", sum := "c590ba1725f503c25e1d753474058012a239dba66c4f0957cfb60881f4cbd073", func := "actuary/actuarylaw24.QuotaOne", spec := "quotaOne", inPlace := ["internal/reflectlite.ValueOf", "(internal/reflectlite.Value).Type", "(internal/reflectlite.Value).IsNil", "internal/reflectlite.TypeOf", "(internal/reflectlite.Value).Elem", "(internal/reflectlite.Value).Set"], unfollowed := true, recurses := true, named := ["errors.errorType"], apart := false, laid := [("errors.errorType", laid_errors_errorType)] }
def QuotaOneSaid : Prop := quotaOneRow.holds Tryd.pinned (OpenSpec.ofChange quotaOneSpec)

/-- ITS FALSE NEIGHBOUR: 'it returns false'. Refute it at one input. -/
def quotaOneWrong : ChangeSpec := { name := "quotaOne", fn := fun _ => fun
  | [d1, d2, d3] => { results := [.lit (.bool false)], args := [d1, d2, d3] }
  | _ => none }
def QuotaOneWrongFalsely : Prop := quotaOneRow.holds Tryd.pinned (OpenSpec.ofChange quotaOneWrong)

/-- 'actuarylaw24.QuotaJust': WHATEVER THE INPUT: true; the input reads as it did. -/
def quotaJustSpec : ChangeSpec := { name := "quotaJust", fn := fun _ => fun
  | [d1, d2] => { results := [.lit (.bool true)], args := [d1, d2] }
  | _ => none }
def quotaJustRow : OpenClaim := { program := "ytgicnjpneoedoaadoor", sum := "c590ba1725f503c25e1d753474058012a239dba66c4f0957cfb60881f4cbd073", func := "actuary/actuarylaw24.QuotaJust", spec := "quotaJust", inPlace := ["internal/reflectlite.ValueOf", "(internal/reflectlite.Value).Type", "(internal/reflectlite.Value).IsNil", "internal/reflectlite.TypeOf", "(internal/reflectlite.Value).Elem", "(internal/reflectlite.Value).Set"], unfollowed := true, recurses := true, named := ["errors.errorType"], apart := false, laid := [("errors.errorType", laid_errors_errorType)] }
def QuotaJustSaid : Prop := quotaJustRow.holds Tryd.pinned (OpenSpec.ofChange quotaJustSpec)

/-- ITS FALSE NEIGHBOUR: 'it returns false'. Refute it at one input. -/
def quotaJustWrong : ChangeSpec := { name := "quotaJust", fn := fun _ => fun
  | [d1, d2] => { results := [.lit (.bool false)], args := [d1, d2] }
  | _ => none }
def QuotaJustWrongFalsely : Prop := quotaJustRow.holds Tryd.pinned (OpenSpec.ofChange quotaJustWrong)

/-- 'actuarylaw24.QuotaFits': WHATEVER THE INPUT: true; the input reads as it did. -/
def quotaFitsSpec : ChangeSpec := { name := "quotaFits", fn := fun _ => fun
  | [d1, d2, d3] => { results := [.lit (.bool true)], args := [d1, d2, d3] }
  | _ => none }
def quotaFitsRow : OpenClaim := { program := "ytgicnjpneoedoaadoor", sum := "c590ba1725f503c25e1d753474058012a239dba66c4f0957cfb60881f4cbd073", func := "actuary/actuarylaw24.QuotaFits", spec := "quotaFits", inPlace := ["internal/reflectlite.ValueOf", "(internal/reflectlite.Value).Type", "(internal/reflectlite.Value).IsNil", "internal/reflectlite.TypeOf", "(internal/reflectlite.Value).Elem", "(internal/reflectlite.Value).Set"], unfollowed := true, recurses := true, named := ["errors.errorType"], apart := false, laid := [("errors.errorType", laid_errors_errorType)] }
def QuotaFitsSaid : Prop := quotaFitsRow.holds Tryd.pinned (OpenSpec.ofChange quotaFitsSpec)

/-- ITS FALSE NEIGHBOUR: 'it returns false'. Refute it at one input. -/
def quotaFitsWrong : ChangeSpec := { name := "quotaFits", fn := fun _ => fun
  | [d1, d2, d3] => { results := [.lit (.bool false)], args := [d1, d2, d3] }
  | _ => none }
def QuotaFitsWrongFalsely : Prop := quotaFitsRow.holds Tryd.pinned (OpenSpec.ofChange quotaFitsWrong)

/- THE SECOND FORM. 'bulk': how many values and letters a reading holds, each counted each time it is reached (what is shared counts as often as it is met; a slice's spare places count too). A statement '..UptoSaid' is the law's where the arguments, and the package variables that the reading takes, are together of bulk at most 1048576: NARROWER than '..Said'. Prove '..Said' where nothing that the law and all that it calls make is longer than what came in: it says more and counts as full. Else prove '..UptoSaid'. A law counts once. -/
mutual
def uptoBulk {H : Type} : DataW H → Nat
  | .lit (.string bytes) => bytes.length + 1
  | .lit _ => 1
  | .nil => 1
  | .ptr d => uptoBulk d + 1
  | .slice elems spare => uptoBulkAll elems + uptoBulkAll spare + 1
  | .agg parts => uptoBulkAll parts + 1
  | .iface _ d => uptoBulk d + 1
  | .map entries => uptoBulkEntries entries + 1
  | .held _ => 1
def uptoBulkAll {H : Type} : List (DataW H) → Nat
  | [] => 0
  | d :: r => uptoBulk d + uptoBulkAll r
def uptoBulkEntries {H : Type} : List (Lit × DataW H) → Nat
  | [] => 0
  | x :: r => uptoBulkEntry x + uptoBulkEntries r
def uptoBulkEntry {H : Type} : Lit × DataW H → Nat
  | (.string bytes, d) => bytes.length + uptoBulk d + 1
  | (_, d) => uptoBulk d + 1
 end
def uptoSmall : (H : Type) → List (DataW H) → Bool := fun _ ds => decide (uptoBulkAll ds ≤ 1048576)
def OpenSpec.upto (s : _root_.Go.ChangeSpec) : _root_.Go.OpenSpec := { _root_.Go.OpenSpec.ofChange s with cond := some uptoSmall }

/-- 'actuarylaw24.QuotaChecks', WHERE WHAT IT READS IS OF BULK AT MOST 1048576: true; the input reads as it did. -/
def quotaChecksUptoRow : OpenClaim := { program := "ytgicnjpneoedoaadoor", sum := "c590ba1725f503c25e1d753474058012a239dba66c4f0957cfb60881f4cbd073", func := "actuary/actuarylaw24.QuotaChecks", spec := "quotaChecks", inPlace := ["internal/reflectlite.ValueOf", "(internal/reflectlite.Value).Type", "(internal/reflectlite.Value).IsNil", "internal/reflectlite.TypeOf", "(internal/reflectlite.Value).Elem", "(internal/reflectlite.Value).Set"], unfollowed := true, recurses := true, named := ["errors.errorType"], apart := false, laid := [("errors.errorType", laid_errors_errorType)], narrowed := true }
def QuotaChecksUptoSaid : Prop := quotaChecksUptoRow.holds Tryd.pinned (OpenSpec.upto quotaChecksSpec)

/-- 'actuarylaw24.QuotaOne', WHERE WHAT IT READS IS OF BULK AT MOST 1048576: true; the input reads as it did. -/
def quotaOneUptoRow : OpenClaim := { program := "ytgicnjpneoedoaadoor", sum := "c590ba1725f503c25e1d753474058012a239dba66c4f0957cfb60881f4cbd073", func := "actuary/actuarylaw24.QuotaOne", spec := "quotaOne", inPlace := ["internal/reflectlite.ValueOf", "(internal/reflectlite.Value).Type", "(internal/reflectlite.Value).IsNil", "internal/reflectlite.TypeOf", "(internal/reflectlite.Value).Elem", "(internal/reflectlite.Value).Set"], unfollowed := true, recurses := true, named := ["errors.errorType"], apart := false, laid := [("errors.errorType", laid_errors_errorType)], narrowed := true }
def QuotaOneUptoSaid : Prop := quotaOneUptoRow.holds Tryd.pinned (OpenSpec.upto quotaOneSpec)

/-- 'actuarylaw24.QuotaJust', WHERE WHAT IT READS IS OF BULK AT MOST 1048576: true; the input reads as it did. -/
def quotaJustUptoRow : OpenClaim := { program := "ytgicnjpneoedoaadoor", sum := "c590ba1725f503c25e1d753474058012a239dba66c4f0957cfb60881f4cbd073", func := "actuary/actuarylaw24.QuotaJust", spec := "quotaJust", inPlace := ["internal/reflectlite.ValueOf", "(internal/reflectlite.Value).Type", "(internal/reflectlite.Value).IsNil", "internal/reflectlite.TypeOf", "(internal/reflectlite.Value).Elem", "(internal/reflectlite.Value).Set"], unfollowed := true, recurses := true, named := ["errors.errorType"], apart := false, laid := [("errors.errorType", laid_errors_errorType)], narrowed := true }
def QuotaJustUptoSaid : Prop := quotaJustUptoRow.holds Tryd.pinned (OpenSpec.upto quotaJustSpec)

/-- 'actuarylaw24.QuotaFits', WHERE WHAT IT READS IS OF BULK AT MOST 1048576: true; the input reads as it did. -/
def quotaFitsUptoRow : OpenClaim := { program := "ytgicnjpneoedoaadoor", sum := "c590ba1725f503c25e1d753474058012a239dba66c4f0957cfb60881f4cbd073", func := "actuary/actuarylaw24.QuotaFits", spec := "quotaFits", inPlace := ["internal/reflectlite.ValueOf", "(internal/reflectlite.Value).Type", "(internal/reflectlite.Value).IsNil", "internal/reflectlite.TypeOf", "(internal/reflectlite.Value).Elem", "(internal/reflectlite.Value).Set"], unfollowed := true, recurses := true, named := ["errors.errorType"], apart := false, laid := [("errors.errorType", laid_errors_errorType)], narrowed := true }
def QuotaFitsUptoSaid : Prop := quotaFitsUptoRow.holds Tryd.pinned (OpenSpec.upto quotaFitsSpec)

end Rows
end Go.Proofs.YtgicnjpneoedoaaDoor
