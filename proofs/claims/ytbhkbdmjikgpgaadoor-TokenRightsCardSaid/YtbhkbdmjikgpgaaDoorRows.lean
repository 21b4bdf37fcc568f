/-
  NARROWER THAN 'FOR EVERY INPUT', by the rows' own cells (each row's printed sentence says how): TokenEqual: laid · TokenTenants: laid · TokenDoes: laid · TokenRights: laid · TokenMints: laid.
  DERIVED. THE GIVEN ROWS OF THIS SEAT. 5 by the template 'for every input the law returns true; each argument reads behind the call as it read before'; 0 by the template 'total and deterministic' (their statements: YtbhkbdmjikgpgaaDoorTotals.lean).
  GIVEN WITH THE SEED: the statements are not yours to turn. If you find one false, say at which input.
  Laid BY PROGRAM, IN A SANDBOX (cutbox-rows.mjs): the forced cells as the released guide's own fill.sh prints them over the translation 3b3520a31c7331dc… (all of the seat's roots in one cut). By AI agents, Wed Nov 11 2026. No macro, syntax, notation, axiom, sorry.
-/
import Derived.Test.YtbhkbdmjikgpgaaDoorChecked
import GoSem.Claim
import GoSem.ClaimJoined
import GoSem.ClaimMapViews
import Derived.JoinedTies
import Derived.KernelRfl
namespace Go.Proofs.YtbhkbdmjikgpgaaDoor
/- THE CELL 'sum', in the pinned program and in every row, IS THE sha256 OF THE DUMP (.gsa) THAT YtbhkbdmjikgpgaaDoorProg.lean LOADS. Nothing in Lean hashes anything: it is a label: what it is worth is what the hold of that sum in a sandbox is worth. -/
noncomputable def Tryd.pinned : Pinned := { name := "ytbhkbdmjikgpgaadoor", sum := "3b3520a31c7331dc7b07df1b7863a40942d909a78bd0b2f57d804839a03d4101", checked := Tryd.checked }
namespace Rows
def none {H : Type} : Left H := { results := [], args := [] }

/- WHAT THE LISTED PACKAGE-LEVEL VARIABLES READ AS WHEN THE CALL BEGINS. Each datum BY PROGRAM (the guide's laid-datum.mjs) off the statement by which the dump's own 'gosem.cut.vars' lays the variable. In a bare row this is a premise. The card (YtbhkbdmjikgpgaaDoorCards.lean) ties it to the program's text. -/
def laid_errors_errorType {H : Type} : DataW H := .iface "internal/reflectlite.rtype" (.agg [.ptr (.lit (.string [101, 114, 114, 111, 114]))])

/-- 'actuarylaw28.TokenEqual': WHATEVER THE INPUT: true; the input reads as it did. -/
def tokenEqualSpec : ChangeSpec := { name := "tokenEqual", fn := fun _ => fun
  | [d1, d2] => { results := [.lit (.bool true)], args := [d1, d2] }
  | _ => none }
def tokenEqualRow : OpenClaim := { program := "ytbhkbdmjikgpgaadoor", sum := "3b3520a31c7331dc7b07df1b7863a40942d909a78bd0b2f57d804839a03d4101", func := "actuary/actuarylaw28.TokenEqual", spec := "tokenEqual", inPlace := ["internal/reflectlite.ValueOf", "(internal/reflectlite.Value).Type", "(internal/reflectlite.Value).IsNil", "internal/reflectlite.TypeOf", "(internal/reflectlite.Value).Elem", "(internal/reflectlite.Value).Set"], unfollowed := true, recurses := true, named := ["errors.errorType"], apart := false, laid := [("errors.errorType", laid_errors_errorType)] }
def TokenEqualSaid : Prop := tokenEqualRow.holds Tryd.pinned (OpenSpec.ofChange tokenEqualSpec)

/-- ITS FALSE NEIGHBOUR: 'it returns false'. Refute it at one input. -/
def tokenEqualWrong : ChangeSpec := { name := "tokenEqual", fn := fun _ => fun
  | [d1, d2] => { results := [.lit (.bool false)], args := [d1, d2] }
  | _ => none }
def TokenEqualWrongFalsely : Prop := tokenEqualRow.holds Tryd.pinned (OpenSpec.ofChange tokenEqualWrong)

/-- 'actuarylaw28.TokenTenants': WHATEVER THE INPUT: true; the input reads as it did. -/
def tokenTenantsSpec : ChangeSpec := { name := "tokenTenants", fn := fun _ => fun
  | [d1, d2, d3, d4] => { results := [.lit (.bool true)], args := [d1, d2, d3, d4] }
  | _ => none }
def tokenTenantsRow : OpenClaim := { program := "ytbhkbdmjikgpgaadoor", sum := "3b3520a31c7331dc7b07df1b7863a40942d909a78bd0b2f57d804839a03d4101", func := "actuary/actuarylaw28.TokenTenants", spec := "tokenTenants", inPlace := ["internal/reflectlite.ValueOf", "(internal/reflectlite.Value).Type", "(internal/reflectlite.Value).IsNil", "internal/reflectlite.TypeOf", "(internal/reflectlite.Value).Elem", "(internal/reflectlite.Value).Set"], unfollowed := true, recurses := true, named := ["errors.errorType"], apart := false, laid := [("errors.errorType", laid_errors_errorType)] }
def TokenTenantsSaid : Prop := tokenTenantsRow.holds Tryd.pinned (OpenSpec.ofChange tokenTenantsSpec)

/-- ITS FALSE NEIGHBOUR: 'it returns false'. Refute it at one input. -/
def tokenTenantsWrong : ChangeSpec := { name := "tokenTenants", fn := fun _ => fun
  | [d1, d2, d3, d4] => { results := [.lit (.bool false)], args := [d1, d2, d3, d4] }
  | _ => none }
def TokenTenantsWrongFalsely : Prop := tokenTenantsRow.holds Tryd.pinned (OpenSpec.ofChange tokenTenantsWrong)

/-- 'actuarylaw28.TokenDoes': WHATEVER THE INPUT: true; the input reads as it did. -/
def tokenDoesSpec : ChangeSpec := { name := "tokenDoes", fn := fun _ => fun
  | [d1, d2, d3, d4] => { results := [.lit (.bool true)], args := [d1, d2, d3, d4] }
  | _ => none }
def tokenDoesRow : OpenClaim := { program := "ytbhkbdmjikgpgaadoor", sum := "3b3520a31c7331dc7b07df1b7863a40942d909a78bd0b2f57d804839a03d4101", func := "actuary/actuarylaw28.TokenDoes", spec := "tokenDoes", inPlace := ["internal/reflectlite.ValueOf", "(internal/reflectlite.Value).Type", "(internal/reflectlite.Value).IsNil", "internal/reflectlite.TypeOf", "(internal/reflectlite.Value).Elem", "(internal/reflectlite.Value).Set"], unfollowed := true, recurses := true, named := ["errors.errorType"], apart := false, laid := [("errors.errorType", laid_errors_errorType)] }
def TokenDoesSaid : Prop := tokenDoesRow.holds Tryd.pinned (OpenSpec.ofChange tokenDoesSpec)

/-- ITS FALSE NEIGHBOUR: 'it returns false'. Refute it at one input. -/
def tokenDoesWrong : ChangeSpec := { name := "tokenDoes", fn := fun _ => fun
  | [d1, d2, d3, d4] => { results := [.lit (.bool false)], args := [d1, d2, d3, d4] }
  | _ => none }
def TokenDoesWrongFalsely : Prop := tokenDoesRow.holds Tryd.pinned (OpenSpec.ofChange tokenDoesWrong)

/-- 'actuarylaw28.TokenRights': WHATEVER THE INPUT: true; the input reads as it did. -/
def tokenRightsSpec : ChangeSpec := { name := "tokenRights", fn := fun _ => fun
  | [d1, d2, d3] => { results := [.lit (.bool true)], args := [d1, d2, d3] }
  | _ => none }
def tokenRightsRow : OpenClaim := { program := "ytbhkbdmjikgpgaadoor", sum := "3b3520a31c7331dc7b07df1b7863a40942d909a78bd0b2f57d804839a03d4101", func := "actuary/actuarylaw28.TokenRights", spec := "tokenRights", inPlace := ["internal/reflectlite.ValueOf", "(internal/reflectlite.Value).Type", "(internal/reflectlite.Value).IsNil", "internal/reflectlite.TypeOf", "(internal/reflectlite.Value).Elem", "(internal/reflectlite.Value).Set"], unfollowed := true, recurses := true, named := ["errors.errorType"], apart := false, laid := [("errors.errorType", laid_errors_errorType)] }
def TokenRightsSaid : Prop := tokenRightsRow.holds Tryd.pinned (OpenSpec.ofChange tokenRightsSpec)

/-- ITS FALSE NEIGHBOUR: 'it returns false'. Refute it at one input. -/
def tokenRightsWrong : ChangeSpec := { name := "tokenRights", fn := fun _ => fun
  | [d1, d2, d3] => { results := [.lit (.bool false)], args := [d1, d2, d3] }
  | _ => none }
def TokenRightsWrongFalsely : Prop := tokenRightsRow.holds Tryd.pinned (OpenSpec.ofChange tokenRightsWrong)

/-- 'actuarylaw28.TokenMints': WHATEVER THE INPUT: true; the input reads as it did. -/
def tokenMintsSpec : ChangeSpec := { name := "tokenMints", fn := fun _ => fun
  | [d1, d2, d3] => { results := [.lit (.bool true)], args := [d1, d2, d3] }
  | _ => none }
def tokenMintsRow : OpenClaim := { program := "ytbhkbdmjikgpgaadoor", sum := "3b3520a31c7331dc7b07df1b7863a40942d909a78bd0b2f57d804839a03d4101", func := "actuary/actuarylaw28.TokenMints", spec := "tokenMints", inPlace := ["internal/reflectlite.ValueOf", "(internal/reflectlite.Value).Type", "(internal/reflectlite.Value).IsNil", "internal/reflectlite.TypeOf", "(internal/reflectlite.Value).Elem", "(internal/reflectlite.Value).Set"], unfollowed := true, recurses := true, named := ["errors.errorType"], apart := false, laid := [("errors.errorType", laid_errors_errorType)] }
def TokenMintsSaid : Prop := tokenMintsRow.holds Tryd.pinned (OpenSpec.ofChange tokenMintsSpec)

/-- ITS FALSE NEIGHBOUR: 'it returns false'. Refute it at one input. -/
def tokenMintsWrong : ChangeSpec := { name := "tokenMints", fn := fun _ => fun
  | [d1, d2, d3] => { results := [.lit (.bool false)], args := [d1, d2, d3] }
  | _ => none }
def TokenMintsWrongFalsely : Prop := tokenMintsRow.holds Tryd.pinned (OpenSpec.ofChange tokenMintsWrong)

/- THE SECOND FORM. 'bulk': how many values and letters a reading holds, each counted each time it is reached (what is shared counts as often as it is met; a slice's spare places count too). A statement '..UptoSaid' is the law's where the arguments, and the package variables that the reading takes, are together of bulk at most 1048576: NARROWER than '..Said'. Prove '..Said' where nothing that the law and all that it calls make is longer than what came in: it says more and counts as full. Else prove '..UptoSaid'. A law counts once. -/
mutual
def uptoBulk {H : Type} : DataW H → Nat
  | .lit (.string bytes) => bytes.length + 1
  | .lit _ => 1
  | .nil => 1
  | .ptr d => uptoBulk d + 1
  | .slice elems spare => uptoBulkAll elems + uptoBulkAll spare + 1
  | .agg parts => uptoBulkAll parts + 1
  | .iface _ d => uptoBulk d + 1
  | .map entries => uptoBulkEntries entries + 1
  | .held _ => 1
def uptoBulkAll {H : Type} : List (DataW H) → Nat
  | [] => 0
  | d :: r => uptoBulk d + uptoBulkAll r
def uptoBulkEntries {H : Type} : List (Lit × DataW H) → Nat
  | [] => 0
  | x :: r => uptoBulkEntry x + uptoBulkEntries r
def uptoBulkEntry {H : Type} : Lit × DataW H → Nat
  | (.string bytes, d) => bytes.length + uptoBulk d + 1
  | (_, d) => uptoBulk d + 1
 end
def uptoSmall : (H : Type) → List (DataW H) → Bool := fun _ ds => decide (uptoBulkAll ds ≤ 1048576)
def OpenSpec.upto (s : _root_.Go.ChangeSpec) : _root_.Go.OpenSpec := { _root_.Go.OpenSpec.ofChange s with cond := some uptoSmall }

/-- 'actuarylaw28.TokenEqual', WHERE WHAT IT READS IS OF BULK AT MOST 1048576: true; the input reads as it did. -/
def tokenEqualUptoRow : OpenClaim := { program := "ytbhkbdmjikgpgaadoor", sum := "3b3520a31c7331dc7b07df1b7863a40942d909a78bd0b2f57d804839a03d4101", func := "actuary/actuarylaw28.TokenEqual", spec := "tokenEqual", inPlace := ["internal/reflectlite.ValueOf", "(internal/reflectlite.Value).Type", "(internal/reflectlite.Value).IsNil", "internal/reflectlite.TypeOf", "(internal/reflectlite.Value).Elem", "(internal/reflectlite.Value).Set"], unfollowed := true, recurses := true, named := ["errors.errorType"], apart := false, laid := [("errors.errorType", laid_errors_errorType)], narrowed := true }
def TokenEqualUptoSaid : Prop := tokenEqualUptoRow.holds Tryd.pinned (OpenSpec.upto tokenEqualSpec)

/-- 'actuarylaw28.TokenTenants', WHERE WHAT IT READS IS OF BULK AT MOST 1048576: true; the input reads as it did. -/
def tokenTenantsUptoRow : OpenClaim := { program := "ytbhkbdmjikgpgaadoor", sum := "3b3520a31c7331dc7b07df1b7863a40942d909a78bd0b2f57d804839a03d4101", func := "actuary/actuarylaw28.TokenTenants", spec := "tokenTenants", inPlace := ["internal/reflectlite.ValueOf", "(internal/reflectlite.Value).Type", "(internal/reflectlite.Value).IsNil", "internal/reflectlite.TypeOf", "(internal/reflectlite.Value).Elem", "(internal/reflectlite.Value).Set"], unfollowed := true, recurses := true, named := ["errors.errorType"], apart := false, laid := [("errors.errorType", laid_errors_errorType)], narrowed := true }
def TokenTenantsUptoSaid : Prop := tokenTenantsUptoRow.holds Tryd.pinned (OpenSpec.upto tokenTenantsSpec)

/-- 'actuarylaw28.TokenDoes', WHERE WHAT IT READS IS OF BULK AT MOST 1048576: true; the input reads as it did. -/
def tokenDoesUptoRow : OpenClaim := { program := "ytbhkbdmjikgpgaadoor", sum := "3b3520a31c7331dc7b07df1b7863a40942d909a78bd0b2f57d804839a03d4101", func := "actuary/actuarylaw28.TokenDoes", spec := "tokenDoes", inPlace := ["internal/reflectlite.ValueOf", "(internal/reflectlite.Value).Type", "(internal/reflectlite.Value).IsNil", "internal/reflectlite.TypeOf", "(internal/reflectlite.Value).Elem", "(internal/reflectlite.Value).Set"], unfollowed := true, recurses := true, named := ["errors.errorType"], apart := false, laid := [("errors.errorType", laid_errors_errorType)], narrowed := true }
def TokenDoesUptoSaid : Prop := tokenDoesUptoRow.holds Tryd.pinned (OpenSpec.upto tokenDoesSpec)

/-- 'actuarylaw28.TokenRights', WHERE WHAT IT READS IS OF BULK AT MOST 1048576: true; the input reads as it did. -/
def tokenRightsUptoRow : OpenClaim := { program := "ytbhkbdmjikgpgaadoor", sum := "3b3520a31c7331dc7b07df1b7863a40942d909a78bd0b2f57d804839a03d4101", func := "actuary/actuarylaw28.TokenRights", spec := "tokenRights", inPlace := ["internal/reflectlite.ValueOf", "(internal/reflectlite.Value).Type", "(internal/reflectlite.Value).IsNil", "internal/reflectlite.TypeOf", "(internal/reflectlite.Value).Elem", "(internal/reflectlite.Value).Set"], unfollowed := true, recurses := true, named := ["errors.errorType"], apart := false, laid := [("errors.errorType", laid_errors_errorType)], narrowed := true }
def TokenRightsUptoSaid : Prop := tokenRightsUptoRow.holds Tryd.pinned (OpenSpec.upto tokenRightsSpec)

/-- 'actuarylaw28.TokenMints', WHERE WHAT IT READS IS OF BULK AT MOST 1048576: true; the input reads as it did. -/
def tokenMintsUptoRow : OpenClaim := { program := "ytbhkbdmjikgpgaadoor", sum := "3b3520a31c7331dc7b07df1b7863a40942d909a78bd0b2f57d804839a03d4101", func := "actuary/actuarylaw28.TokenMints", spec := "tokenMints", inPlace := ["internal/reflectlite.ValueOf", "(internal/reflectlite.Value).Type", "(internal/reflectlite.Value).IsNil", "internal/reflectlite.TypeOf", "(internal/reflectlite.Value).Elem", "(internal/reflectlite.Value).Set"], unfollowed := true, recurses := true, named := ["errors.errorType"], apart := false, laid := [("errors.errorType", laid_errors_errorType)], narrowed := true }
def TokenMintsUptoSaid : Prop := tokenMintsUptoRow.holds Tryd.pinned (OpenSpec.upto tokenMintsSpec)

end Rows
end Go.Proofs.YtbhkbdmjikgpgaaDoor
