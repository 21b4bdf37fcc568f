/-
  NARROWER THAN 'FOR EVERY INPUT', by the rows' own cells (each row's printed sentence says how): FrameMakes: laid · FrameCuts: laid · FrameBodies: laid · FrameJoins: laid · FrameEnds: laid.
  DERIVED. THE GIVEN ROWS OF THIS SEAT. 5 by the template 'for every input the law returns true; each argument reads behind the call as it read before'; 0 by the template 'total and deterministic' (their statements: YtamkappanknklaaDoorTotals.lean).
  GIVEN WITH THE SEED: the statements are not yours to turn. If you find one false, say at which input.
  Laid BY PROGRAM, IN A SANDBOX (cutbox-rows.mjs): the forced cells as the released guide's own fill.sh prints them over the translation cdd9888b2232226b… (all of the seat's roots in one cut). By AI agents, Wed Nov 11 2026. No macro, syntax, notation, axiom, sorry.
-/
import Derived.Test.YtamkappanknklaaDoorChecked
import GoSem.Claim
import GoSem.ClaimJoined
import GoSem.ClaimMapViews
import Derived.JoinedTies
import Derived.KernelRfl
namespace Go.Proofs.YtamkappanknklaaDoor
/- THE CELL 'sum', in the pinned program and in every row, IS THE sha256 OF THE DUMP (.gsa) THAT YtamkappanknklaaDoorProg.lean LOADS. Nothing in Lean hashes anything: it is a label: what it is worth is what the hold of that sum in a sandbox is worth. -/
noncomputable def Tryd.pinned : Pinned := { name := "ytamkappanknklaadoor", sum := "cdd9888b2232226b53b4473579eeb712cd77ebb5c958a5f5802c1913b0adb3c1", checked := Tryd.checked }
namespace Rows
def none {H : Type} : Left H := { results := [], args := [] }

/- WHAT THE LISTED PACKAGE-LEVEL VARIABLES READ AS WHEN THE CALL BEGINS. Each datum BY PROGRAM (the guide's laid-datum.mjs) off the statement by which the dump's own 'gosem.cut.vars' lays the variable. In a bare row this is a premise. The card (YtamkappanknklaaDoorCards.lean) ties it to the program's text. -/
def laid_errors_errorType {H : Type} : DataW H := .iface "internal/reflectlite.rtype" (.agg [.ptr (.lit (.string [101, 114, 114, 111, 114]))])

/-- 'actuarylaw26.FrameMakes': WHATEVER THE INPUT: true; the input reads as it did. -/
def frameMakesSpec : ChangeSpec := { name := "frameMakes", fn := fun _ => fun
  | [d1, d2] => { results := [.lit (.bool true)], args := [d1, d2] }
  | _ => none }
def frameMakesRow : OpenClaim := { program := "ytamkappanknklaadoor", sum := "cdd9888b2232226b53b4473579eeb712cd77ebb5c958a5f5802c1913b0adb3c1", func := "actuary/actuarylaw26.FrameMakes", spec := "frameMakes", inPlace := ["internal/reflectlite.ValueOf", "(internal/reflectlite.Value).Type", "(internal/reflectlite.Value).IsNil", "internal/reflectlite.TypeOf", "(internal/reflectlite.Value).Elem", "(internal/reflectlite.Value).Set"], unfollowed := true, recurses := true, named := ["errors.errorType"], apart := false, laid := [("errors.errorType", laid_errors_errorType)] }
def FrameMakesSaid : Prop := frameMakesRow.holds Tryd.pinned (OpenSpec.ofChange frameMakesSpec)

/-- ITS FALSE NEIGHBOUR: 'it returns false'. Refute it at one input. -/
def frameMakesWrong : ChangeSpec := { name := "frameMakes", fn := fun _ => fun
  | [d1, d2] => { results := [.lit (.bool false)], args := [d1, d2] }
  | _ => none }
def FrameMakesWrongFalsely : Prop := frameMakesRow.holds Tryd.pinned (OpenSpec.ofChange frameMakesWrong)

/-- 'actuarylaw26.FrameCuts': WHATEVER THE INPUT: true; the input reads as it did. -/
def frameCutsSpec : ChangeSpec := { name := "frameCuts", fn := fun _ => fun
  | [d1, d2] => { results := [.lit (.bool true)], args := [d1, d2] }
  | _ => none }
def frameCutsRow : OpenClaim := { program := "ytamkappanknklaadoor", sum := "cdd9888b2232226b53b4473579eeb712cd77ebb5c958a5f5802c1913b0adb3c1", func := "actuary/actuarylaw26.FrameCuts", spec := "frameCuts", inPlace := ["internal/reflectlite.ValueOf", "(internal/reflectlite.Value).Type", "(internal/reflectlite.Value).IsNil", "internal/reflectlite.TypeOf", "(internal/reflectlite.Value).Elem", "(internal/reflectlite.Value).Set"], unfollowed := true, recurses := true, named := ["errors.errorType"], apart := false, laid := [("errors.errorType", laid_errors_errorType)] }
def FrameCutsSaid : Prop := frameCutsRow.holds Tryd.pinned (OpenSpec.ofChange frameCutsSpec)

/-- ITS FALSE NEIGHBOUR: 'it returns false'. Refute it at one input. -/
def frameCutsWrong : ChangeSpec := { name := "frameCuts", fn := fun _ => fun
  | [d1, d2] => { results := [.lit (.bool false)], args := [d1, d2] }
  | _ => none }
def FrameCutsWrongFalsely : Prop := frameCutsRow.holds Tryd.pinned (OpenSpec.ofChange frameCutsWrong)

/-- 'actuarylaw26.FrameBodies': WHATEVER THE INPUT: true; the input reads as it did. -/
def frameBodiesSpec : ChangeSpec := { name := "frameBodies", fn := fun _ => fun
  | [d] => { results := [.lit (.bool true)], args := [d] }
  | _ => none }
def frameBodiesRow : OpenClaim := { program := "ytamkappanknklaadoor", sum := "cdd9888b2232226b53b4473579eeb712cd77ebb5c958a5f5802c1913b0adb3c1", func := "actuary/actuarylaw26.FrameBodies", spec := "frameBodies", inPlace := ["internal/reflectlite.ValueOf", "(internal/reflectlite.Value).Type", "(internal/reflectlite.Value).IsNil", "internal/reflectlite.TypeOf", "(internal/reflectlite.Value).Elem", "(internal/reflectlite.Value).Set"], unfollowed := true, recurses := true, named := ["errors.errorType"], apart := false, laid := [("errors.errorType", laid_errors_errorType)] }
def FrameBodiesSaid : Prop := frameBodiesRow.holds Tryd.pinned (OpenSpec.ofChange frameBodiesSpec)

/-- ITS FALSE NEIGHBOUR: 'it returns false'. Refute it at one input. -/
def frameBodiesWrong : ChangeSpec := { name := "frameBodies", fn := fun _ => fun
  | [d] => { results := [.lit (.bool false)], args := [d] }
  | _ => none }
def FrameBodiesWrongFalsely : Prop := frameBodiesRow.holds Tryd.pinned (OpenSpec.ofChange frameBodiesWrong)

/-- 'actuarylaw26.FrameJoins': WHATEVER THE INPUT: true; the input reads as it did. -/
def frameJoinsSpec : ChangeSpec := { name := "frameJoins", fn := fun _ => fun
  | [d1, d2] => { results := [.lit (.bool true)], args := [d1, d2] }
  | _ => none }
def frameJoinsRow : OpenClaim := { program := "ytamkappanknklaadoor", sum := "cdd9888b2232226b53b4473579eeb712cd77ebb5c958a5f5802c1913b0adb3c1", func := "actuary/actuarylaw26.FrameJoins", spec := "frameJoins", inPlace := ["internal/reflectlite.ValueOf", "(internal/reflectlite.Value).Type", "(internal/reflectlite.Value).IsNil", "internal/reflectlite.TypeOf", "(internal/reflectlite.Value).Elem", "(internal/reflectlite.Value).Set"], unfollowed := true, recurses := true, named := ["errors.errorType"], apart := false, laid := [("errors.errorType", laid_errors_errorType)] }
def FrameJoinsSaid : Prop := frameJoinsRow.holds Tryd.pinned (OpenSpec.ofChange frameJoinsSpec)

/-- ITS FALSE NEIGHBOUR: 'it returns false'. Refute it at one input. -/
def frameJoinsWrong : ChangeSpec := { name := "frameJoins", fn := fun _ => fun
  | [d1, d2] => { results := [.lit (.bool false)], args := [d1, d2] }
  | _ => none }
def FrameJoinsWrongFalsely : Prop := frameJoinsRow.holds Tryd.pinned (OpenSpec.ofChange frameJoinsWrong)

/-- 'actuarylaw26.FrameEnds': WHATEVER THE INPUT: true; the input reads as it did. -/
def frameEndsSpec : ChangeSpec := { name := "frameEnds", fn := fun _ => fun
  | [d1, d2] => { results := [.lit (.bool true)], args := [d1, d2] }
  | _ => none }
def frameEndsRow : OpenClaim := { program := "ytamkappanknklaadoor", sum := "cdd9888b2232226b53b4473579eeb712cd77ebb5c958a5f5802c1913b0adb3c1", func := "actuary/actuarylaw26.FrameEnds", spec := "frameEnds", inPlace := ["internal/reflectlite.ValueOf", "(internal/reflectlite.Value).Type", "(internal/reflectlite.Value).IsNil", "internal/reflectlite.TypeOf", "(internal/reflectlite.Value).Elem", "(internal/reflectlite.Value).Set"], unfollowed := true, recurses := true, named := ["errors.errorType"], apart := false, laid := [("errors.errorType", laid_errors_errorType)] }
def FrameEndsSaid : Prop := frameEndsRow.holds Tryd.pinned (OpenSpec.ofChange frameEndsSpec)

/-- ITS FALSE NEIGHBOUR: 'it returns false'. Refute it at one input. -/
def frameEndsWrong : ChangeSpec := { name := "frameEnds", fn := fun _ => fun
  | [d1, d2] => { results := [.lit (.bool false)], args := [d1, d2] }
  | _ => none }
def FrameEndsWrongFalsely : Prop := frameEndsRow.holds Tryd.pinned (OpenSpec.ofChange frameEndsWrong)

/- THE SECOND FORM. 'bulk': how many values and letters a reading holds, each counted each time it is reached (what is shared counts as often as it is met; a slice's spare places count too). A statement '..UptoSaid' is the law's where the arguments, and the package variables that the reading takes, are together of bulk at most 1048576: NARROWER than '..Said'. Prove '..Said' where nothing that the law and all that it calls make is longer than what came in: it says more and counts as full. Else prove '..UptoSaid'. A law counts once. -/
mutual
def uptoBulk {H : Type} : DataW H → Nat
  | .lit (.string bytes) => bytes.length + 1
  | .lit _ => 1
  | .nil => 1
  | .ptr d => uptoBulk d + 1
  | .slice elems spare => uptoBulkAll elems + uptoBulkAll spare + 1
  | .agg parts => uptoBulkAll parts + 1
  | .iface _ d => uptoBulk d + 1
  | .map entries => uptoBulkEntries entries + 1
  | .held _ => 1
def uptoBulkAll {H : Type} : List (DataW H) → Nat
  | [] => 0
  | d :: r => uptoBulk d + uptoBulkAll r
def uptoBulkEntries {H : Type} : List (Lit × DataW H) → Nat
  | [] => 0
  | x :: r => uptoBulkEntry x + uptoBulkEntries r
def uptoBulkEntry {H : Type} : Lit × DataW H → Nat
  | (.string bytes, d) => bytes.length + uptoBulk d + 1
  | (_, d) => uptoBulk d + 1
 end
def uptoSmall : (H : Type) → List (DataW H) → Bool := fun _ ds => decide (uptoBulkAll ds ≤ 1048576)
def OpenSpec.upto (s : _root_.Go.ChangeSpec) : _root_.Go.OpenSpec := { _root_.Go.OpenSpec.ofChange s with cond := some uptoSmall }

/-- 'actuarylaw26.FrameMakes', WHERE WHAT IT READS IS OF BULK AT MOST 1048576: true; the input reads as it did. -/
def frameMakesUptoRow : OpenClaim := { program := "ytamkappanknklaadoor", sum := "cdd9888b2232226b53b4473579eeb712cd77ebb5c958a5f5802c1913b0adb3c1", func := "actuary/actuarylaw26.FrameMakes", spec := "frameMakes", inPlace := ["internal/reflectlite.ValueOf", "(internal/reflectlite.Value).Type", "(internal/reflectlite.Value).IsNil", "internal/reflectlite.TypeOf", "(internal/reflectlite.Value).Elem", "(internal/reflectlite.Value).Set"], unfollowed := true, recurses := true, named := ["errors.errorType"], apart := false, laid := [("errors.errorType", laid_errors_errorType)], narrowed := true }
def FrameMakesUptoSaid : Prop := frameMakesUptoRow.holds Tryd.pinned (OpenSpec.upto frameMakesSpec)

/-- 'actuarylaw26.FrameCuts', WHERE WHAT IT READS IS OF BULK AT MOST 1048576: true; the input reads as it did. -/
def frameCutsUptoRow : OpenClaim := { program := "ytamkappanknklaadoor", sum := "cdd9888b2232226b53b4473579eeb712cd77ebb5c958a5f5802c1913b0adb3c1", func := "actuary/actuarylaw26.FrameCuts", spec := "frameCuts", inPlace := ["internal/reflectlite.ValueOf", "(internal/reflectlite.Value).Type", "(internal/reflectlite.Value).IsNil", "internal/reflectlite.TypeOf", "(internal/reflectlite.Value).Elem", "(internal/reflectlite.Value).Set"], unfollowed := true, recurses := true, named := ["errors.errorType"], apart := false, laid := [("errors.errorType", laid_errors_errorType)], narrowed := true }
def FrameCutsUptoSaid : Prop := frameCutsUptoRow.holds Tryd.pinned (OpenSpec.upto frameCutsSpec)

/-- 'actuarylaw26.FrameBodies', WHERE WHAT IT READS IS OF BULK AT MOST 1048576: true; the input reads as it did. -/
def frameBodiesUptoRow : OpenClaim := { program := "ytamkappanknklaadoor", sum := "cdd9888b2232226b53b4473579eeb712cd77ebb5c958a5f5802c1913b0adb3c1", func := "actuary/actuarylaw26.FrameBodies", spec := "frameBodies", inPlace := ["internal/reflectlite.ValueOf", "(internal/reflectlite.Value).Type", "(internal/reflectlite.Value).IsNil", "internal/reflectlite.TypeOf", "(internal/reflectlite.Value).Elem", "(internal/reflectlite.Value).Set"], unfollowed := true, recurses := true, named := ["errors.errorType"], apart := false, laid := [("errors.errorType", laid_errors_errorType)], narrowed := true }
def FrameBodiesUptoSaid : Prop := frameBodiesUptoRow.holds Tryd.pinned (OpenSpec.upto frameBodiesSpec)

/-- 'actuarylaw26.FrameJoins', WHERE WHAT IT READS IS OF BULK AT MOST 1048576: true; the input reads as it did. -/
def frameJoinsUptoRow : OpenClaim := { program := "ytamkappanknklaadoor", sum := "cdd9888b2232226b53b4473579eeb712cd77ebb5c958a5f5802c1913b0adb3c1", func := "actuary/actuarylaw26.FrameJoins", spec := "frameJoins", inPlace := ["internal/reflectlite.ValueOf", "(internal/reflectlite.Value).Type", "(internal/reflectlite.Value).IsNil", "internal/reflectlite.TypeOf", "(internal/reflectlite.Value).Elem", "(internal/reflectlite.Value).Set"], unfollowed := true, recurses := true, named := ["errors.errorType"], apart := false, laid := [("errors.errorType", laid_errors_errorType)], narrowed := true }
def FrameJoinsUptoSaid : Prop := frameJoinsUptoRow.holds Tryd.pinned (OpenSpec.upto frameJoinsSpec)

/-- 'actuarylaw26.FrameEnds', WHERE WHAT IT READS IS OF BULK AT MOST 1048576: true; the input reads as it did. -/
def frameEndsUptoRow : OpenClaim := { program := "ytamkappanknklaadoor", sum := "cdd9888b2232226b53b4473579eeb712cd77ebb5c958a5f5802c1913b0adb3c1", func := "actuary/actuarylaw26.FrameEnds", spec := "frameEnds", inPlace := ["internal/reflectlite.ValueOf", "(internal/reflectlite.Value).Type", "(internal/reflectlite.Value).IsNil", "internal/reflectlite.TypeOf", "(internal/reflectlite.Value).Elem", "(internal/reflectlite.Value).Set"], unfollowed := true, recurses := true, named := ["errors.errorType"], apart := false, laid := [("errors.errorType", laid_errors_errorType)], narrowed := true }
def FrameEndsUptoSaid : Prop := frameEndsUptoRow.holds Tryd.pinned (OpenSpec.upto frameEndsSpec)

end Rows
end Go.Proofs.YtamkappanknklaaDoor
