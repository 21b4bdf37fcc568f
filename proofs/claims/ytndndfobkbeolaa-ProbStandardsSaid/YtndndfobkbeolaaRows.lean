/-
  No cell of these rows narrows 'for every input' (looked for: loops, veiled, ifaces, maps, wideKeys, modest, calm, conditions, laid).
  DERIVED. THE GIVEN ROWS OF THIS SEAT. 5 by the template 'for every input the law returns true; each argument reads behind the call as it read before'; 0 by the template 'total and deterministic' (their statements: YtndndfobkbeolaaTotals.lean).
  GIVEN WITH THE SEED: the statements are not yours to turn. If you find one false, say at which input.
  Laid BY PROGRAM, IN A SANDBOX (cutbox-rows.mjs): the forced cells as the released guide's own fill.sh prints them over the translation 6a2a2ff94a1ea76c… (all of the seat's roots in one cut). By AI agents, Wed Nov 11 2026. No macro, syntax, notation, axiom, sorry.
-/
import Derived.Test.YtndndfobkbeolaaChecked
import GoSem.Claim
import GoSem.ClaimJoined
import GoSem.ClaimMapViews
import Derived.JoinedTies
import Derived.KernelRfl
namespace Go.Proofs.Ytndndfobkbeolaa
/- THE CELL 'sum', in the pinned program and in every row, IS THE sha256 OF THE DUMP (.gsa) THAT YtndndfobkbeolaaProg.lean LOADS. Nothing in Lean hashes anything: it is a label: what it is worth is what the hold of that sum in a sandbox is worth. -/
noncomputable def Try.pinned : Pinned := { name := "ytndndfobkbeolaa", sum := "6a2a2ff94a1ea76c060ffa277458114b47a4a6f0fcc261177f8695a877df4f0d", checked := Try.checked }
namespace Rows
def none {H : Type} : Left H := { results := [], args := [] }

/-- 'actuarylaw16.ProbFits': WHATEVER THE INPUT: true; the input reads as it did. -/
def probFitsSpec : ChangeSpec := { name := "probFits", fn := fun _ => fun
  | [d1, d2] => { results := [.lit (.bool true)], args := [d1, d2] }
  | _ => none }
def probFitsRow : OpenClaim := { program := "ytndndfobkbeolaa", sum := "6a2a2ff94a1ea76c060ffa277458114b47a4a6f0fcc261177f8695a877df4f0d", func := "actuary/actuarylaw16.ProbFits", spec := "probFits", recurses := true, apart := false }
def ProbFitsSaid : Prop := probFitsRow.holds Try.pinned (OpenSpec.ofChange probFitsSpec)

/-- ITS FALSE NEIGHBOUR: 'it returns false'. Refute it at one input. -/
def probFitsWrong : ChangeSpec := { name := "probFits", fn := fun _ => fun
  | [d1, d2] => { results := [.lit (.bool false)], args := [d1, d2] }
  | _ => none }
def ProbFitsWrongFalsely : Prop := probFitsRow.holds Try.pinned (OpenSpec.ofChange probFitsWrong)

/-- 'actuarylaw16.ProbLifts': WHATEVER THE INPUT: true; the input reads as it did. -/
def probLiftsSpec : ChangeSpec := { name := "probLifts", fn := fun _ => fun
  | [d1, d2] => { results := [.lit (.bool true)], args := [d1, d2] }
  | _ => none }
def probLiftsRow : OpenClaim := { program := "ytndndfobkbeolaa", sum := "6a2a2ff94a1ea76c060ffa277458114b47a4a6f0fcc261177f8695a877df4f0d", func := "actuary/actuarylaw16.ProbLifts", spec := "probLifts", recurses := true, apart := false }
def ProbLiftsSaid : Prop := probLiftsRow.holds Try.pinned (OpenSpec.ofChange probLiftsSpec)

/-- ITS FALSE NEIGHBOUR: 'it returns false'. Refute it at one input. -/
def probLiftsWrong : ChangeSpec := { name := "probLifts", fn := fun _ => fun
  | [d1, d2] => { results := [.lit (.bool false)], args := [d1, d2] }
  | _ => none }
def ProbLiftsWrongFalsely : Prop := probLiftsRow.holds Try.pinned (OpenSpec.ofChange probLiftsWrong)

/-- 'actuarylaw16.ProbStandards': WHATEVER THE INPUT: true; the input reads as it did. -/
def probStandardsSpec : ChangeSpec := { name := "probStandards", fn := fun _ => fun
  | [d] => { results := [.lit (.bool true)], args := [d] }
  | _ => none }
def probStandardsRow : OpenClaim := { program := "ytndndfobkbeolaa", sum := "6a2a2ff94a1ea76c060ffa277458114b47a4a6f0fcc261177f8695a877df4f0d", func := "actuary/actuarylaw16.ProbStandards", spec := "probStandards", recurses := true, apart := false }
def ProbStandardsSaid : Prop := probStandardsRow.holds Try.pinned (OpenSpec.ofChange probStandardsSpec)

/-- ITS FALSE NEIGHBOUR: 'it returns false'. Refute it at one input. -/
def probStandardsWrong : ChangeSpec := { name := "probStandards", fn := fun _ => fun
  | [d] => { results := [.lit (.bool false)], args := [d] }
  | _ => none }
def ProbStandardsWrongFalsely : Prop := probStandardsRow.holds Try.pinned (OpenSpec.ofChange probStandardsWrong)

/-- 'actuarylaw16.ProbCopies': WHATEVER THE INPUT: true; the input reads as it did. -/
def probCopiesSpec : ChangeSpec := { name := "probCopies", fn := fun _ => fun
  | [d] => { results := [.lit (.bool true)], args := [d] }
  | _ => none }
def probCopiesRow : OpenClaim := { program := "ytndndfobkbeolaa", sum := "6a2a2ff94a1ea76c060ffa277458114b47a4a6f0fcc261177f8695a877df4f0d", func := "actuary/actuarylaw16.ProbCopies", spec := "probCopies", recurses := true, apart := false }
def ProbCopiesSaid : Prop := probCopiesRow.holds Try.pinned (OpenSpec.ofChange probCopiesSpec)

/-- ITS FALSE NEIGHBOUR: 'it returns false'. Refute it at one input. -/
def probCopiesWrong : ChangeSpec := { name := "probCopies", fn := fun _ => fun
  | [d] => { results := [.lit (.bool false)], args := [d] }
  | _ => none }
def ProbCopiesWrongFalsely : Prop := probCopiesRow.holds Try.pinned (OpenSpec.ofChange probCopiesWrong)

/-- 'actuarylaw16.ProbMixes': WHATEVER THE INPUT: true; the input reads as it did. -/
def probMixesSpec : ChangeSpec := { name := "probMixes", fn := fun _ => fun
  | [d1, d2, d3, d4] => { results := [.lit (.bool true)], args := [d1, d2, d3, d4] }
  | _ => none }
def probMixesRow : OpenClaim := { program := "ytndndfobkbeolaa", sum := "6a2a2ff94a1ea76c060ffa277458114b47a4a6f0fcc261177f8695a877df4f0d", func := "actuary/actuarylaw16.ProbMixes", spec := "probMixes", recurses := true, apart := false }
def ProbMixesSaid : Prop := probMixesRow.holds Try.pinned (OpenSpec.ofChange probMixesSpec)

/-- ITS FALSE NEIGHBOUR: 'it returns false'. Refute it at one input. -/
def probMixesWrong : ChangeSpec := { name := "probMixes", fn := fun _ => fun
  | [d1, d2, d3, d4] => { results := [.lit (.bool false)], args := [d1, d2, d3, d4] }
  | _ => none }
def ProbMixesWrongFalsely : Prop := probMixesRow.holds Try.pinned (OpenSpec.ofChange probMixesWrong)

/- THE SECOND FORM. 'bulk': how many values and letters a reading holds, each counted each time it is reached (what is shared counts as often as it is met; a slice's spare places count too). A statement '..UptoSaid' is the law's where the arguments, and the package variables that the reading takes, are together of bulk at most 1048576: NARROWER than '..Said'. Prove '..Said' where nothing that the law and all that it calls make is longer than what came in: it says more and counts as full. Else prove '..UptoSaid'. A law counts once. -/
mutual
def uptoBulk {H : Type} : DataW H → Nat
  | .lit (.string bytes) => bytes.length + 1
  | .lit _ => 1
  | .nil => 1
  | .ptr d => uptoBulk d + 1
  | .slice elems spare => uptoBulkAll elems + uptoBulkAll spare + 1
  | .agg parts => uptoBulkAll parts + 1
  | .iface _ d => uptoBulk d + 1
  | .map entries => uptoBulkEntries entries + 1
  | .held _ => 1
def uptoBulkAll {H : Type} : List (DataW H) → Nat
  | [] => 0
  | d :: r => uptoBulk d + uptoBulkAll r
def uptoBulkEntries {H : Type} : List (Lit × DataW H) → Nat
  | [] => 0
  | x :: r => uptoBulkEntry x + uptoBulkEntries r
def uptoBulkEntry {H : Type} : Lit × DataW H → Nat
  | (.string bytes, d) => bytes.length + uptoBulk d + 1
  | (_, d) => uptoBulk d + 1
 end
def uptoSmall : (H : Type) → List (DataW H) → Bool := fun _ ds => decide (uptoBulkAll ds ≤ 1048576)
def OpenSpec.upto (s : _root_.Go.ChangeSpec) : _root_.Go.OpenSpec := { _root_.Go.OpenSpec.ofChange s with cond := some uptoSmall }

/-- 'actuarylaw16.ProbFits', WHERE WHAT IT READS IS OF BULK AT MOST 1048576: true; the input reads as it did. -/
def probFitsUptoRow : OpenClaim := { program := "ytndndfobkbeolaa", sum := "6a2a2ff94a1ea76c060ffa277458114b47a4a6f0fcc261177f8695a877df4f0d", func := "actuary/actuarylaw16.ProbFits", spec := "probFits", recurses := true, apart := false, narrowed := true }
def ProbFitsUptoSaid : Prop := probFitsUptoRow.holds Try.pinned (OpenSpec.upto probFitsSpec)

/-- 'actuarylaw16.ProbLifts', WHERE WHAT IT READS IS OF BULK AT MOST 1048576: true; the input reads as it did. -/
def probLiftsUptoRow : OpenClaim := { program := "ytndndfobkbeolaa", sum := "6a2a2ff94a1ea76c060ffa277458114b47a4a6f0fcc261177f8695a877df4f0d", func := "actuary/actuarylaw16.ProbLifts", spec := "probLifts", recurses := true, apart := false, narrowed := true }
def ProbLiftsUptoSaid : Prop := probLiftsUptoRow.holds Try.pinned (OpenSpec.upto probLiftsSpec)

/-- 'actuarylaw16.ProbStandards', WHERE WHAT IT READS IS OF BULK AT MOST 1048576: true; the input reads as it did. -/
def probStandardsUptoRow : OpenClaim := { program := "ytndndfobkbeolaa", sum := "6a2a2ff94a1ea76c060ffa277458114b47a4a6f0fcc261177f8695a877df4f0d", func := "actuary/actuarylaw16.ProbStandards", spec := "probStandards", recurses := true, apart := false, narrowed := true }
def ProbStandardsUptoSaid : Prop := probStandardsUptoRow.holds Try.pinned (OpenSpec.upto probStandardsSpec)

/-- 'actuarylaw16.ProbCopies', WHERE WHAT IT READS IS OF BULK AT MOST 1048576: true; the input reads as it did. -/
def probCopiesUptoRow : OpenClaim := { program := "ytndndfobkbeolaa", sum := "6a2a2ff94a1ea76c060ffa277458114b47a4a6f0fcc261177f8695a877df4f0d", func := "actuary/actuarylaw16.ProbCopies", spec := "probCopies", recurses := true, apart := false, narrowed := true }
def ProbCopiesUptoSaid : Prop := probCopiesUptoRow.holds Try.pinned (OpenSpec.upto probCopiesSpec)

/-- 'actuarylaw16.ProbMixes', WHERE WHAT IT READS IS OF BULK AT MOST 1048576: true; the input reads as it did. -/
def probMixesUptoRow : OpenClaim := { program := "ytndndfobkbeolaa", sum := "6a2a2ff94a1ea76c060ffa277458114b47a4a6f0fcc261177f8695a877df4f0d", func := "actuary/actuarylaw16.ProbMixes", spec := "probMixes", recurses := true, apart := false, narrowed := true }
def ProbMixesUptoSaid : Prop := probMixesUptoRow.holds Try.pinned (OpenSpec.upto probMixesSpec)

end Rows
end Go.Proofs.Ytndndfobkbeolaa
