/-
 A row of fractions that came in, opened: what it reads as, how long it is; the conditions are the reading's own.
 Printed by a program of this repository (wip/pop2.py).
-/
import Derived.Test.YtndndfobkbeolaaTO
set_option linter.unusedVariables false
set_option linter.unusedSimpArgs false
namespace Go.Proofs.Ytndndfobkbeolaa
open Go.ChangeShapes Go.WideShapes Go.ChangeAt Go.RowKit Go.Deep Go.Joins
section
variable {H : Type} {enc : TypeId × Value → H} {W : World} {base : Nat} {spare : Nat → Bool} {held : Bool}
set_option maxRecDepth 100000 in
theorem frs_open {v : Value} {d : DataW H} {ps : List MemPlace} {r : Reach} {b0 : Nat} (hv : Value.okWide Try.prog W r b0 22 v) (h : DataW.Trod enc Try.prog W base spare held 22 v d ps) :
  ∃ (ea : Option Addr) (n ec : Nat) (es : List Fr), v = .slice ea n ec ∧ FrW W ea n ec es ∧ n + 1 ≤ Rows.uptoBulk d := by
 obtain ⟨a0, len0, cap0, rfl⟩ := okWide_slice Try.underlying22 hv
 obtain ⟨fuel, hf⟩ := h
 obtain ⟨ea, n, ec, es, e, hfr, hb⟩ := fracs_trod hf
 have e' : Value.slice a0 len0 cap0 = .slice ea n ec := by simpa [Value.cells] using e
 exact ⟨ea, n, ec, es, e', hfr, hb⟩
theorem lit_u8 {n : Int} (h : (Lit.int .u8 n).wf = true) : 0 ≤ n ∧ n ≤ 255 := by
 simp only [Lit.wf, Bool.and_eq_true, decide_eq_true_eq] at h
 exact h
end
end Go.Proofs.Ytndndfobkbeolaa
