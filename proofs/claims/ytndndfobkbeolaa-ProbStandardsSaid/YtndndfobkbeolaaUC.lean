/-
  What the laws stand on, part C: contracts and plain laws of PLaw, PLLaw, PComb; the conditions are each law's own.
-/
import Derived.Test.YtndndfobkbeolaaUV
import Derived.Test.YtndndfobkbeolaaUG
import Derived.Test.YtndndfobkbeolaaUK
import Derived.Test.YtndndfobkbeolaaUL
set_option linter.unusedVariables false
set_option linter.unusedSimpArgs false
namespace Go.Proofs.Ytndndfobkbeolaa
open Go.RowKit
theorem mayAt_right {m : Nat} : ∀ (rows : List PRow) (k : Nat), (∀ r, r ∈ rows → r.n = m ∧ 1 ≤ r.kind ∧ r.kind ≤ 3) → mayAt m k rows = noF
  | [], _, _ => rfl
  | r :: rs, k, h => by
    obtain ⟨h1, h2, h3⟩ := h r (List.mem_cons_self ..)
    rw [mayAt_cons, if_neg (by omega), if_neg (by omega)]
    exact mayAt_right rs (k + 1) fun r hr => h r (List.mem_cons_of_mem _ hr)
theorem mayF_right {m : Nat} {rows : List PRow} (hm : m ≤ 5) (hn : rows.length ≤ 4) (h : ∀ r, r ∈ rows → r.n = m ∧ 1 ≤ r.kind ∧ r.kind ≤ 3) : mayF m rows = noF := by
  unfold mayF
  rw [if_neg (by omega)]
  exact mayAt_right rows 0 h
end Go.Proofs.Ytndndfobkbeolaa
