/-
  What the laws stand on, part D: contracts and plain laws of NQuot, Prod3, Prod4, Prod5; the conditions are each law's own.
-/
import Derived.Test.YtndndfobkbeolaaUA
set_option linter.unusedVariables false
set_option linter.unusedSimpArgs false
namespace Go.Proofs.Ytndndfobkbeolaa
theorem w64p : 0 < W64 := by unfold W64; omega
theorem w64m {y1 y0 : Nat} (h : 0 < y1) : 0 < y1 * W64 + y0 := by have h2 : y1 * 1 ≤ y1 * W64 := Nat.mul_le_mul_left _ w64p; omega
structure Guess (y1 y0 u next q r : Nat) : Prop where
  sum : u = q * y1 + r
  ge : min ((u * W64 + next) / (y1 * W64 + y0)) (W64 - 1) ≤ q
  lt : q < W64
section
variable {y1 y0 u next q r : Nat}
theorem Guess.done (h : Guess y1 y0 u next q r) (h1 : 0 < y1) (ht : q * y0 ≤ r * W64 + next) : min ((u * W64 + next) / (y1 * W64 + y0)) (W64 - 1) = q := by
  refine Nat.le_antisymm h.ge (Nat.le_min.2 ⟨?_, by have := h.lt; omega⟩)
  have hp : 0 < y1 * W64 + y0 := w64m h1
  rw [Nat.le_div_iff_mul_le hp]
  obtain ⟨e1, e2⟩ := expand y1 y0 W64 q r next
  rw [h.sum]
  omega
theorem Guess.over (h : Guess y1 y0 u next q r) (h1 : 0 < y1) (hy : y0 < W64) (hr : W64 ≤ r) : min ((u * W64 + next) / (y1 * W64 + y0)) (W64 - 1) = q := by
  refine h.done h1 ?_
  have h2 : q * y0 ≤ W64 * W64 := Nat.mul_le_mul (by have := h.lt; omega) (by omega)
  have h3 : W64 * W64 ≤ r * W64 := Nat.mul_le_mul_right _ hr
  omega
theorem Guess.less (h : Guess y1 y0 u next q r) (h1 : 0 < y1) (ht : r * W64 + next < q * y0) : 0 < q ∧ Guess y1 y0 u next (q - 1) (r + y1) := by
  have hp : 0 < y1 * W64 + y0 := w64m h1
  obtain ⟨e1, e2⟩ := expand y1 y0 W64 q r next
  have hlt : (u * W64 + next) / (y1 * W64 + y0) < q := by
    refine Nat.div_lt_of_lt_mul ?_
    have e3 : u * W64 + next = (q * y1 + r) * W64 + next := congrArg (fun z => z * W64 + next) h.sum
    rw [Nat.mul_comm _ q, e1, e3, e2]
    exact Nat.add_lt_add_left ht _
  have hq : 0 < q := Nat.lt_of_le_of_lt (Nat.zero_le _) hlt
  refine ⟨hq, ?_, Nat.le_trans (Nat.min_le_left _ _) (Nat.le_sub_one_of_lt hlt), by have := h.lt; omega⟩
  have : q * y1 = (q - 1) * y1 + y1 := by
    obtain ⟨q', rfl⟩ : ∃ q', q = q' + 1 := ⟨q - 1, by omega⟩
    rw [Nat.add_mul, Nat.one_mul, Nat.add_sub_cancel]
  have := h.sum
  omega
end
end Go.Proofs.Ytndndfobkbeolaa
namespace Go.Proofs.Ytndndfobkbeolaa
open Go.RowKit Go.Extern.Stop Go.Stop Go.Extern
theorem Sl.from {w : World} {n : Nat} {a : Option Addr} {c : Nat} {cs : List Value} (h : Sl w 1 (.slice a n c) n cs) (l : Nat) (hl : l ≤ n) : Sl w 1 (.slice (if c = l then a else a.map (·.add l)) (n - l) (c - l)) (n - l) (cs.drop l) := by
  refine ⟨by rw [List.length_drop, h.1]; omega, ?_⟩
  rcases h.2 with ⟨a1, c1, e, h0, h1, h2⟩ | ⟨b, o, c1, e, h1, h2, h3, h4⟩
  · cases e
    refine .inl ⟨_, c - l, rfl, by omega, by omega, fun he => ?_⟩
    split at he
    · omega
    · have : a = none := by cases a <;> simp_all
      have := h2 this; omega
  · cases e
    by_cases hc : c = l
    · exact .inl ⟨_, c - l, rfl, by omega, by omega, fun _ => by omega⟩
    · rw [if_neg hc]
      refine .inr ⟨b, o + l, c - l, by simp [Addr.add], by omega, by omega, h3, fun j u hj => ?_⟩
      rw [List.getElem?_drop] at hj
      rw [Nat.add_assoc]
      exact h4 _ u hj
end Go.Proofs.Ytndndfobkbeolaa
namespace Go.Proofs.Ytndndfobkbeolaa
open Go.RowKit Go.Extern.Stop Go.Stop Go.Extern
theorem hu4 {w W : World} {b o : Nat} {v : Value} (hb : Below w.heap.size w W) (h : w.cell? ⟨b, o, none⟩ = some v) : W.cell? ⟨b, o, none⟩ = some v := (hb.cell (World.block_lt_of_cell? _ _ h)).trans h
end Go.Proofs.Ytndndfobkbeolaa
