/-
  What the laws stand on, part G: contracts and plain laws of PLong, PCost; the conditions are each law's own.
-/
import Derived.Test.YtndndfobkbeolaaUV
import Derived.Test.YtndndfobkbeolaaUD
import Derived.Test.YtndndfobkbeolaaUE
set_option linter.unusedVariables false
set_option linter.unusedSimpArgs false
namespace Go.Proofs.Ytndndfobkbeolaa
open Go.RowKit
structure Long (B : Nat) (q : Rat) : Prop where
  num : lenW q.num.natAbs ≤ B
  den : lenW q.den ≤ B
theorem Long.mono {B C : Nat} {q : Rat} (h : Long B q) (hc : B ≤ C) : Long C q := ⟨Nat.le_trans h.num hc, Nat.le_trans h.den hc⟩
theorem Long.divInt {B : Nat} {n d : Int} (hd : d ≠ 0) (hn : lenW n.natAbs ≤ B) (h : lenW d.natAbs ≤ B) : Long B (Rat.divInt n d) :=
  ⟨by rw [rat_num n d hd, newI_abs]; exact Nat.le_trans (lenW_mono (Nat.div_le_self _ _)) hn, by rw [rat_den n d hd]; exact Nat.le_trans (lenW_mono (Nat.div_le_self _ _)) h⟩
theorem den_ne (p q : Rat) : ((p.den * q.den : Nat) : Int) ≠ 0 := by
  have := Nat.mul_ne_zero p.den_nz q.den_nz
  omega
theorem Long.add {B C : Nat} {p q : Rat} (h1 : Long B p) (h2 : Long C q) : Long (B + C + 1) (p + q) := by
  rw [← rat_add]
  refine Long.divInt (den_ne p q) (lenW_addI ?_ ?_) ?_
  · exact Nat.le_trans (lenW_mulI _ _) (by rw [lenW_denI]; exact Nat.add_le_add h1.num h2.den)
  · exact Nat.le_trans (lenW_mulI _ _) (by rw [lenW_denI, Nat.add_comm B]; exact Nat.add_le_add h2.num h1.den)
  · exact Nat.le_trans (lenW_mul _ _) (Nat.le_trans (Nat.add_le_add h1.den h2.den) (by omega))
theorem Long.mul {B C : Nat} {p q : Rat} (h1 : Long B p) (h2 : Long C q) : Long (B + C) (p * q) := by
  rw [← rat_mul]
  exact Long.divInt (den_ne p q) (Nat.le_trans (lenW_mulI _ _) (Nat.add_le_add h1.num h2.num)) (Nat.le_trans (lenW_mul _ _) (Nat.add_le_add h1.den h2.den))
theorem Long.neg {B : Nat} {p : Rat} (h : Long B p) : Long B (-p) := ⟨by rw [rat_neg_num, Int.natAbs_neg]; exact h.num, h.den⟩
theorem Long.sub {B C : Nat} {p q : Rat} (h1 : Long B p) (h2 : Long C q) : Long (B + C + 1) (p - q) := by rw [Rat.sub_eq_add_neg]; exact h1.add h2.neg
theorem Long.whole {z : Int} (h : z.natAbs < W64) : Long 1 (z : Rat) := ⟨lenW_word.2 h, by show lenW 1 ≤ 1; rw [lenW_pos1]; exact Nat.le_refl _⟩
theorem Long.zero : Long 1 0 := Long.whole (z := 0) (by unfold W64; omega)
section
variable {B C : Nat} {p q : Rat}
end
def AllL (B : Nat) (l : List Rat) : Prop := ∀ q, q ∈ l → Long B q
theorem AllL.get {B : Nat} {l : List Rat} (h : AllL B l) {k : Nat} {q : Rat} (hk : l[k]? = some q) : Long B q := h q (List.mem_of_getElem? hk)
theorem AllL.take {B : Nat} {l : List Rat} (h : AllL B l) (k : Nat) : AllL B (l.take k) := fun q hq => h q (List.mem_of_mem_take hq)
theorem AllL.append {B : Nat} {l m : List Rat} (h : AllL B l) (h2 : AllL B m) : AllL B (l ++ m) := fun q hq => (List.mem_append.1 hq).elim (h q) (h2 q)
theorem AllL.mono {B C : Nat} {l : List Rat} (h : AllL B l) (hc : B ≤ C) : AllL C l := fun q hq => (h q hq).mono hc
end Go.Proofs.Ytndndfobkbeolaa
