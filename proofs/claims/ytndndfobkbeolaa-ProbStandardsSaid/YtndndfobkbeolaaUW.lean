/-
  What the laws stand on, part W: contracts and plain laws of Wrap, PErr; the conditions are each law's own.
-/
import Derived.Test.YtndndfobkbeolaaProg
import Derived.WalkKit
import Derived.LaidEql
import Derived.RowKitTokens
import Derived.Lib.Hide
import Derived.Test.YtndndfobkbeolaaUA
set_option linter.unusedVariables false
set_option linter.unusedSimpArgs false
namespace Go.Proofs.Ytndndfobkbeolaa
open Go.RowKit Go.Extern.Stop Go.Stop Go.Extern
def eE (n : Int) : Value := .iface 129 (.int .i64 n)
def eF (b : Nat) : Value := .iface 143 (.pointer (some ⟨b, 0, none⟩))
def IsF (w : World) (b : Nat) (s : ByteArray) (k n : Int) : Prop :=
  w.cell? ⟨b, 0, none⟩ = some (.string s) ∧ w.cell? ⟨b, 1, none⟩ = some (.int .i64 k) ∧ w.cell? ⟨b, 2, none⟩ = some (eE n)
theorem IsF.below {w w' : World} {b B : Nat} {s : ByteArray} {k n : Int} (h : IsF w b s k n) (hb : Below B w w') (hB : b < B) : IsF w' b s k n := by
  obtain ⟨h0, h1, h2⟩ := h
  exact ⟨(hb.cell (p := ⟨b, 0, none⟩) hB).trans h0, (hb.cell (p := ⟨b, 1, none⟩) hB).trans h1, (hb.cell (p := ⟨b, 2, none⟩) hB).trans h2⟩
theorem IsF.lt {w : World} {b : Nat} {s : ByteArray} {k n : Int} (h : IsF w b s k n) : b < w.heap.size := World.block_lt_of_cell? _ _ h.1
theorem wrap_E (n : Int) (s : ByteArray) (k : Int) (w : World) :
    Calls Try.prog 77 #[eE n, .string s, .int .i64 k] w fun e w' => e = .returned (eF w.heap.size) ∧ IsF w' w.heap.size s k n ∧ w' = w.alloc (.cells #[.string s, .int .i64 k, eE n] 145) := by
  unfold eE eF IsF
  go_enter Try.func77, Try.ntmps77
  go_wp2
  go_ret
  refine ⟨rfl, ⟨?_, ?_, ?_⟩, rfl⟩ <;> simp [eE]
end Go.Proofs.Ytndndfobkbeolaa
namespace Go.Proofs.Ytndndfobkbeolaa
open Go.RowKit Go.Extern.Stop Go.Stop Go.Extern
abbrev Fl := Int × ByteArray × Int
def noWh : ByteArray := ⟨#[]⟩
def noF : Fl := (0, noWh, 0)
def whRow : ByteArray := ⟨#[114, 111, 119]⟩
theorem whRow_ne : whRow.toList ≠ [] := by decide +kernel
def ErrV (w : World) (base : Nat) (f : Fl) (v : Value) : Prop :=
  (f = noF ∧ v = .nilIface) ∨ (f.2.1 = noWh ∧ f.2.2 = 0 ∧ f.1 ≠ 0 ∧ v = eE f.1) ∨ (f.1 ≠ 0 ∧ f.2.1.toList ≠ [] ∧ ∃ b, base ≤ b ∧ v = eF b ∧ IsF w b f.2.1 f.2.2 f.1)
theorem ErrV.nil0 (w : World) (base : Nat) : ErrV w base noF .nilIface := .inl ⟨rfl, rfl⟩
theorem ErrV.num (w : World) (base : Nat) {n : Int} (h : n ≠ 0) : ErrV w base (n, noWh, 0) (eE n) := .inr (.inl ⟨rfl, rfl, h, rfl⟩)
theorem ErrV.place {w : World} {base b : Nat} {n i : Int} {wh : ByteArray} (h : n ≠ 0) (hw : wh.toList ≠ []) (hb : base ≤ b) (hi : IsF w b wh i n) : ErrV w base (n, wh, i) (eF b) := .inr (.inr ⟨h, hw, b, hb, rfl, hi⟩)
theorem ErrV.keeps {w w' : World} {base : Nat} {f : Fl} {v : Value} {S : Nat → Prop} (h : ErrV w base f v) (hk : Keeps w w' S) (hs : ∀ k, base ≤ k → ¬ S k) : ErrV w' base f v := by
  rcases h with h | h | ⟨h1, h2, b, h3, h4, h5⟩
  · exact .inl h
  · exact .inr (.inl h)
  · have hl := h5.lt
    obtain ⟨c0, c1, c2⟩ := h5
    exact .inr (.inr ⟨h1, h2, b, h3, h4, (hk.cell (a := ⟨b, 0, none⟩) hl (hs b h3)).trans c0, (hk.cell (a := ⟨b, 1, none⟩) hl (hs b h3)).trans c1, (hk.cell (a := ⟨b, 2, none⟩) hl (hs b h3)).trans c2⟩)
theorem ErrV.below {w w' : World} {base : Nat} {f : Fl} {v : Value} (h : ErrV w base f v) (hb : Below w.heap.size w w') : ErrV w' base f v := by
  rcases h with h | h | ⟨h1, h2, b, h3, h4, h5⟩
  · exact .inl h
  · exact .inr (.inl h)
  · exact .inr (.inr ⟨h1, h2, b, h3, h4, h5.below hb h5.lt⟩)
end Go.Proofs.Ytndndfobkbeolaa
