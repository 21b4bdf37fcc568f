/-
  A script of acts that came in: its cells.
  Printed by a program of this repository (wip/qu12.py).
-/
import Derived.Test.YtkbopcgijaejjaaDoorAwake
namespace Go.Proofs.YtkbopcgijaejjaaDoor
open Go.RowKit

/-- An act of a script. -/
structure Ac where
  d : Int
  t : Int
  s : Int
  j : Int
  w : Int
  p : Int
def acCells (x : Ac) : List Value := [.int .i64 x.d, .int .i64 x.t, .int .i64 x.s, .int .i64 x.j, .int .i64 x.w, .int .i64 x.p]
def I64 (n : Int) : Prop := -9223372036854775808 ≤ n ∧ n ≤ 9223372036854775807
def AcOk (x : Ac) : Prop := I64 x.d ∧ I64 x.t ∧ I64 x.s ∧ I64 x.j ∧ I64 x.w ∧ I64 x.p
/-- A script that came in: its cells. -/
def Acts (w : World) (v : Value) (xs : List Ac) : Prop := Sl w 6 v xs.length (xs.flatMap acCells) ∧ ∀ x, x ∈ xs → AcOk x
theorem acs_get {w wr : World} {a : Option Addr} {c : Nat} {xs : List Ac} (h : Sl w 6 (.slice a xs.length c) xs.length (xs.flatMap acCells)) (hb : Below w.heap.size w wr) (k : Nat) (hk : k < xs.length) :
    ∃ b o, a = some ⟨b, o, none⟩ ∧ wr.cell? ⟨b, o + k * 6, none⟩ = some (.int .i64 xs[k].d) ∧ wr.cell? ⟨b, o + k * 6 + 1, none⟩ = some (.int .i64 xs[k].t) ∧ wr.cell? ⟨b, o + k * 6 + 2, none⟩ = some (.int .i64 xs[k].s) ∧ wr.cell? ⟨b, o + k * 6 + 3, none⟩ = some (.int .i64 xs[k].j) ∧ wr.cell? ⟨b, o + k * 6 + 4, none⟩ = some (.int .i64 xs[k].w) ∧ wr.cell? ⟨b, o + k * 6 + 5, none⟩ = some (.int .i64 xs[k].p) := by
  obtain ⟨b, o, c', e, h1, h2, h3, h4⟩ := h.plain (by omega)
  cases e
  have hc := fun j u hj => (hb.cell (p := ⟨b, o + (k * 6 + j), none⟩) h3).trans (h4 _ u (flat_at acCells 6 (fun _ => rfl) xs k hk j u hj))
  have c0 := hc 0 _ rfl
  have c1 := hc 1 _ rfl
  have c2 := hc 2 _ rfl
  have c3 := hc 3 _ rfl
  have c4 := hc 4 _ rfl
  have c5 := hc 5 _ rfl
  simp only [← Nat.add_assoc, Nat.add_zero] at c0 c1 c2 c3 c4 c5
  exact ⟨b, o, rfl, c0, c1, c2, c3, c4, c5⟩
theorem Acts.get {w wr : World} {a : Option Addr} {c : Nat} {xs : List Ac} (h : Acts w (.slice a xs.length c) xs) (hb : Below w.heap.size w wr) (k : Nat) (hk : k < xs.length) :
    (∃ b o, a = some ⟨b, o, none⟩ ∧ wr.cell? ⟨b, o + k * 6, none⟩ = some (.int .i64 xs[k].d) ∧ wr.cell? ⟨b, o + k * 6 + 1, none⟩ = some (.int .i64 xs[k].t) ∧ wr.cell? ⟨b, o + k * 6 + 2, none⟩ = some (.int .i64 xs[k].s) ∧ wr.cell? ⟨b, o + k * 6 + 3, none⟩ = some (.int .i64 xs[k].j) ∧ wr.cell? ⟨b, o + k * 6 + 4, none⟩ = some (.int .i64 xs[k].w) ∧ wr.cell? ⟨b, o + k * 6 + 5, none⟩ = some (.int .i64 xs[k].p)) ∧ AcOk xs[k] :=
  ⟨acs_get h.1 hb k hk, h.2 _ (List.getElem_mem hk)⟩
end Go.Proofs.YtkbopcgijaejjaaDoor
