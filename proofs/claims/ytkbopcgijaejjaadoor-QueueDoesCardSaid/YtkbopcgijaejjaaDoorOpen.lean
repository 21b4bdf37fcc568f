/-
  An argument that is a script of acts, a key, or a list of ints, opened: what it reads as; the conditions are the reading's own.
  Printed by a program of this repository (wip/qu12.py).
-/
import Derived.Test.YtkbopcgijaejjaaDoorActs
import Derived.Deep.Slices
import Derived.Deep.Fields
import Derived.ChangeSame
import Derived.Lib.SmallJoins
import Derived.ChangeMaps5
import Derived.SizedLaws
import Derived.OpenShut
namespace Go.Proofs.YtkbopcgijaejjaaDoor
open Go.ChangeShapes Go.WideShapes Go.ChangeAt Go.RowKit Go.Deep Go.Joins

theorem Tryd.cellsTA : Tryd.prog.cellsOf 31 = 6 := by kernel_rfl
theorem Tryd.cellsTI : Tryd.prog.cellsOf 3 = 1 := by kernel_rfl
theorem Tryd.cellsTK : Tryd.prog.cellsOf 29 = 2 := by kernel_rfl
theorem Tryd.bytesTA : Tryd.prog.bytesOf 31 = 48 := by kernel_rfl
theorem Tryd.bytesTI : Tryd.prog.bytesOf 3 = 8 := by kernel_rfl
theorem i64_of {n : Int} (h : (Lit.int .i64 n).wf = true) : I64 n := by
  simp only [Lit.wf, Bool.and_eq_true, decide_eq_true_eq] at h
  exact h
theorem cell_spot {w : World} {a : Addr} {u : Value} (h : w.cell? a = some u) : a = ⟨a.block, a.off, none⟩ := by
  unfold World.cell? at h
  split at h
  · split at h
    · cases h
    · obtain ⟨x, y, z⟩ := a
      cases z with
      | none => rfl
      | some _ => simp_all
  · cases h
instance : Inhabited Ac := ⟨⟨0, 0, 0, 0, 0, 0⟩⟩
theorem six {α : Type} (l : List α) (h : l.length = 6) : ∃ a b c d e f, l = [a, b, c, d, e, f] := by
  match l, h with
  | [a, b, c, d, e, f], _ => exact ⟨a, b, c, d, e, f, rfl⟩
theorem five {α : Type} (l : List α) (h : l.length = 5) : ∃ a b c d e, l = [a, b, c, d, e] := by
  match l, h with
  | [a, b, c, d, e], _ => exact ⟨a, b, c, d, e, rfl⟩
theorem two {α : Type} (l : List α) (h : l.length = 2) : ∃ a b, l = [a, b] := by
  match l, h with
  | [a, b], _ => exact ⟨a, b, rfl⟩
section
variable {H : Type} {enc : TypeId × Value → H} {W : World} {base : Nat} {spare : Nat → Bool} {held : Bool}
theorem key_trod {fuel : Nat} {cs : List Value} {x : DataW H × List MemPlace} (h : DataW.trod enc Tryd.prog W base spare held fuel 29 cs = some x) : ∃ t s : Int, cs = [.int .i64 t, .int .i64 s] ∧ I64 t ∧ I64 s := by
  obtain ⟨xs, n, _, _, hl, hxl, hf⟩ := DataW.trod_struct Tryd.underlying29 h
  rw [Tryd.cellsTK] at hl
  obtain ⟨c0, c1, rfl⟩ := two cs hl
  obtain ⟨y0, y1, rfl⟩ := two xs hxl
  have h0 : DataW.trod enc Tryd.prog W base spare held n 3 (([c0, c1].drop 0).take (Tryd.prog.cellsOf 3)) = some y0 := hf 0 _ rfl
  have h1 : DataW.trod enc Tryd.prog W base spare held n 3 (([c0, c1].drop 1).take (Tryd.prog.cellsOf 3)) = some y1 := hf 1 _ rfl
  clear hf
  rw [Tryd.cellsTI] at h0 h1
  obtain ⟨t, e0, _, w0⟩ := DataW.trod_int Tryd.underlying3 h0
  obtain ⟨s, e1, _, w1⟩ := DataW.trod_int Tryd.underlying3 h1
  simp at e0 e1
  subst e0 e1
  exact ⟨t, s, rfl, i64_of w0, i64_of w1⟩
theorem ac_trod {fuel : Nat} {cs : List Value} {x : DataW H × List MemPlace} (h : DataW.trod enc Tryd.prog W base spare held fuel 31 cs = some x) : ∃ a : Ac, cs = acCells a ∧ AcOk a := by
  obtain ⟨xs, n, _, _, hl, hxl, hf⟩ := DataW.trod_struct Tryd.underlying31 h
  rw [Tryd.cellsTA] at hl
  obtain ⟨c0, c1, c2, c3, c4, c5, rfl⟩ := six cs hl
  obtain ⟨y0, y1, y2, y3, y4, rfl⟩ := five xs hxl
  have h0 : DataW.trod enc Tryd.prog W base spare held n 3 (([c0, c1, c2, c3, c4, c5].drop 0).take (Tryd.prog.cellsOf 3)) = some y0 := hf 0 _ rfl
  have h1 : DataW.trod enc Tryd.prog W base spare held n 29 (([c0, c1, c2, c3, c4, c5].drop 1).take (Tryd.prog.cellsOf 29)) = some y1 := hf 1 _ rfl
  have h2 : DataW.trod enc Tryd.prog W base spare held n 3 (([c0, c1, c2, c3, c4, c5].drop 3).take (Tryd.prog.cellsOf 3)) = some y2 := hf 2 _ rfl
  have h3 : DataW.trod enc Tryd.prog W base spare held n 3 (([c0, c1, c2, c3, c4, c5].drop 4).take (Tryd.prog.cellsOf 3)) = some y3 := hf 3 _ rfl
  have h4 : DataW.trod enc Tryd.prog W base spare held n 3 (([c0, c1, c2, c3, c4, c5].drop 5).take (Tryd.prog.cellsOf 3)) = some y4 := hf 4 _ rfl
  clear hf
  rw [Tryd.cellsTI] at h0 h2 h3 h4
  rw [Tryd.cellsTK] at h1
  obtain ⟨d, e0, _, w0⟩ := DataW.trod_int Tryd.underlying3 h0
  obtain ⟨t, s, e1, w1, w1'⟩ := key_trod h1
  obtain ⟨j, e2, _, w2⟩ := DataW.trod_int Tryd.underlying3 h2
  obtain ⟨k, e3, _, w3⟩ := DataW.trod_int Tryd.underlying3 h3
  obtain ⟨p, e4, _, w4⟩ := DataW.trod_int Tryd.underlying3 h4
  simp at e0 e1 e2 e3 e4
  obtain ⟨rfl, rfl⟩ := e1
  subst e0 e2 e3 e4
  exact ⟨⟨d, t, s, j, k, p⟩, rfl, i64_of w0, w1, w1', i64_of w2, i64_of w3, i64_of w4⟩
set_option maxRecDepth 100000 in
theorem acts_open {v : Value} {d : DataW H} {ps : List MemPlace} {r : Reach} {b0 : Nat} (hv : Value.okWide Tryd.prog W r b0 22 v) (h : DataW.Trod enc Tryd.prog W base spare held 22 v d ps) :
    ∃ xs, Acts W v xs ∧ (xs = [] ∨ ∃ elems sp, d = .slice elems sp ∧ elems.length = xs.length) := by
  obtain ⟨a0, len0, cap0, rfl⟩ := okWide_slice Tryd.underlying22 hv
  obtain ⟨fuel, hf⟩ := h
  rcases Deep.open_slice Tryd.underlying22 hf with ⟨e, e2⟩ | ⟨a, len, cap, m, n, D, Pl, e, _, hl, hm, hmm, e2, hx⟩
  · have e' : Value.slice a0 len0 cap0 = .slice none 0 0 := by simpa [Value.cells] using e
    cases e'
    exact ⟨[], ⟨⟨rfl, .inl ⟨none, 0, rfl, rfl, Nat.zero_le _, fun _ => rfl⟩⟩, fun x h => (by cases h)⟩, .inl rfl⟩
  · have e' : Value.slice a0 len0 cap0 = .slice (some a) len cap := by simpa [Value.cells] using e
    obtain ⟨rfl, rfl, rfl⟩ : some a = a0 ∧ len = len0 ∧ cap = cap0 := by cases e'; exact ⟨rfl, rfl, rfl⟩
    cases e2
    have hlm : len ≤ m := by rw [hmm]; split <;> omega
    rw [Tryd.cellsTA] at hx
    obtain ⟨f, hf2⟩ := Deep.choose_lt (n := m) (p := fun i (x : Ac) => AcOk x ∧ ∀ j, j < 6 → W.cell? (a.add (i * 6 + j)) = (acCells x)[j]?) (fun i hi => by
      obtain ⟨cs', hc, ht⟩ := hx i hi
      obtain ⟨x, rfl, ho⟩ := ac_trod ht
      obtain ⟨_, _, hat⟩ := World.cells?_some hc
      exact ⟨x, ho, fun j hj => by rw [← Go.Deep.add_add]; exact hat j hj⟩)
    refine ⟨(List.range len).map f, ⟨⟨by rw [flat_len acCells 6 (fun _ => rfl)], ?_⟩, fun x hxm => ?_⟩, .inr ⟨_, _, rfl, by simp⟩⟩
    · rcases Nat.eq_zero_or_pos len with rfl | hp
      · exact .inl ⟨some a, cap, by simp, by simp, hm, fun h => by cases h⟩
      · have h0 := (hf2 0 (by omega)).2 0 (by omega)
        have hs := cell_spot (show W.cell? a = some _ from h0)
        have hb : a.block < W.heap.size := World.block_lt_of_cell? _ _ (show W.cell? a = some _ from h0)
        refine .inr ⟨a.block, a.off, cap, by rw [← hs]; simp, by simpa using hl, hm, hb, fun j u hj => ?_⟩
        obtain ⟨i, hi, j', rfl, hj', hu⟩ := flat_inv acCells 6 (fun _ => rfl) _ j u hj
        simp only [List.length_map, List.length_range] at hi
        simp only [List.getElem_map, List.getElem_range] at hu
        have := (hf2 i (by omega)).2 j' hj'
        rw [hu] at this
        rw [hs] at this
        rw [Addr.add_lit] at this
        exact this
    · obtain ⟨i, hi, rfl⟩ := List.mem_map.1 hxm
      exact (hf2 i (by have := List.mem_range.1 hi; omega)).1
set_option maxRecDepth 100000 in
theorem key_open {v : Value} {d : DataW H} {ps : List MemPlace} {r : Reach} {b0 : Nat} (hv : Value.okWide Tryd.prog W r b0 29 v) (h : DataW.Trod enc Tryd.prog W base spare held 29 v d ps) :
    ∃ t s : Int, v = .agg #[.int .i64 t, .int .i64 s] ∧ I64 t ∧ I64 s := by
  obtain ⟨cs, rfl, _⟩ := okWide_struct Tryd.underlying29 hv
  obtain ⟨fuel, hf⟩ := h
  obtain ⟨t, s, e, h1, h2⟩ := key_trod hf
  obtain ⟨l⟩ := cs
  have e' : l = [.int .i64 t, .int .i64 s] := by simpa [Value.cells] using e
  subst e'
  exact ⟨t, s, rfl, h1, h2⟩
theorem lit_u8 {n : Int} (h : (Lit.int .u8 n).wf = true) : 0 ≤ n ∧ n ≤ 255 := by
  simp only [Lit.wf, Bool.and_eq_true, decide_eq_true_eq] at h
  exact h
/-- How long a script is at the most. -/
theorem acts_sized {ts : List TypeId} {ds : List (DataW H)} (h : (DataW.weightsEach Tryd.prog ts ds).all (· ≤ reachBytes) = true) {j : Nat} {d : DataW H} {xs : List Ac} (ht : ts[j]? = some 22) (hd : ds[j]? = some d) (hx : xs = [] ∨ ∃ elems sp, d = .slice elems sp ∧ elems.length = xs.length) : xs.length * 48 ≤ 140737488351232 := by
  rcases hx with rfl | ⟨el, sp, rfl, hl⟩
  · simp
  · have := sized_slice h ht hd Tryd.underlying22
    rw [Tryd.bytesTA, hl] at this
    have e : reachBytes = 140737488351232 := rfl
    rw [e] at this
    have : xs.length * 48 ≤ (xs.length + sp.length) * 48 := Nat.mul_le_mul_right _ (by omega)
    omega
set_option maxRecDepth 100000 in
/-- A list of ints that came in. -/
theorem ints_open {v : Value} {d : DataW H} {ps : List MemPlace} {r : Reach} {b0 : Nat} (hv : Value.okWide Tryd.prog W r b0 50 v) (h : DataW.Trod enc Tryd.prog W base spare held 50 v d ps) :
    ∃ xs : List Int, Sl W 1 v xs.length (xs.map IV) := by
  obtain ⟨a0, len0, cap0, rfl⟩ := okWide_slice Tryd.underlying50 hv
  obtain ⟨fuel, hf⟩ := h
  rcases Deep.open_slice Tryd.underlying50 hf with ⟨e, e2⟩ | ⟨a, len, cap, m, n, D, Pl, e, _, hl, hm, hmm, e2, hx⟩
  · have e' : Value.slice a0 len0 cap0 = .slice none 0 0 := by simpa [Value.cells] using e
    cases e'
    exact ⟨[], ⟨rfl, .inl ⟨none, 0, rfl, rfl, Nat.zero_le _, fun _ => rfl⟩⟩⟩
  · have e' : Value.slice a0 len0 cap0 = .slice (some a) len cap := by simpa [Value.cells] using e
    obtain ⟨rfl, rfl, rfl⟩ : some a = a0 ∧ len = len0 ∧ cap = cap0 := by cases e'; exact ⟨rfl, rfl, rfl⟩
    have hlm : len ≤ m := by rw [hmm]; split <;> omega
    rw [Tryd.cellsTI] at hx
    obtain ⟨f, hf2⟩ := Deep.choose_lt (n := m) (p := fun i (x : Int) => W.cell? (a.add i) = some (.int .i64 x)) (fun i hi => by
      obtain ⟨cs', hc, ht⟩ := hx i hi
      obtain ⟨x, rfl, _, _⟩ := DataW.trod_int Tryd.underlying3 ht
      obtain ⟨_, _, hat⟩ := World.cells?_some hc
      exact ⟨x, by have := hat 0 (by omega); rw [Go.Deep.add_add] at this; simpa using this⟩)
    refine ⟨(List.range len).map f, by simp, ?_⟩
    rcases Nat.eq_zero_or_pos len with rfl | hp
    · exact .inl ⟨some a, cap, by simp, by simp, hm, fun h => by cases h⟩
    · have h0 := hf2 0 (by omega)
      have hs := cell_spot (show W.cell? a = some _ from by simpa [Addr.add] using h0)
      have hb : a.block < W.heap.size := World.block_lt_of_cell? _ _ (show W.cell? a = some _ from by simpa [Addr.add] using h0)
      refine .inr ⟨a.block, a.off, cap, by rw [← hs]; simp, by simpa using hl, hm, hb, fun j u hj => ?_⟩
      simp only [List.map_map, List.getElem?_map] at hj
      obtain ⟨i, hi, rfl⟩ := Option.map_eq_some_iff.1 hj
      obtain ⟨hi1, hi2⟩ := List.getElem?_eq_some_iff.1 hi
      simp only [List.length_range] at hi1
      simp only [List.getElem_range] at hi2
      subst hi2
      have := hf2 j (by omega)
      rw [hs, Addr.add_lit] at this
      exact this
end
end Go.Proofs.YtkbopcgijaejjaaDoor
