/-
  An argument of bytes and an argument of rows of bytes, opened: what they read as, how long they are at the most.
  Printed by a program of this repository (wip/open.py).
-/
import Derived.Test.YtamkappanknklaaDoorFr3
import Derived.Test.YtamkappanknklaaDoorKit
import Derived.Test.YtamkappanknklaaDoorBulk
import Derived.Deep.Slices
namespace Go.Proofs.YtamkappanknklaaDoor
open Go.ChangeShapes Go.WideShapes Go.ChangeAt Go.RowKit

theorem Tryd.cellsU8 : Tryd.prog.cellsOf 5 = 1 := by kernel_rfl
theorem Tryd.cellsTB : Tryd.prog.cellsOf 23 = 1 := by kernel_rfl
section
variable {H : Type} {enc : TypeId × Value → H} {W : World} {base : Nat} {spare : Nat → Bool} {held : Bool}
theorem lit_u8 {n : Int} (h : (Lit.int .u8 n).wf = true) : 0 ≤ n ∧ n ≤ 255 := by
  simp only [Lit.wf, Bool.and_eq_true, decide_eq_true_eq] at h
  exact h
theorem len_lits {k : IntKind} (zs : List Int) : (lits (H := H) k zs).length = zs.length := by unfold lits; simp
theorem cell_spot {w : World} {a : Addr} {u : Value} (h : w.cell? a = some u) : a = ⟨a.block, a.off, none⟩ := by
  unfold World.cell? at h
  split at h
  · split at h
    · cases h
    · obtain ⟨x, y, z⟩ := a
      cases z with
      | none => rfl
      | some _ => simp_all
  · cases h
theorem cell_add {w : World} {a : Addr} {n : Nat} {f : Nat → Value} (h : ∀ i, i < n → w.cell? (a.add i) = some (f i)) (hn : 0 < n) : a = ⟨a.block, a.off, none⟩ ∧ a.block < w.heap.size ∧ ∀ i, i < n → w.cell? ⟨a.block, a.off + i, none⟩ = some (f i) := by
  have h0 := h 0 hn
  rw [show a.add 0 = a from rfl] at h0
  have e := cell_spot h0
  refine ⟨e, World.block_lt_of_cell? _ _ h0, fun i hi => ?_⟩
  have := h i hi
  rw [e] at this
  rw [Addr.add_lit] at this
  exact this
theorem bytes_trod {fuel : Nat} {cs : List Value} {x : DataW H × List MemPlace} (h : DataW.trod enc Tryd.prog W base spare held fuel 23 cs = some x) :
    ∃ v xs, cs = [v] ∧ Bytes W v xs ∧ Byt xs ∧ xs.length + 1 ≤ Rows.uptoBulk x.1 := by
  rcases open_ints Tryd.underlying23 Tryd.underlying5 Tryd.cellsU8 h with ⟨rfl, rfl⟩ | ⟨a, len, cap, zs, rfl, _, hl, hm, hz, rfl, hc, hw⟩
  · exact ⟨_, [], rfl, ⟨rfl, .inl ⟨none, 0, rfl, rfl, Nat.zero_le _, fun _ => rfl⟩⟩, Byt.nil, by simp [Rows.uptoBulk]⟩
  · have hlz : len ≤ zs.length := by rw [hz]; split <;> omega
    have htl : (zs.take len).length = len := by rw [List.length_take]; omega
    refine ⟨_, zs.take len, rfl, ?_, fun x hx => ?_, ?_⟩
    · unfold Bytes
      rw [htl]
      refine ⟨by simp; omega, ?_⟩
      rcases Nat.eq_zero_or_pos len with rfl | hp
      · exact .inl ⟨_, _, rfl, rfl, hm, fun h => by cases h⟩
      · obtain ⟨e, hb, hc'⟩ := cell_add hc (by omega)
        refine .inr ⟨a.block, a.off, cap, by rw [← e], hl, hm, hb, fun j u hj => ?_⟩
        rw [List.getElem?_map, List.getElem?_take] at hj
        split at hj
        · rename_i hjl
          have := hc' j (by omega)
          rw [this, ← hj]
          simp [List.getD, List.getElem?_eq_getElem (show j < zs.length by omega)]
        · cases hj
    · have := hw x (List.mem_of_mem_take hx)
      exact lit_u8 this
    · have := bulks.slice_le (H := H) (lits .u8 (zs.take len)) (lits .u8 (zs.drop len))
      rw [len_lits, len_lits] at this
      show (zs.take len).length + 1 ≤ Rows.uptoBulk (DataW.slice (lits .u8 (zs.take len)) (lits .u8 (zs.drop len)))
      omega
theorem bytes_open {v : Value} {d : DataW H} {ps : List MemPlace} {r : Reach} {b0 : Nat} (hv : Value.okWide Tryd.prog W r b0 23 v) (h : DataW.Trod enc Tryd.prog W base spare held 23 v d ps) :
    ∃ xs, Bytes W v xs ∧ Byt xs ∧ xs.length + 1 ≤ Rows.uptoBulk d := by
  obtain ⟨a, len, cap, rfl⟩ := okWide_slice Tryd.underlying23 hv
  obtain ⟨fuel, hf⟩ := h
  obtain ⟨v, xs, e, hb, hx, hu⟩ := bytes_trod hf
  have e' : v = .slice a len cap := by simpa [Value.cells] using e.symm
  subst e'
  exact ⟨xs, hb, hx, hu⟩
theorem flat_bulk (l : List Nat) (f : Nat → List Int) (D : Nat → DataW H) (h : ∀ i, i ∈ l → (f i).length + 1 ≤ Rows.uptoBulk (D i)) : (l.map f).flatten.length + l.length ≤ Rows.uptoBulkAll (l.map D) := by
  induction l with
  | nil => simp [Rows.uptoBulkAll]
  | cons x r ih =>
    have h1 := h x (by simp)
    have h2 := ih fun i hi => h i (by simp [hi])
    simp only [List.map_cons, List.flatten_cons, List.length_append, List.length_cons, Rows.uptoBulkAll]
    omega
theorem rows_open {v : Value} {d : DataW H} {ps : List MemPlace} {r : Reach} {b0 : Nat} (hv : Value.okWide Tryd.prog W r b0 22 v) (h : DataW.Trod enc Tryd.prog W base spare held 22 v d ps) :
    ∃ xss, RowsR W v xss ∧ (∀ xs, xs ∈ xss → Byt xs) ∧ xss.flatten.length + xss.length + 1 ≤ Rows.uptoBulk d := by
  obtain ⟨a0, len0, cap0, rfl⟩ := okWide_slice Tryd.underlying22 hv
  obtain ⟨fuel, hf⟩ := h
  rcases Deep.open_slice1 Tryd.underlying22 Tryd.cellsTB hf with ⟨e, e2⟩ | ⟨a, len, cap, m, n, V, D, Pl, e, _, hl, hm, hmm, e2, hx⟩
  · have e' : Value.slice a0 len0 cap0 = .slice none 0 0 := by simpa [Value.cells] using e
    cases e'
    cases e2
    refine ⟨[], ⟨[], ⟨rfl, .inl ⟨none, 0, rfl, rfl, Nat.zero_le _, fun _ => rfl⟩⟩, fun i x hx => (by simp at hx)⟩, fun xs h => (by cases h), by simp [Rows.uptoBulk]⟩
  · have e' : Value.slice a0 len0 cap0 = .slice (some a) len cap := by simpa [Value.cells] using e
    obtain ⟨rfl, rfl, rfl⟩ : some a = a0 ∧ len = len0 ∧ cap = cap0 := by cases e'; exact ⟨rfl, rfl, rfl⟩
    cases e2
    have hlm : len ≤ m := by rw [hmm]; split <;> omega
    obtain ⟨f, hf2⟩ := Deep.choose_lt (n := m) (p := fun i (xs : List Int) => Bytes W (V i) xs ∧ Byt xs ∧ xs.length + 1 ≤ Rows.uptoBulk (D i)) (fun i hi => by
      obtain ⟨v, xs, e, h1, h2, h3⟩ := bytes_trod (hx i hi).2
      cases e
      exact ⟨xs, h1, h2, h3⟩)
    have hc := fun i hi => (hx i hi).1
    refine ⟨(List.range len).map f, ⟨(List.range len).map V, ⟨by simp, ?_⟩, fun i x hx => ?_⟩, fun xs hxs => ?_, ?_⟩
    · rcases Nat.eq_zero_or_pos len with rfl | hp
      · exact .inl ⟨some a, cap, by simp, by simp, hm, fun h => by cases h⟩
      · obtain ⟨e, hb, hc'⟩ := cell_add hc (by omega)
        refine .inr ⟨a.block, a.off, cap, by rw [← e]; simp, by simpa using hl, hm, hb, fun j u hj => ?_⟩
        rw [List.getElem?_map] at hj
        obtain ⟨y, hy, rfl⟩ := Option.map_eq_some_iff.1 hj
        have hlt := (List.getElem?_eq_some_iff.1 hy).1
        have hv := (List.getElem?_eq_some_iff.1 hy).2
        simp at hlt hv
        subst hv
        exact hc' j (by omega)
    · rw [List.getElem?_map] at hx
      obtain ⟨y, hy, rfl⟩ := Option.map_eq_some_iff.1 hx
      have hlt := (List.getElem?_eq_some_iff.1 hy).1
      have hv := (List.getElem?_eq_some_iff.1 hy).2
      simp at hlt hv
      subst hv
      exact ⟨f i, by rw [List.getElem?_map, hy]; rfl, (hf2 i (by omega)).1⟩
    · obtain ⟨i, hi, rfl⟩ := List.mem_map.1 hxs
      exact (hf2 i (by have := List.mem_range.1 hi; omega)).2.1
    · have h1 := flat_bulk (List.range len) f D fun i hi => (hf2 i (by have := List.mem_range.1 hi; omega)).2.2
      have h2 := bulks.slice_elems (H := H) ((List.range len).map D) ((List.range (m - len)).map fun j => D (len + j))
      simp only [List.length_map, List.length_range] at h1 ⊢
      omega
theorem u16_bounds {n : Int} (h : (Lit.int .u16 n).wf = true) : 0 ≤ n ∧ n ≤ 65535 := by
  simp only [Lit.wf, Bool.and_eq_true, decide_eq_true_eq] at h
  exact h
end
end Go.Proofs.YtamkappanknklaaDoor
