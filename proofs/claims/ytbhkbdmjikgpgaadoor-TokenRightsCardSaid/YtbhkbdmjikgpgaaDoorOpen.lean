/-
  An argument that is a script of acts, or one act, opened: what it reads as; the conditions are the reading's own.
  Printed by a program of this repository (wip/tok12.py).
-/
import Derived.Test.YtbhkbdmjikgpgaaDoorActs
import Derived.Deep.Slices
import Derived.Deep.Fields
import Derived.ChangeSame
import Derived.Lib.SmallJoins
import Derived.ChangeMaps5
namespace Go.Proofs.YtbhkbdmjikgpgaaDoor
open Go.ChangeShapes Go.WideShapes Go.ChangeAt Go.RowKit Go.Deep Go.Joins

theorem Tryd.cellsTA : Tryd.prog.cellsOf 35 = 4 := by kernel_rfl
theorem Tryd.cellsTI : Tryd.prog.cellsOf 3 = 1 := by kernel_rfl
theorem Tryd.cellsTS : Tryd.prog.cellsOf 9 = 1 := by kernel_rfl
theorem Tryd.bytesTA : Tryd.prog.bytesOf 35 = 40 := by kernel_rfl
theorem flat_inv {α : Type} (f : α → List Value) (k : Nat) (hk : ∀ x, (f x).length = k) (l : List α) (m : Nat) (u : Value) (h : (l.flatMap f)[m]? = some u) : ∃ (i : Nat) (hi : i < l.length) (j : Nat), m = i * k + j ∧ j < k ∧ (f l[i])[j]? = some u := by
  induction l generalizing m with
  | nil => simp at h
  | cons g r ih =>
    rw [List.flatMap_cons] at h
    rcases Nat.lt_or_ge m (f g).length with hlt | hge
    · rw [List.getElem?_append_left hlt] at h
      exact ⟨0, by simp, m, by simp, by rw [← hk g]; exact hlt, h⟩
    · rw [List.getElem?_append_right hge] at h
      obtain ⟨i, hi, j, e, hj, hu⟩ := ih _ h
      rw [hk] at e hge
      exact ⟨i + 1, by simpa using hi, j, by rw [Nat.succ_mul]; omega, hj, hu⟩
theorem flat_len {α : Type} (f : α → List Value) (k : Nat) (hk : ∀ x, (f x).length = k) (l : List α) : (l.flatMap f).length = l.length * k := by
  induction l with
  | nil => simp
  | cons g r ih => rw [List.flatMap_cons, List.length_append, ih, hk, List.length_cons, Nat.succ_mul]; omega
theorem i64_of {n : Int} (h : (Lit.int .i64 n).wf = true) : I64 n := by
  simp only [Lit.wf, Bool.and_eq_true, decide_eq_true_eq] at h
  exact h
theorem cell_spot {w : World} {a : Addr} {u : Value} (h : w.cell? a = some u) : a = ⟨a.block, a.off, none⟩ := by
  unfold World.cell? at h
  split at h
  · split at h
    · cases h
    · obtain ⟨x, y, z⟩ := a
      cases z with
      | none => rfl
      | some _ => simp_all
  · cases h
instance : Inhabited Ac := ⟨⟨0, 0, 0, ⟨#[]⟩⟩⟩
theorem four {α : Type} (l : List α) (h : l.length = 4) : ∃ a b c d, l = [a, b, c, d] := by
  match l, h with
  | [a, b, c, d], _ => exact ⟨a, b, c, d, rfl⟩
section
variable {H : Type} {enc : TypeId × Value → H} {W : World} {base : Nat} {spare : Nat → Bool} {held : Bool}
theorem ac_trod {fuel : Nat} {cs : List Value} {x : DataW H × List MemPlace} (h : DataW.trod enc Tryd.prog W base spare held fuel 35 cs = some x) : ∃ a : Ac, cs = acCells a ∧ AcOk a := by
  obtain ⟨xs, n, _, _, hl, hxl, hf⟩ := DataW.trod_struct Tryd.underlying35 h
  rw [Tryd.cellsTA] at hl
  obtain ⟨c0, c1, c2, c3, rfl⟩ := four cs hl
  obtain ⟨y0, y1, y2, y3, rfl⟩ := four xs hxl
  have h0 : DataW.trod enc Tryd.prog W base spare held n 3 (([c0, c1, c2, c3].drop 0).take (Tryd.prog.cellsOf 3)) = some y0 := hf 0 _ rfl
  have h1 : DataW.trod enc Tryd.prog W base spare held n 3 (([c0, c1, c2, c3].drop 1).take (Tryd.prog.cellsOf 3)) = some y1 := hf 1 _ rfl
  have h2 : DataW.trod enc Tryd.prog W base spare held n 3 (([c0, c1, c2, c3].drop 2).take (Tryd.prog.cellsOf 3)) = some y2 := hf 2 _ rfl
  have h3 : DataW.trod enc Tryd.prog W base spare held n 9 (([c0, c1, c2, c3].drop 3).take (Tryd.prog.cellsOf 9)) = some y3 := hf 3 _ rfl
  clear hf
  rw [Tryd.cellsTI] at h0 h1 h2
  rw [Tryd.cellsTS] at h3
  obtain ⟨d, e0, _, w0⟩ := DataW.trod_int Tryd.underlying3 h0
  obtain ⟨u, e1, _, w1⟩ := DataW.trod_int Tryd.underlying3 h1
  obtain ⟨r, e2, _, w2⟩ := DataW.trod_int Tryd.underlying3 h2
  obtain ⟨t, e3, _, w3⟩ := DataW.trod_string Tryd.underlying9 h3
  simp at e0 e1 e2 e3
  subst e0 e1 e2 e3
  exact ⟨⟨d, u, r, t⟩, rfl, i64_of w0, i64_of w1, i64_of w2, w3⟩
set_option maxRecDepth 100000 in
theorem acts_open {v : Value} {d : DataW H} {ps : List MemPlace} {r : Reach} {b0 : Nat} (hv : Value.okWide Tryd.prog W r b0 26 v) (h : DataW.Trod enc Tryd.prog W base spare held 26 v d ps) :
    ∃ xs, Acts W v xs ∧ (xs = [] ∨ ∃ elems sp, d = .slice elems sp ∧ elems.length = xs.length) := by
  obtain ⟨a0, len0, cap0, rfl⟩ := okWide_slice Tryd.underlying26 hv
  obtain ⟨fuel, hf⟩ := h
  rcases Deep.open_slice Tryd.underlying26 hf with ⟨e, e2⟩ | ⟨a, len, cap, m, n, D, Pl, e, _, hl, hm, hmm, e2, hx⟩
  · have e' : Value.slice a0 len0 cap0 = .slice none 0 0 := by simpa [Value.cells] using e
    cases e'
    exact ⟨[], ⟨⟨rfl, .inl ⟨none, 0, rfl, rfl, Nat.zero_le _, fun _ => rfl⟩⟩, fun x h => (by cases h)⟩, .inl rfl⟩
  · have e' : Value.slice a0 len0 cap0 = .slice (some a) len cap := by simpa [Value.cells] using e
    obtain ⟨rfl, rfl, rfl⟩ : some a = a0 ∧ len = len0 ∧ cap = cap0 := by cases e'; exact ⟨rfl, rfl, rfl⟩
    cases e2
    have hlm : len ≤ m := by rw [hmm]; split <;> omega
    rw [Tryd.cellsTA] at hx
    obtain ⟨f, hf2⟩ := Deep.choose_lt (n := m) (p := fun i (x : Ac) => AcOk x ∧ ∀ j, j < 4 → W.cell? (a.add (i * 4 + j)) = (acCells x)[j]?) (fun i hi => by
      obtain ⟨cs', hc, ht⟩ := hx i hi
      obtain ⟨x, rfl, ho⟩ := ac_trod ht
      obtain ⟨_, _, hat⟩ := World.cells?_some hc
      exact ⟨x, ho, fun j hj => by rw [← Go.Deep.add_add]; exact hat j hj⟩)
    refine ⟨(List.range len).map f, ⟨⟨by rw [flat_len acCells 4 (fun _ => rfl)], ?_⟩, fun x hxm => ?_⟩, .inr ⟨_, _, rfl, by simp⟩⟩
    · rcases Nat.eq_zero_or_pos len with rfl | hp
      · exact .inl ⟨some a, cap, by simp, by simp, hm, fun h => by cases h⟩
      · have h0 := (hf2 0 (by omega)).2 0 (by omega)
        have hs := cell_spot (show W.cell? a = some _ from h0)
        have hb : a.block < W.heap.size := World.block_lt_of_cell? _ _ (show W.cell? a = some _ from h0)
        refine .inr ⟨a.block, a.off, cap, by rw [← hs]; simp, by simpa using hl, hm, hb, fun j u hj => ?_⟩
        obtain ⟨i, hi, j', rfl, hj', hu⟩ := flat_inv acCells 4 (fun _ => rfl) _ j u hj
        simp only [List.length_map, List.length_range] at hi
        simp only [List.getElem_map, List.getElem_range] at hu
        have := (hf2 i (by omega)).2 j' hj'
        rw [hu] at this
        rw [hs] at this
        rw [Addr.add_lit] at this
        exact this
    · obtain ⟨i, hi, rfl⟩ := List.mem_map.1 hxm
      exact (hf2 i (by have := List.mem_range.1 hi; omega)).1
set_option maxRecDepth 100000 in
theorem act_open {v : Value} {d : DataW H} {ps : List MemPlace} {r : Reach} {b0 : Nat} (hv : Value.okWide Tryd.prog W r b0 35 v) (h : DataW.Trod enc Tryd.prog W base spare held 35 v d ps) :
    ∃ x : Ac, v = .agg #[.int .i64 x.d, .int .i64 x.u, .int .i64 x.r, .string x.t] ∧ AcOk x := by
  obtain ⟨cs, rfl, _⟩ := okWide_struct Tryd.underlying35 hv
  obtain ⟨fuel, hf⟩ := h
  obtain ⟨x, e, ho⟩ := ac_trod hf
  obtain ⟨l⟩ := cs
  have e' : l = acCells x := by simpa [Value.cells] using e
  subst e'
  exact ⟨x, rfl, ho⟩
theorem lit_u8 {n : Int} (h : (Lit.int .u8 n).wf = true) : 0 ≤ n ∧ n ≤ 255 := by
  simp only [Lit.wf, Bool.and_eq_true, decide_eq_true_eq] at h
  exact h
/-- How long a script is at the most. -/
theorem acts_sized {ts : List TypeId} {ds : List (DataW H)} (h : (DataW.weightsEach Tryd.prog ts ds).all (· ≤ reachBytes) = true) {j : Nat} {d : DataW H} {xs : List Ac} (ht : ts[j]? = some 26) (hd : ds[j]? = some d) (hx : xs = [] ∨ ∃ elems sp, d = .slice elems sp ∧ elems.length = xs.length) : xs.length * 40 ≤ 140737488351232 := by
  rcases hx with rfl | ⟨el, sp, rfl, hl⟩
  · simp
  · have := sized_slice h ht hd Tryd.underlying26
    rw [Tryd.bytesTA, hl] at this
    have e : reachBytes = 140737488351232 := rfl
    rw [e] at this
    have : xs.length * 40 ≤ (xs.length + sp.length) * 40 := Nat.mul_le_mul_right _ (by omega)
    omega
end
end Go.Proofs.YtbhkbdmjikgpgaaDoor
