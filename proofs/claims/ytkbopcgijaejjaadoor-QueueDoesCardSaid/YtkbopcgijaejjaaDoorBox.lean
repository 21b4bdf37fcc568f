/-
  A struct in a block of its own, and slices that it owns; what writes make of them; over whatever program; the conditions are each law's own.
  Printed by a program of this repository (wip/mbox.py).
-/
import Derived.Test.YtkbopcgijaejjaaDoorOwn
namespace Go.Proofs.YtkbopcgijaejjaaDoor
open Go.RowKit

/-- A block with these cells; slices that lie in blocks of their own; all of it in the blocks G. -/
def Box (w : World) (mb : Nat) (T : TypeId) (G : Nat → Prop) (hs : List Value) (ps : List Pc) : Prop :=
  w.heap[mb]? = some (.cells hs.toArray T (0, 0)) ∧ Own w ps ∧ G mb ∧ (∀ k, Foot ps k → G k ∧ k ≠ mb) ∧ ∀ k, G k → k < w.heap.size
section
variable {w w' : World} {mb : Nat} {T : TypeId} {G S : Nat → Prop} {hs : List Value} {ps : List Pc}
theorem Box.keeps (h : Box w mb T G hs ps) (hk : Keeps w w' S) (hd : ∀ k, G k → ¬ S k) : Box w' mb T G hs ps := by
  obtain ⟨h1, h2, h3, h4, h5⟩ := h
  exact ⟨(hk.block mb (lt_of_block h1) (hd mb h3)).trans h1, h2.keeps hk fun k hf => hd k (h4 k hf).1, h3, h4, fun k h => Nat.lt_of_lt_of_le (h5 k h) hk.size⟩
theorem Box.below (h : Box w mb T G hs ps) (hb : Below w.heap.size w w') : Box w' mb T G hs ps :=
  h.keeps (Keeps.of_below hb (S := fun k => w.heap.size ≤ k) fun b h _ => h) fun k hG hn => by have := h.2.2.2.2 k hG; omega
theorem Box.lt (h : Box w mb T G hs ps) : ∀ k, G k → k < w.heap.size := h.2.2.2.2
theorem Box.cell (h : Box w mb T G hs ps) (j : Nat) {u : Value} (hj : hs[j]? = some u) : w.cell? ⟨mb, j, none⟩ = some u := cell_of_block h.1 (by simpa using hj)
theorem Box.free (h : Box w mb T G hs ps) (j : Nat) : w.frozen? ⟨mb, j, none⟩ = false := free_of_block h.1
theorem Box.mid (h : Box w mb T G hs ps) (i : Nat) {p : Pc} (hp : ps[i]? = some p) : p.mid w := h.2.1.1 p (List.mem_of_getElem? hp)
theorem Box.foot (h : Box w mb T G hs ps) (i : Nat) {p : Pc} (hp : ps[i]? = some p) : ∀ k, p.v.ownBlock = some k → G k ∧ k ≠ mb := fun k hk => h.2.2.2.1 k ⟨p, List.mem_of_getElem? hp, hk⟩
theorem Box.apart (h : Box w mb T G hs ps) (i j : Nat) {p q : Pc} (hp : ps[i]? = some p) (hq : ps[j]? = some q) (hne : i ≠ j) : Apart p q := by
  obtain ⟨hi, rfl⟩ := List.getElem?_eq_some_iff.1 hp
  obtain ⟨hj, rfl⟩ := List.getElem?_eq_some_iff.1 hq
  exact h.2.1.apart i j hi hj hne
/-- What an act leaves: such a box; nothing else is written. -/
def BoxA (w : World) (mb : Nat) (T : TypeId) (G : Nat → Prop) (hs : List Value) (ps : List Pc) (w' : World) : Prop :=
  ∃ G', Box w' mb T G' hs ps ∧ (∀ k, G' k → G k ∨ w.heap.size ≤ k) ∧ Keeps w w' G
theorem BoxA.of_below (h : Box w mb T G hs ps) (hb : Below w.heap.size w w') : BoxA w mb T G hs ps w' :=
  ⟨G, h.below hb, fun _ h => .inl h, Keeps.of_below hb fun b h1 h2 => by omega⟩
theorem BoxA.trans {w1 w2 : World} {hs1 hs2 : List Value} {ps1 ps2 : List Pc} (h : BoxA w mb T G hs1 ps1 w1) (k : ∀ G1, Box w1 mb T G1 hs1 ps1 → BoxA w1 mb T G1 hs2 ps2 w2) : BoxA w mb T G hs2 ps2 w2 := by
  obtain ⟨F1, h1, h2, h3⟩ := h
  obtain ⟨F2, k1, k2, k3⟩ := k F1 h1
  refine ⟨F2, k1, fun x hx => ?_, h3.trans k3 fun b hb hF => ?_⟩
  · rcases k2 x hx with h | h
    · exact h2 x h
    · right; have := h3.size; omega
  · rcases h2 b hF with h | h
    · exact h
    · omega
theorem BoxA.below {w1 w2 : World} (h : BoxA w mb T G hs ps w1) (hb : Below w1.heap.size w1 w2) : BoxA w mb T G hs ps w2 := h.trans fun _ hq => BoxA.of_below hq hb
/-- One of its slices is written, or is another one. -/
theorem Box.write (h : Box w mb T G hs ps) (i : Nat) {p : Pc} (hp : ps[i]? = some p) (p' : Pc) (hk : Keeps w w' (fun k => p.v.ownBlock = some k)) (hm : p'.mid w') (hb : ∀ k, p'.v.ownBlock = some k → p.v.ownBlock = some k ∨ w.heap.size ≤ k) :
    BoxA w mb T G hs (ps.set i p') w' := by
  have hf := h.foot i hp
  obtain ⟨h1, h2, h3, h4, h5⟩ := h
  obtain ⟨hi, rfl⟩ := List.getElem?_eq_some_iff.1 hp
  have hz := hk.size
  have ho := h2.set i hi p' hk hm hb
  refine ⟨fun k => k < w'.heap.size ∧ (G k ∨ w.heap.size ≤ k), ⟨(hk.block mb (lt_of_block h1) fun e => (hf mb e).2 rfl).trans h1, ho, ⟨by have := lt_of_block h1; omega, .inl h3⟩, fun k hfk => ?_, fun k h => h.1⟩, fun k h => h.2, hk.mono fun b _ h => (hf b h).1⟩
  have hlt := ho.lt k hfk
  rcases foot_set hfk with h | h
  · exact ⟨⟨hlt, .inl (h4 k h).1⟩, (h4 k h).2⟩
  · rcases hb k h with h | h
    · exact ⟨⟨hlt, .inl (hf k h).1⟩, (hf k h).2⟩
    · exact ⟨⟨hlt, .inr h⟩, by have := lt_of_block h1; omega⟩
/-- One of the block's own cells is written. -/
theorem Box.head (h : Box w mb T G hs ps) (j : Nat) (v : Value) : BoxA w mb T G (hs.set j v) ps (w.setCell ⟨mb, j, none⟩ v) := by
  obtain ⟨h1, h2, h3, h4, h5⟩ := h
  have hk : Keeps w (w.setCell ⟨mb, j, none⟩ v) (fun k => k = mb) := Keeps.setCell _ _ _ rfl
  refine ⟨G, ⟨?_, h2.keeps hk fun k hf e => (h4 k hf).2 e, h3, h4, fun k h => by simpa using h5 k h⟩, fun k h => .inl h, hk.mono fun b _ h => by rw [h]; exact h3⟩
  rw [heap_setCell_same w mb j _ _ _ h1]; simp
/-- A slice more; it lies in a block that is new, or in none. -/
theorem Box.push (h : Box w mb T G hs ps) (hb : Below w.heap.size w w') (p' : Pc) (hm : p'.mid w') (hn : ∀ k, p'.v.ownBlock = some k → w.heap.size ≤ k) : BoxA w mb T G hs (ps ++ [p']) w' := by
  have hz := hb.size
  obtain ⟨h1, h2, h3, h4, h5⟩ := h
  have ho := h2.push hb p' hm hn
  refine ⟨fun k => k < w'.heap.size ∧ (G k ∨ w.heap.size ≤ k), ⟨(hb.block mb (lt_of_block h1)).trans h1, ho, ⟨by have := lt_of_block h1; omega, .inl h3⟩, fun k hfk => ?_, fun k h => h.1⟩, fun k h => h.2, Keeps.of_below hb fun b h1 h2 => by omega⟩
  have hlt := ho.lt k hfk
  rcases foot_push hfk with h | h
  · exact ⟨⟨hlt, .inl (h4 k h).1⟩, (h4 k h).2⟩
  · exact ⟨⟨hlt, .inr (hn k h)⟩, by have := hn k h; have := lt_of_block h1; omega⟩
/-- Some of its slices, in whatever order; two empty ones may be the same. -/
theorem Box.sub (h : Box w mb T G hs ps) {ps' : List Pc} (hm : ∀ p, p ∈ ps' → p ∈ ps) (hp : ps'.Pairwise Apart) : Box w mb T G hs ps' := by
  obtain ⟨h1, h2, h3, h4, h5⟩ := h
  exact ⟨h1, ⟨fun p h => h2.1 p (hm p h), hp⟩, h3, fun k ⟨p, h, hk⟩ => h4 k ⟨p, hm p h, hk⟩, h5⟩
theorem Box.erase (h : Box w mb T G hs ps) (i : Nat) : Box w mb T G hs (ps.eraseIdx i) :=
  h.sub (fun _ h => List.mem_of_mem_eraseIdx h) (h.2.1.erase i).2
theorem BoxA.map {w1 : World} {ps' : List Pc} (h : BoxA w mb T G hs ps w1) (k : ∀ G1, Box w1 mb T G1 hs ps → Box w1 mb T G1 hs ps') : BoxA w mb T G hs ps' w1 := by
  obtain ⟨G1, h1, h2, h3⟩ := h; exact ⟨G1, k G1 h1, h2, h3⟩
end
end Go.Proofs.YtkbopcgijaejjaaDoor
