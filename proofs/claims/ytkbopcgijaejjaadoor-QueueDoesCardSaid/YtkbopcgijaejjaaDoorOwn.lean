/-
  Several slices that are owned at once, none of which shares a block with another one; over whatever program; the conditions are each law's own.
  Printed by a program of this repository (wip/own.py).
-/
import Derived.Test.YtkbopcgijaejjaaDoorMem3
namespace Go.Proofs.YtkbopcgijaejjaaDoor
open Go.RowKit

/-- A slice that is owned, and what it holds. -/
structure Pc where
  v : Value
  e : TypeId
  size : Nat
  n : Nat
  xs : List Value
def Pc.mid (p : Pc) (w : World) : Prop := Mid w 0 p.e p.size p.v p.n p.xs
/-- Two do not share a block. -/
def Apart (p q : Pc) : Prop := ∀ k, p.v.ownBlock = some k → q.v.ownBlock ≠ some k
theorem Apart.symm {p q : Pc} (h : Apart p q) : Apart q p := fun k hq hp => h k hp hq
def Own (w : World) (ps : List Pc) : Prop := (∀ p, p ∈ ps → p.mid w) ∧ ps.Pairwise Apart
/-- The blocks of some. -/
def Foot (ps : List Pc) (k : Nat) : Prop := ∃ p, p ∈ ps ∧ p.v.ownBlock = some k
section
variable {w w' : World} {ps : List Pc}
theorem Own.nil (w : World) : Own w [] := ⟨fun p h => (by cases h), List.Pairwise.nil⟩
theorem Own.get (h : Own w ps) (i : Nat) (hi : i < ps.length) : ps[i].mid w := h.1 _ (List.getElem_mem hi)
theorem Own.apart (h : Own w ps) (i j : Nat) (hi : i < ps.length) (hj : j < ps.length) (hne : i ≠ j) : Apart ps[i] ps[j] := by
  have hp := List.pairwise_iff_getElem.1 h.2
  rcases Nat.lt_or_gt_of_ne hne with hlt | hgt
  · exact hp i j hi hj hlt
  · exact (hp j i hj hi hgt).symm
theorem Own.lt (h : Own w ps) : ∀ k, Foot ps k → k < w.heap.size := fun k ⟨p, hp, hk⟩ => (Mid.lt (h.1 p hp) k hk).2
theorem Own.keeps {S : Nat → Prop} (h : Own w ps) (hk : Keeps w w' S) (hs : ∀ k, Foot ps k → ¬ S k) : Own w' ps :=
  ⟨fun p hp => Mid.keeps (h.1 p hp) hk fun k hv => hs k ⟨p, hp, hv⟩, h.2⟩
theorem Own.below (h : Own w ps) (hb : Below w.heap.size w w') : Own w' ps :=
  h.keeps (Keeps.of_below hb (S := fun k => w.heap.size ≤ k) fun b h _ => h) fun k hf hn => by have := h.lt k hf; omega
/-- One of them is written. -/
theorem Own.set (h : Own w ps) (i : Nat) (hi : i < ps.length) (p' : Pc) (hk : Keeps w w' (fun k => ps[i].v.ownBlock = some k)) (hm : p'.mid w') (hb : ∀ k, p'.v.ownBlock = some k → ps[i].v.ownBlock = some k ∨ w.heap.size ≤ k) : Own w' (ps.set i p') := by
  have hz := hk.size
  have hap : ∀ (j : Nat) (hj : j < ps.length), j ≠ i → ps[j].mid w' ∧ Apart p' ps[j] := fun j hj hne => by
    have hij := h.apart i j hi hj fun e => hne e.symm
    refine ⟨Mid.keeps (h.get j hj) hk fun k hv hi' => hij k hi' hv, fun k h1 h2 => ?_⟩
    rcases hb k h1 with h3 | h3
    · exact hij k h3 h2
    · have := (Mid.lt (h.get j hj) k h2).2; omega
  refine ⟨fun p hp => ?_, List.pairwise_iff_getElem.2 fun a b ha hb' hab => ?_⟩
  · obtain ⟨j, hj, rfl⟩ := List.mem_iff_getElem.1 hp
    rw [List.length_set] at hj
    rw [List.getElem_set]
    split
    · exact hm
    · rename_i hne; exact (hap j hj fun e => hne e.symm).1
  · rw [List.length_set] at ha hb'
    rw [List.getElem_set, List.getElem_set]
    split
    · rename_i ea
      split
      · omega
      · rename_i eb; exact (hap b hb' fun e => eb e.symm).2
    · rename_i ea
      split
      · rename_i eb; exact (hap a ha fun e => ea e.symm).2.symm
      · exact h.apart a b ha hb' (by omega)
/-- One more. -/
theorem Own.push (h : Own w ps) (hb : Below w.heap.size w w') (p' : Pc) (hm : p'.mid w') (hn : ∀ k, p'.v.ownBlock = some k → w.heap.size ≤ k) : Own w' (ps ++ [p']) := by
  have h' := h.below hb
  refine ⟨fun p hp => ?_, List.pairwise_append.2 ⟨h'.2, List.pairwise_singleton _ _, fun x hx y hy => ?_⟩⟩
  · rcases List.mem_append.1 hp with hp | hp
    · exact h'.1 p hp
    · rw [List.mem_singleton.1 hp]; exact hm
  · rw [List.mem_singleton.1 hy]
    exact fun k h1 h2 => by have := (Mid.lt (h.1 x hx) k h1).2; have := hn k h2; omega
/-- One less. -/
theorem Own.erase (h : Own w ps) (i : Nat) : Own w (ps.eraseIdx i) :=
  ⟨fun p hp => h.1 p (List.mem_of_mem_eraseIdx hp), h.2.sublist (List.eraseIdx_sublist _ _)⟩
theorem foot_erase {i k : Nat} (h : Foot (ps.eraseIdx i) k) : Foot ps k := by
  obtain ⟨p, hp, hk⟩ := h; exact ⟨p, List.mem_of_mem_eraseIdx hp, hk⟩
theorem foot_set {i k : Nat} {p' : Pc} (h : Foot (ps.set i p') k) : Foot ps k ∨ p'.v.ownBlock = some k := by
  obtain ⟨p, hp, hk⟩ := h
  rcases List.mem_or_eq_of_mem_set hp with h | h
  · exact .inl ⟨p, h, hk⟩
  · exact .inr (h ▸ hk)
theorem foot_push {k : Nat} {p' : Pc} (h : Foot (ps ++ [p']) k) : Foot ps k ∨ p'.v.ownBlock = some k := by
  obtain ⟨p, hp, hk⟩ := h
  rcases List.mem_append.1 hp with h | h
  · exact .inl ⟨p, h, hk⟩
  · exact .inr (List.mem_singleton.1 h ▸ hk)
theorem foot_at {i k : Nat} (hi : i < ps.length) (h : ps[i].v.ownBlock = some k) : Foot ps k := ⟨_, List.getElem_mem hi, h⟩
end
theorem flat_at {α : Type} (f : α → List Value) (k : Nat) (hk : ∀ x, (f x).length = k) (l : List α) (i : Nat) (h : i < l.length) (j : Nat) (u : Value) (hj : (f l[i])[j]? = some u) : (l.flatMap f)[i * k + j]? = some u := by
  induction l generalizing i with
  | nil => simp at h
  | cons g r ih =>
    rw [List.flatMap_cons]
    have hjk : j < k := by have := (List.getElem?_eq_some_iff.1 hj).1; rw [hk] at this; exact this
    cases i with
    | zero => rw [Nat.zero_mul, Nat.zero_add, List.getElem?_append_left (by rw [hk]; exact hjk)]; exact hj
    | succ i =>
      rw [List.getElem?_append_right (by rw [hk, Nat.succ_mul]; omega), hk, show (i + 1) * k + j - k = i * k + j by rw [Nat.succ_mul]; omega]
      exact ih i (by simpa using h) (by simpa using hj)
theorem flat_inv {α : Type} (f : α → List Value) (k : Nat) (hk : ∀ x, (f x).length = k) (l : List α) (m : Nat) (u : Value) (h : (l.flatMap f)[m]? = some u) : ∃ (i : Nat) (hi : i < l.length) (j : Nat), m = i * k + j ∧ j < k ∧ (f l[i])[j]? = some u := by
  induction l generalizing m with
  | nil => simp at h
  | cons g r ih =>
    rw [List.flatMap_cons] at h
    rcases Nat.lt_or_ge m (f g).length with hlt | hge
    · rw [List.getElem?_append_left hlt] at h
      exact ⟨0, by simp, m, by simp, by rw [← hk g]; exact hlt, h⟩
    · rw [List.getElem?_append_right hge] at h
      obtain ⟨i, hi, j, e, hj, hu⟩ := ih _ h
      rw [hk] at e hge
      exact ⟨i + 1, by simpa using hi, j, by rw [Nat.succ_mul]; omega, hj, hu⟩
theorem flat_len {α : Type} (f : α → List Value) (k : Nat) (hk : ∀ x, (f x).length = k) (l : List α) : (l.flatMap f).length = l.length * k := by
  induction l with
  | nil => simp
  | cons g r ih => rw [List.flatMap_cons, List.length_append, ih, hk, List.length_cons, Nat.succ_mul]; omega
/-- One element's cells are written, one cell of them. -/
theorem flat_set {α : Type} (f : α → List Value) (k : Nat) (hk : ∀ x, (f x).length = k) (l : List α) (i : Nat) (hi : i < l.length) (x : α) (j : Nat) (hj : j < k) (u : Value) (hx : f x = (f l[i]).set j u) : (l.set i x).flatMap f = (l.flatMap f).set (i * k + j) u := by
  induction l generalizing i with
  | nil => simp at hi
  | cons g r ih =>
    cases i with
    | zero =>
      simp only [List.set_cons_zero, List.flatMap_cons, Nat.zero_mul, Nat.zero_add]
      rw [List.set_append_left _ _ (by rw [hk]; exact hj)]
      rw [hx]; rfl
    | succ i =>
      simp only [List.set_cons_succ, List.flatMap_cons]
      rw [List.set_append_right _ _ (by rw [hk, Nat.succ_mul]; omega), hk, show (i + 1) * k + j - k = i * k + j by rw [Nat.succ_mul]; omega]
      rw [ih i (by simpa using hi) (by simpa using hx)]
end Go.Proofs.YtkbopcgijaejjaaDoor
