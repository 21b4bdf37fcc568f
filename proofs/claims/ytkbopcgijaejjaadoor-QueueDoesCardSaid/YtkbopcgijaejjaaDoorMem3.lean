/-
  Writes into slices of the call's own; over whatever program; the conditions are each law's own.
  Printed by a program of this repository (wip/mem3.py).
-/
import Derived.Test.YtkbopcgijaejjaaDoorMem2
import Derived.Laws.Rows
namespace Go.Proofs.YtkbopcgijaejjaaDoor
open Go.RowKit

section
variable {w w' : World} {base : Nat} {e : TypeId} {size : Nat} {v : Value} {n : Nat} {xs : List Value}
/-- A cell of its own is written. -/
theorem Mid.stored {g o cap : Nat} (h : Mid w base e size (.slice (some ⟨g, o, none⟩) n cap) n xs) (j : Nat) (u : Value) :
    Mid (w.setCell ⟨g, o + j, none⟩ u) base e size (.slice (some ⟨g, o, none⟩) n cap) n (xs.set j u) := by
  refine ⟨by rw [List.length_set]; exact h.1, ?_⟩
  rcases h.2 with ⟨hv, _⟩ | ⟨g', o', cap', cur, hv, hb, hg, hn, hm, hc, ht⟩
  · cases hv
  · cases hv
    refine .inr ⟨g, o, cap, _, rfl, hb, heap_setCell_same w g (o + j) cur e u hg, hn, hm, by simpa using hc, ?_⟩
    rw [Array.toList_setIfInBounds, List.drop_set, if_neg (by omega), Nat.add_sub_cancel_left, List.take_set, ht]
/-- APPEND at a step of a region that draws its order. -/
theorem step_append_mid {P : Program} {ops : Array Oper} {o : Oper} {a : Act} {K : Act → World → Prop} {Q : Exit → Act → World → Prop} {E : Prop} (hgd : o.guard = none) (s x : Operand) (t tx : TypeId)
    (ho : o.op = .call { callee := .builtin .append, args := #[s, x], argTypes := #[t, tx] })
    (i : TypeInfo) (z : Value) (bytes : Nat) (ht : P.underlying t = some (.slice e)) (hi : P.info? e = some i) (hz : i.zero = some z)
    (hsize : i.size = size) (hby : i.bytes = bytes) (hzs : z.cells.size = size)
    (hv : a.eval s = v) (h : Mid w base e size v n xs) (xv : Value) (hx : a.eval x = xv) (m : Nat) (news : List Value) (hs : Src P size tx xv m news w)
    (h63 : n + m ≤ maxLen) (hbytes : ((n + m) + (n + m) / 4 + 192) * bytes ≤ 281474976710656) (hbase : base ≤ w.heap.size)
    (H : ∀ a' c' w', Mid w' base e size (.slice a' (n + m) c') (n + m) (xs ++ news) → w.grownBy w' v.ownBlock → ((Value.slice a' (n + m) c').ownBlock = v.ownBlock ∨ (Value.slice a' (n + m) c').ownBlock = some w.heap.size) → K (a.put o.dst (.slice a' (n + m) c')) w') :
    if Region.wanted o (yielded ops a.tmps) = true then Oper.wp P o a w K Q else E := by
  have hw : Region.wanted o (yielded ops a.tmps) = true := by simp [Region.wanted, hgd]
  rw [if_pos hw]
  exact wp_append_mid s x t tx ho i z bytes ht hi hz hsize hby hzs hv h xv hx m news hs h63 hbytes hbase H
/-- A block that was laid with these cells. -/
theorem Sl.lit (W : World) (T : TypeId) (size n : Nat) (cs : List Value) (hm : n ≤ maxLen) (hl : cs.length = n * size) : Sl (W.alloc (.cells cs.toArray T)) size (.slice (some ⟨W.heap.size, 0, none⟩) n n) n cs :=
  ⟨hl, .inr ⟨W.heap.size, 0, n, rfl, Nat.le_refl _, hm, by simp, fun j u hj => by simpa using hj⟩⟩
/-- What a function answers that lays a slice of its own. -/
def OwnR (w : World) (T : TypeId) (size n : Nat) (cs : List Value) (e : Ending) (w' : World) : Prop :=
  ∃ a c, e = .returned (.slice a n c) ∧ Mid w' w.heap.size T size (.slice a n c) n cs ∧ Below w.heap.size w w'
theorem cell_of_block {w : World} {b j : Nat} {cs : Array Value} {t : TypeId} {u : Value} (h : w.heap[b]? = some (.cells cs t (0, 0))) (hj : cs[j]? = some u) : w.cell? ⟨b, j, none⟩ = some u := by
  simp [World.cell?, h, hj]
theorem free_of_block {w : World} {b j : Nat} {cs : Array Value} {t : TypeId} (h : w.heap[b]? = some (.cells cs t (0, 0))) : w.frozen? ⟨b, j, none⟩ = false := by
  simp [World.frozen?, h]
theorem lt_of_block {w : World} {b : Nat} {o : Obj} (h : w.heap[b]? = some o) : b < w.heap.size := (Array.getElem?_eq_some_iff.1 h).1
/-- clear of a piece that the call owns: what lies ahead of it in the block stays. -/
theorem run_clear_mid {P : Program} {g o cap : Nat} (t : TypeId) (z : Value) (ht : P.underlying t = some (.slice e)) (hv : ∀ w, (zeroValue e).run P w = .ok z w) (hz : z.cells.size = size) (h2 : ∀ u ∈ (Builtin.zeroCells z.cells n).toList, u.oneCell' = true)
    (h : Mid w base e size (.slice (some ⟨g, o, none⟩) n cap) n xs) (hn : 0 < n) :
    ∃ w', (∀ ty : TypeId, (Builtin.clear_ #[t] ty #[.slice (some ⟨g, o, none⟩) n cap]).run P w = .ok (.tuple #[]) w') ∧ Keeps w w' (fun k => k = g) ∧
      ∀ (o2 n2 c2 : Nat) (ys : List Value), Mid w base e size (.slice (some ⟨g, o2, none⟩) n2 c2) n2 ys → o2 + n2 * size ≤ o → Mid w' base e size (.slice (some ⟨g, o2, none⟩) n2 c2) n2 ys := by
  rcases h.2 with ⟨hvv, _⟩ | ⟨g', o', cap', cur, hvv, hb, hg, hnn, hm, hc, ht'⟩
  · cases hvv
  · cases hvv
    have hl : (Builtin.zeroCells z.cells n).toList.length = n * size := by rw [Array.length_toList, size_zeroCells, hz]
    have hle : n * size ≤ cap * size := Nat.mul_le_mul_right _ hnn
    have hst := run_storeCells_at P g o e (Builtin.zeroCells z.cells n).toList 0 cur w hg (by omega) h2
    simp only [Nat.add_zero] at hst
    refine ⟨w.setRow g (cur.toList.take o ++ (Builtin.zeroCells z.cells n).toList ++ cur.toList.drop (o + (Builtin.zeroCells z.cells n).toList.length)).toArray, ?_, ⟨rfl, rfl, rfl, by simp, fun k _ hk => setRow_other w g k _ hk⟩, fun o2 n2 c2 ys hy ho => ?_⟩
    · intro ty
      obtain ⟨m, rfl⟩ : ∃ m, n = m + 1 := ⟨n - 1, by omega⟩
      simp [Builtin.clear_, run_underlying ht, hv, hst]
    · refine ⟨hy.1, ?_⟩
      rcases hy.2 with ⟨hv2, _⟩ | ⟨g2, o2', cap2, cur2, hv2, hb2, hg2, hn2, hm2, hc2, ht2⟩
      · cases hv2
      · cases hv2
        rw [hg] at hg2
        cases hg2
        refine .inr ⟨g, o2, c2, _, rfl, hb, setRow_heap w g cur _ e _ hg, hn2, hm2, ?_, ?_⟩
        · simp only [List.size_toArray, List.length_append, List.length_take, List.length_drop, Array.length_toList, hl]
          omega
        · rw [← ht2]
          show (List.drop o2 (cur.toList.take o ++ _ ++ cur.toList.drop _)).take (n2 * size) = _
          rw [List.append_assoc, List.drop_append_of_le_length (by rw [List.length_take, Array.length_toList]; omega), List.take_append_of_le_length (by rw [List.length_drop, List.length_take, Array.length_toList]; omega), List.drop_take, List.take_take, Nat.min_eq_left (by omega)]
theorem Below.drawn (w : World) (m : Nat) : Below w.heap.size w (w.drewN m) := ⟨rfl, rfl, rfl, Nat.le_refl _, fun _ _ => rfl⟩
theorem Mid.drewN (h : Mid w base e size v n xs) (m : Nat) : Mid (w.drewN m) base e size v n xs := h.same fun _ _ => rfl
theorem Mid.keeps {S : Nat → Prop} (h : Mid w base e size v n xs) (hk : Keeps w w' S) (hn : ∀ k, v.ownBlock = some k → ¬ S k) : Mid w' base e size v n xs :=
  h.same fun k hv => hk.block k (h.lt k hv).2 (hn k hv)
end
end Go.Proofs.YtkbopcgijaejjaaDoor
