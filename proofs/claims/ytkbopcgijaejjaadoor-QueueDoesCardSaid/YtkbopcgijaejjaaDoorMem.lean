/-
  Words and laws on slices that the call owns and that may begin in the middle of a block: append, reslicing, reading; over whatever program; the conditions are each law's own.
  Printed by a program of this repository (wip/mem.py).
-/
import Derived.WalkKit
import Derived.Deep.AppendSrc
import Derived.Deep.DeepAppendWide
namespace Go.Proofs.YtkbopcgijaejjaaDoor
open Go.RowKit

/-- A slice value of n elements that owns the cells xs, in a block from base on, wherever in the block it begins. -/
def Mid (w : World) (base : Nat) (e : TypeId) (size : Nat) (v : Value) (n : Nat) (xs : List Value) : Prop :=
  xs.length = n * size ∧ ((v = .slice none 0 0 ∧ n = 0) ∨
    ∃ (g o cap : Nat) (cur : Array Value), v = .slice (some ⟨g, o, none⟩) n cap ∧ base ≤ g ∧ w.heap[g]? = some (.cells cur e (0, 0)) ∧ n ≤ cap ∧ cap ≤ maxLen ∧ o + cap * size ≤ cur.size ∧ (cur.toList.drop o).take (n * size) = xs)

section
variable {w w' : World} {base : Nat} {e : TypeId} {size : Nat} {v : Value} {n : Nat} {xs : List Value}

theorem Mid.nil (w : World) (base : Nat) (e : TypeId) (size : Nat) : Mid w base e size (.slice none 0 0) 0 [] := ⟨by simp, .inl ⟨rfl, rfl⟩⟩

theorem Mid.lt (h : Mid w base e size v n xs) : ∀ k, v.ownBlock = some k → base ≤ k ∧ k < w.heap.size := by
  intro k hk
  rcases h.2 with ⟨rfl, _⟩ | ⟨g, o, cap, cur, rfl, hb, hg, _⟩
  · cases hk
  · simp only [Value.ownBlock, Option.some.injEq] at hk
    subst hk
    exact ⟨hb, (Array.getElem?_eq_some_iff.1 hg).1⟩

/-- What is owned stays owned where its block stays. -/
theorem Mid.same (h : Mid w base e size v n xs) (hs : ∀ k, v.ownBlock = some k → w'.heap[k]? = w.heap[k]?) : Mid w' base e size v n xs := by
  refine ⟨h.1, ?_⟩
  rcases h.2 with h0 | ⟨g, o, cap, cur, rfl, hb, hg, r⟩
  · exact .inl h0
  · exact .inr ⟨g, o, cap, cur, rfl, hb, (hs g rfl).trans hg, r⟩
theorem Mid.grown {row : Option Nat} (h : Mid w base e size v n xs) (hg : w.grownBy w' row) (hne : ∀ k, v.ownBlock = some k → some k ≠ row) : Mid w' base e size v n xs :=
  h.same fun k hk => hg.block k (h.lt k hk).2 (hne k hk)
theorem Mid.alloc (h : Mid w base e size v n xs) (ob : Obj) : Mid (w.alloc ob) base e size v n xs :=
  h.same fun k hk => Below.heap_alloc _ _ _ (h.lt k hk).2
theorem Mid.drew (h : Mid w base e size v n xs) : Mid w.drew base e size v n xs := h
theorem Mid.setCell {a : Addr} (h : Mid w base e size v n xs) (u : Value) (hne : v.ownBlock ≠ some a.block) : Mid (w.setCell a u) base e size v n xs :=
  h.same fun k hk => Below.heap_setCell _ _ _ _ (fun ee => hne (by rw [hk, ee]))
theorem Mid.below {B : Nat} (h : Mid w base e size v n xs) (hb : Below B w w') (hB : ∀ k, v.ownBlock = some k → k < B) : Mid w' base e size v n xs :=
  h.same fun k hk => hb.block k (hB k hk)
theorem Mid.mono {b2 : Nat} (h : Mid w base e size v n xs) (hb : b2 ≤ base) : Mid w b2 e size v n xs := by
  refine ⟨h.1, ?_⟩
  rcases h.2 with h0 | ⟨g, o, cap, cur, hv, hg, r⟩
  · exact .inl h0
  · exact .inr ⟨g, o, cap, cur, hv, Nat.le_trans hb hg, r⟩

/-- What such a value looks like. -/
theorem Mid.form (h : Mid w base e size v n xs) : (v = .slice none 0 0 ∧ n = 0 ∧ xs = []) ∨ ∃ g o cap, v = .slice (some ⟨g, o, none⟩) n cap ∧ base ≤ g ∧ g < w.heap.size ∧ n ≤ cap ∧ cap ≤ maxLen := by
  rcases h.2 with ⟨hv, h0⟩ | ⟨g, o, cap, cur, hv, hb, hg, hn, hm, _⟩
  · subst h0
    exact .inl ⟨hv, rfl, List.eq_nil_of_length_eq_zero (by simpa using h.1)⟩
  · exact .inr ⟨g, o, cap, hv, hb, (Array.getElem?_eq_some_iff.1 hg).1, hn, hm⟩

/-- Its cells. -/
theorem Mid.cell {g o cap : Nat} (h : Mid w base e size (.slice (some ⟨g, o, none⟩) n cap) n xs) : ∀ j u, xs[j]? = some u → w.cell? ⟨g, o + j, none⟩ = some u := by
  intro j u hj
  rcases h.2 with ⟨hv, _⟩ | ⟨g', o', cap', cur, hv, hb, hg, hn, hm, hc, ht⟩
  · cases hv
  · cases hv
    rw [← ht, List.getElem?_take] at hj
    split at hj
    · rw [List.getElem?_drop] at hj
      simp only [World.cell?, hg, Option.isSome_none, Bool.false_eq_true, if_false]
      simpa using hj
    · cases hj
theorem Mid.frozen {g o cap : Nat} (h : Mid w base e size (.slice (some ⟨g, o, none⟩) n cap) n xs) (j : Nat) : w.frozen? ⟨g, j, none⟩ = false := by
  rcases h.2 with ⟨hv, _⟩ | ⟨g', o', cap', cur, hv, hb, hg, _⟩
  · cases hv
  · cases hv
    simp [World.frozen?, hg]

/-- A piece from k on, its address moved. -/
theorem Mid.drop {g o cap : Nat} (h : Mid w base e size (.slice (some ⟨g, o, none⟩) n cap) n xs) (k : Nat) (hk : k ≤ n) : Mid w base e size (.slice (some ⟨g, o + k * size, none⟩) (n - k) (cap - k)) (n - k) (xs.drop (k * size)) := by
  rcases h.2 with ⟨hv, _⟩ | ⟨g', o', cap', cur, hv, hb, hg, hn, hm, hc, ht⟩
  · cases hv
  · cases hv
    refine ⟨by rw [List.length_drop, h.1, Nat.sub_mul], .inr ⟨g, o + k * size, cap - k, cur, rfl, hb, hg, by omega, by omega, ?_, ?_⟩⟩
    · have : (cap - k) * size + k * size ≤ cap * size := by rw [← Nat.add_mul]; exact Nat.mul_le_mul_right _ (by omega)
      omega
    · rw [← ht, List.drop_take, List.drop_drop, Nat.sub_mul]
/-- An empty piece at whatever place of the block. -/
theorem Mid.empty {g o cap : Nat} (h : Mid w base e size (.slice (some ⟨g, o, none⟩) n cap) n xs) : Mid w base e size (.slice (some ⟨g, o, none⟩) 0 0) 0 [] := by
  rcases h.2 with ⟨hv, _⟩ | ⟨g', o', cap', cur, hv, hb, hg, hn, hm, hc, ht⟩
  · cases hv
  · cases hv
    exact ⟨by simp, .inr ⟨g, o, 0, cur, rfl, hb, hg, Nat.le_refl _, Nat.zero_le _, by simp; omega, by simp⟩⟩

/-- A whole new block, owned from its head. -/
theorem Mid.new (w : World) (e : TypeId) (size n cap : Nat) (cur : Array Value) (hb : base ≤ w.heap.size) (hn : n ≤ cap) (hm : cap ≤ maxLen) (hs : cap * size ≤ cur.size) :
    Mid (w.alloc (.cells cur e)) base e size (.slice (some ⟨w.heap.size, 0, none⟩) n cap) n (cur.toList.take (n * size)) := by
  refine ⟨?_, .inr ⟨w.heap.size, 0, cap, cur, rfl, hb, heap_alloc_new w _, hn, hm, by simpa using hs, by simp⟩⟩
  have := Nat.mul_le_mul_right size hn
  rw [List.length_take, Array.length_toList]; omega

/-- APPEND onto such a slice, whatever is appended: in the block's own room, or a new block. -/
theorem run_append_mid {P : Program} (t tx ty : TypeId) (i : TypeInfo) (z : Value) (bytes : Nat) (ht : P.underlying t = some (.slice e)) (hi : P.info? e = some i) (hz : i.zero = some z)
    (hsize : i.size = size) (hby : i.bytes = bytes) (hzs : z.cells.size = size)
    (h : Mid w base e size v n xs) (x : Value) (m : Nat) (news : List Value) (hs : Src P size tx x m news w)
    (h63 : n + m ≤ maxLen) (hbytes : ((n + m) + (n + m) / 4 + 192) * bytes ≤ 281474976710656) (hbase : base ≤ w.heap.size) :
    ∃ v' w', (Builtin.append_ #[t, tx] ty #[v, x]).run P w = .ok v' w' ∧ Mid w' base e size v' (n + m) (xs ++ news) ∧ w.grownBy w' v.ownBlock ∧
      (v'.ownBlock = v.ownBlock ∨ v'.ownBlock = some w.heap.size) ∧ (v'.ownBlock = none → v = .slice none 0 0 ∧ m = 0) := by
  subst hsize
  subst hby
  have hsmall : n + m ≤ 9223372036854775807 := by simp only [maxLen] at h63; omega
  have hlen : (xs ++ news).length = (n + m) * i.size := by rw [List.length_append, h.1, hs.newsLen, Nat.add_mul]
  have grown : ∀ (old : Nat), old < n + m → ∀ (row : Option Nat),
      Mid (w.drew.alloc (.cells ((xs ++ news).toArray ++ Builtin.zeroCells z.cells (grownCap w (n + m) old e - (n + m))) e)) base e i.size (.slice (some ⟨w.heap.size, 0, none⟩) (n + m) (grownCap w (n + m) old e)) (n + m) (xs ++ news) ∧
      w.grownBy (w.drew.alloc (.cells ((xs ++ news).toArray ++ Builtin.zeroCells z.cells (grownCap w (n + m) old e - (n + m))) e)) row := by
    intro old ho row
    have hge := grownCap_ge w (n + m) old e
    have hcm : grownCap w (n + m) old e ≤ maxLen := grownCap_le_maxLen w (n + m) old e h63
    refine ⟨⟨hlen, .inr ⟨w.heap.size, 0, _, _, rfl, hbase, heap_alloc_new w.drew _, hge, hcm, ?_, ?_⟩⟩, ⟨rfl, rfl, rfl, by simp, fun k hk _ => heap_alloc_old w.drew _ hk⟩⟩
    · have e1 : (xs ++ news).toArray.size = (n + m) * i.size := by simpa using hlen
      rw [Array.size_append, size_zeroCells, hzs, e1, ← Nat.add_mul, Nat.zero_add]
      exact Nat.mul_le_mul_right _ (by omega)
    · simp only [Array.toList_append, List.drop_zero]
      rw [← hlen]
      exact List.take_left
  rcases h.2 with ⟨rfl, rfl⟩ | ⟨g, o, cap, cur, rfl, hbg, hg, hnc, hcm, hcs, htake⟩
  · have hx : xs = [] := List.eq_nil_of_length_eq_zero (by simpa using h.1)
    subst hx
    by_cases hm : m = 0
    · subst hm
      have hn : news = [] := List.eq_nil_of_length_eq_zero (by simpa using hs.newsLen)
      subst hn
      refine ⟨.slice none 0 0, w, ?_, by simpa using Mid.nil w base e i.size, ⟨rfl, rfl, rfl, Nat.le_refl _, fun _ _ _ => rfl⟩, .inl rfl, fun _ => ⟨rfl, rfl⟩⟩
      rcases hs.kind with ⟨e', hk⟩ | hk <;> simp [Builtin.append_, run_underlying ht, run_underlying hk, sizeOf, typeInfo, hi, hs.len, hs.cells]
    · have hfit : Builtin.nextslicecap (0 + m) 0 * i.bytes ≤ 281474976710656 := growslice_fits_wide (by omega) hbytes
      have hr := run_append_grow_src (P := P) w t tx ty e i z ht hi hz none 0 0 [] (by simp [Builtin.firstCells]) x m news hs (by omega) (by omega) hfit
      have hgr := grown 0 (by omega) (Value.ownBlock (.slice none 0 0))
      exact ⟨_, _, hr, hgr.1, hgr.2, .inr rfl, fun h => by cases h⟩
  · by_cases hroom : n + m ≤ cap
    · have hfit : o + n * i.size + news.length ≤ cur.size := by
        have : n * i.size + m * i.size ≤ cap * i.size := by rw [← Nat.add_mul]; exact Nat.mul_le_mul_right _ hroom
        rw [hs.newsLen]; omega
      have hst := run_storeCells_at P g (o + n * i.size) e news 0 cur w hg (by simpa using hfit) hs.one
      simp only [Nat.add_zero] at hst
      have hr : (Builtin.append_ #[t, tx] ty #[.slice (some ⟨g, o, none⟩) n cap, x]).run P w = .ok (.slice (some ⟨g, o, none⟩) (n + m) cap) (w.setRow g (cur.toList.take (o + n * i.size) ++ news ++ cur.toList.drop (o + n * i.size + news.length)).toArray) := by
        rcases hs.kind with ⟨e', hk⟩ | hk <;> simp [Builtin.append_, run_underlying ht, run_underlying hk, sizeOf, typeInfo, hi, hs.len, hroom, hs.cells, Addr.add_lit, hst]
      refine ⟨_, _, hr, ⟨hlen, .inr ⟨g, o, cap, _, rfl, hbg, setRow_heap w g cur _ e _ hg, hroom, hcm, ?_, ?_⟩⟩, ⟨rfl, rfl, rfl, by simp, fun k _ hk => setRow_other w g k _ (fun ee => hk (by simp [Value.ownBlock, ee]))⟩, .inl rfl, fun h => by cases h⟩
      · simp only [List.size_toArray, List.length_append, List.length_take, List.length_drop, Array.length_toList]
        omega
      · have h1 : (cur.toList.take (o + n * i.size)).drop o = xs := by rw [List.drop_take, Nat.add_sub_cancel_left]; exact htake
        have hol : o ≤ (cur.toList.take (o + n * i.size)).length := by rw [List.length_take, Array.length_toList]; omega
        show (List.drop o (cur.toList.take (o + n * i.size) ++ news ++ cur.toList.drop (o + n * i.size + news.length))).take ((n + m) * i.size) = xs ++ news
        rw [List.append_assoc, List.drop_append_of_le_length hol, h1, ← List.append_assoc, ← hlen]
        exact List.take_left
    · have holds : (Builtin.firstCells i.size n (.slice (some ⟨g, o, none⟩) n cap)).run P w.drew = .ok xs.toArray w.drew := by
        have hc : ∀ j u, xs[j]? = some u → w.drew.cell? ((⟨g, o, none⟩ : Addr).add j) = some u := fun j u hj => by
          rw [World.cell?_drew, Addr.add_lit]; exact h.cell j u hj
        exact run_firstCells_some (P := P) w.drew i.size n ⟨g, o, none⟩ n cap xs h.1 hc
      have hr := run_append_grow_src (P := P) w t tx ty e i z ht hi hz (some ⟨g, o, none⟩) n cap xs holds x m news hs (by omega) (by omega) (growslice_fits_wide (by omega) hbytes)
      have hgr := grown cap (by omega) (Value.ownBlock (.slice (some ⟨g, o, none⟩) n cap))
      exact ⟨_, _, hr, hgr.1, hgr.2, .inr rfl, fun h => by cases h⟩

theorem Mid.slice (h : Mid w base e size v n xs) : ∃ a c, v = .slice a n c := by
  rcases h.form with ⟨hv, hn, _⟩ | ⟨g, o, cap, hv, _⟩
  · subst hn; exact ⟨_, _, hv⟩
  · exact ⟨_, _, hv⟩

/-- APPEND at an operation of the walk. -/
theorem wp_append_mid {P : Program} {o : Oper} {a : Act} {K : Act → World → Prop} {Q : Exit → Act → World → Prop} (s x : Operand) (t tx : TypeId)
    (ho : o.op = .call { callee := .builtin .append, args := #[s, x], argTypes := #[t, tx] })
    (i : TypeInfo) (z : Value) (bytes : Nat) (ht : P.underlying t = some (.slice e)) (hi : P.info? e = some i) (hz : i.zero = some z)
    (hsize : i.size = size) (hby : i.bytes = bytes) (hzs : z.cells.size = size)
    (hv : a.eval s = v) (h : Mid w base e size v n xs) (xv : Value) (hx : a.eval x = xv) (m : Nat) (news : List Value) (hs : Src P size tx xv m news w)
    (h63 : n + m ≤ maxLen) (hbytes : ((n + m) + (n + m) / 4 + 192) * bytes ≤ 281474976710656) (hbase : base ≤ w.heap.size)
    (H : ∀ a' c' w', Mid w' base e size (.slice a' (n + m) c') (n + m) (xs ++ news) → w.grownBy w' v.ownBlock → ((Value.slice a' (n + m) c').ownBlock = v.ownBlock ∨ (Value.slice a' (n + m) c').ownBlock = some w.heap.size) → K (a.put o.dst (.slice a' (n + m) c')) w') : o.wp P a w K Q := by
  obtain ⟨v', w', hr, h2, h3, h4, _⟩ := run_append_mid (P := P) t tx o.type i z bytes ht hi hz hsize hby hzs h xv m news hs h63 hbytes hbase
  obtain ⟨a', c', rfl⟩ := h2.slice
  unfold Oper.wp execOp
  simp only [ho, resolve, invoke, builtin, Sem.run_bind, Sem.run_pure, Result.andThen_ok, List.map_toArray, List.map_cons, List.map_nil, hv, hx, hr]
  exact H a' c' w' h2 h3 h4

theorem wpList_append_mid {P : Program} {ops : Array Oper} {rest : List Oper} {o : Oper} {a : Act} {Q : Exit → Act → World → Prop} (hgd : o.guard = none) (s x : Operand) (t tx : TypeId)
    (ho : o.op = .call { callee := .builtin .append, args := #[s, x], argTypes := #[t, tx] })
    (i : TypeInfo) (z : Value) (bytes : Nat) (ht : P.underlying t = some (.slice e)) (hi : P.info? e = some i) (hz : i.zero = some z)
    (hsize : i.size = size) (hby : i.bytes = bytes) (hzs : z.cells.size = size)
    (hv : a.eval s = v) (h : Mid w base e size v n xs) (xv : Value) (hx : a.eval x = xv) (m : Nat) (news : List Value) (hs : Src P size tx xv m news w)
    (h63 : n + m ≤ maxLen) (hbytes : ((n + m) + (n + m) / 4 + 192) * bytes ≤ 281474976710656) (hbase : base ≤ w.heap.size)
    (H : ∀ a' c' w', Mid w' base e size (.slice a' (n + m) c') (n + m) (xs ++ news) → w.grownBy w' v.ownBlock → ((Value.slice a' (n + m) c').ownBlock = v.ownBlock ∨ (Value.slice a' (n + m) c').ownBlock = some w.heap.size) → wpList P ops Q rest (a.put o.dst (.slice a' (n + m) c')) w') : wpList P ops Q (o :: rest) a w :=
  wpList_plain hgd fun _ hK => wp_append_mid s x t tx ho i z bytes ht hi hz hsize hby hzs hv h xv hx m news hs h63 hbytes hbase fun a' c' w' h2 h3 h4 => hK _ _ (H a' c' w' h2 h3 h4)
end
end Go.Proofs.YtkbopcgijaejjaaDoor
