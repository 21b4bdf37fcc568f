/-
  An append keeps what lies in the first cells of every block, as many as the row has; the condition: the row is the call's own, its bytes are at most 2 to the 48.
  Printed by a program of this repository (wip/mg47.py).
-/
import Derived.Test.YtmhainidincjhaaGreatDoorHA
set_option linter.unusedVariables false
set_option linter.unusedSimpArgs false
set_option maxRecDepth 100000
set_option maxHeartbeats 16000000
namespace Go.Proofs.YtmhainidincjhaaGreatDoor
open Go.RowKit
section
variable {w : World} {base : Nat} {e : TypeId} {size n : Nat} {v : Value} {xs : List Value}
theorem app_keep9 {w w' : World} {g k : Nat} {e : TypeId} {cur : Array Value} {l : List Value} (hg : w.heap[g]? = some (.cells cur e (0, 0))) (hg' : w'.heap[g]? = some (.cells (cur.toList.take k ++ l).toArray e (0, 0))) (hkc : k ≤ cur.size)
    (ho : ∀ b, b ≠ g → w'.heap[b]? = w.heap[b]?) {b j : Nat} {u : Value} (hj : j < k) (hc : w.cell? ⟨b, j, none⟩ = some u) : w'.cell? ⟨b, j, none⟩ = some u := by
  by_cases hb : b = g
  · subst hb
    have h1 : w.cell? ⟨b, j, none⟩ = cur[j]? := by simp [World.cell?, hg]
    rw [h1] at hc
    refine cell_of_block hg' ?_
    rw [List.getElem?_toArray, List.getElem?_append_left (by rw [List.length_take, Array.length_toList]; omega), List.getElem?_take, if_pos hj, Array.getElem?_toList]
    exact hc
  · have h2 := ho b hb
    unfold World.cell? at hc ⊢
    simp only [h2]
    exact hc
theorem run_append_keep {P : Program} (t tx ty : TypeId) (i : TypeInfo) (z : Value) (bytes : Nat) (ht : P.underlying t = some (.slice e)) (hi : P.info? e = some i) (hz : i.zero = some z)
    (hsize : i.size = size) (hby : i.bytes = bytes) (hzs : z.cells.size = size)
    (h : Mid w base e size v n xs) (x : Value) (m : Nat) (news : List Value) (hs : Src P size tx x m news w)
    (h63 : n + m ≤ maxLen) (hbytes : ((n + m) + (n + m) / 4 + 192) * bytes ≤ 281474976710656) {v' : Value} {w' : World}
    (hrun : (Builtin.append_ #[t, tx] ty #[v, x]).run P w = .ok v' w') : ∀ (b j : Nat) (u : Value), j < n * size → w.cell? ⟨b, j, none⟩ = some u → w'.cell? ⟨b, j, none⟩ = some u := by
  subst hsize
  subst hby
  have hsmall : n + m ≤ 9223372036854775807 := by simp only [maxLen] at h63; omega
  have hal : ∀ (ob : Obj) (b j : Nat) (u : Value), w.cell? ⟨b, j, none⟩ = some u → (w.drew.alloc ob).cell? ⟨b, j, none⟩ = some u := fun ob b j u hc => by
    have hl := World.block_lt_of_cell? _ _ hc
    have h2 : (w.drew.alloc ob).heap[b]? = w.heap[b]? := heap_alloc_old w.drew ob hl
    unfold World.cell? at hc ⊢
    simp only [h2]
    exact hc
  rcases h.2 with ⟨hv, rfl⟩ | ⟨g, o, cap, cur, hv, hbg, hg, hnc, hcm, hcs, htake⟩
  · intro b j u hj
    rw [Nat.zero_mul] at hj
    omega
  · subst hv
    by_cases hroom : n + m ≤ cap
    · have hfit : o + n * i.size + news.length ≤ cur.size := by
        have : n * i.size + m * i.size ≤ cap * i.size := by rw [← Nat.add_mul]; exact Nat.mul_le_mul_right _ hroom
        rw [hs.newsLen]; omega
      have hst := run_storeCells_at P g (o + n * i.size) e news 0 cur w hg (by simpa using hfit) hs.one
      simp only [Nat.add_zero] at hst
      have hr : (Builtin.append_ #[t, tx] ty #[.slice (some ⟨g, o, none⟩) n cap, x]).run P w = .ok (.slice (some ⟨g, o, none⟩) (n + m) cap) (w.setRow g (cur.toList.take (o + n * i.size) ++ news ++ cur.toList.drop (o + n * i.size + news.length)).toArray) := by
        rcases hs.kind with ⟨e', hk⟩ | hk <;> simp [Builtin.append_, run_underlying ht, run_underlying hk, sizeOf, typeInfo, hi, hs.len, hroom, hs.cells, Addr.add_lit, hst]
      rw [hr] at hrun
      injection hrun with _ h1
      subst h1
      intro b j u hj hc
      have hh := setRow_heap w g cur (cur.toList.take (o + n * i.size) ++ news ++ cur.toList.drop (o + n * i.size + news.length)).toArray e _ hg
      rw [List.append_assoc] at hh ⊢
      exact app_keep9 hg hh (by omega) (fun b hb => setRow_other w g b _ hb) (k := o + n * i.size) (by omega) hc
    · have holds : (Builtin.firstCells i.size n (.slice (some ⟨g, o, none⟩) n cap)).run P w.drew = .ok xs.toArray w.drew := by
        have hc : ∀ j u, xs[j]? = some u → w.drew.cell? ((⟨g, o, none⟩ : Addr).add j) = some u := fun j u hj => by
          rw [World.cell?_drew, Addr.add_lit]; exact h.cell j u hj
        exact run_firstCells_some (P := P) w.drew i.size n ⟨g, o, none⟩ n cap xs h.1 hc
      have hr := run_append_grow_src (P := P) w t tx ty e i z ht hi hz (some ⟨g, o, none⟩) n cap xs holds x m news hs (by omega) (by omega) (growslice_fits_wide (by omega) hbytes)
      rw [hr] at hrun
      injection hrun with _ h1
      subst h1
      intro b j u _ hc
      exact hal _ b j u hc
theorem wpList_append_keep {P : Program} {ops : Array Oper} {rest : List Oper} {o : Oper} {a : Act} {Q : Exit → Act → World → Prop} (hgd : o.guard = none) (s x : Operand) (t tx : TypeId)
    (ho : o.op = .call { callee := .builtin .append, args := #[s, x], argTypes := #[t, tx] })
    (i : TypeInfo) (z : Value) (bytes : Nat) (ht : P.underlying t = some (.slice e)) (hi : P.info? e = some i) (hz : i.zero = some z)
    (hsize : i.size = size) (hby : i.bytes = bytes) (hzs : z.cells.size = size)
    (hv : a.eval s = v) (h : Mid w base e size v n xs) (xv : Value) (hx : a.eval x = xv) (m : Nat) (news : List Value) (hs : Src P size tx xv m news w)
    (h63 : n + m ≤ maxLen) (hbytes : ((n + m) + (n + m) / 4 + 192) * bytes ≤ 281474976710656) (hbase : base ≤ w.heap.size)
    (H : ∀ a' c' w', Mid w' base e size (.slice a' (n + m) c') (n + m) (xs ++ news) → w.grownBy w' v.ownBlock → ((Value.slice a' (n + m) c').ownBlock = v.ownBlock ∨ (Value.slice a' (n + m) c').ownBlock = some w.heap.size) → (∀ (b j : Nat) (u : Value), j < n * size → w.cell? ⟨b, j, none⟩ = some u → w'.cell? ⟨b, j, none⟩ = some u) → wpList P ops Q rest (a.put o.dst (.slice a' (n + m) c')) w') : wpList P ops Q (o :: rest) a w :=
  wpList_plain hgd fun K hK => by
    obtain ⟨v', w', hr, h2, h3, h4, _⟩ := run_append_mid (P := P) t tx o.type i z bytes ht hi hz hsize hby hzs h xv m news hs h63 hbytes hbase
    obtain ⟨a', c', rfl⟩ := h2.slice
    have h5 := run_append_keep (P := P) t tx o.type i z bytes ht hi hz hsize hby hzs h xv m news hs h63 hbytes hr
    have h6 := hK _ _ (H a' c' w' h2 h3 h4 h5)
    unfold Oper.wp execOp
    simp only [ho, resolve, invoke, builtin, Sem.run_bind, Sem.run_pure, Result.andThen_ok, List.map_toArray, List.map_cons, List.map_nil, hv, hx, hr]
    exact h6
end
end Go.Proofs.YtmhainidincjhaaGreatDoor
