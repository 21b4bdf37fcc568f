/-
  One row goes from a slice of rows; the conditions: the slice, and which row.
  Printed by a program of this repository (wip/qu6.py).
-/
import Derived.Test.YtkbopcgijaejjaaDoorBegin
namespace Go.Proofs.YtkbopcgijaejjaaDoor
open Go.RowKit Go.Extern.Stop Go.Stop Go.Extern
section
variable {w w' : World} {base : Nat} {e : TypeId} {size : Nat} {v : Value} {n : Nat} {xs : List Value}
/-- Some cells are written, one behind the other. -/
theorem Mid.storedN {g o cap : Nat} : ∀ (news : List Value) (w : World) (xs : List Value) (k : Nat), Mid w base e size (.slice (some ⟨g, o, none⟩) n cap) n xs → k + news.length ≤ xs.length →
    Mid (w.setCells g (o + k) news) base e size (.slice (some ⟨g, o, none⟩) n cap) n (xs.take k ++ news ++ xs.drop (k + news.length))
  | [], w, xs, k, h, _ => by
    simpa [World.setCells] using h
  | u :: us, w, xs, k, h, hk => by
    simp only [List.length_cons] at hk
    have := Mid.storedN us _ _ (k + 1) (h.stored k u) (by rw [List.length_set]; omega)
    have e1 : (xs.set k u).take (k + 1) = xs.take k ++ [u] := by
      rw [List.take_set, List.take_add_one, List.getElem?_eq_getElem (by omega)]
      rw [List.set_append_right _ _ (by rw [List.length_take]; omega)]
      have : k - (xs.take k).length = 0 := by rw [List.length_take]; omega
      rw [this]; rfl
    have e2 : (xs.set k u).drop (k + 1 + us.length) = xs.drop (k + (u :: us).length) := by
      rw [List.drop_set_of_lt (by omega)]
      congr 1; simp only [List.length_cons]; omega
    rw [e1, e2] at this
    simp only [List.append_assoc, List.cons_append] at this ⊢
    rw [← Nat.add_assoc] at this
    exact this
/-- The first so many. -/
theorem Mid.first {g o cap : Nat} (h : Mid w base e size (.slice (some ⟨g, o, none⟩) n cap) n xs) (m : Nat) (hm : m ≤ n) : Mid w base e size (.slice (some ⟨g, o, none⟩) m cap) m (xs.take (m * size)) := by
  have hle : m * size ≤ n * size := Nat.mul_le_mul_right _ hm
  refine ⟨by rw [List.length_take, h.1]; omega, ?_⟩
  rcases h.2 with ⟨hv, _⟩ | ⟨g', o', cap', cur, hv, hb, hg, hn, hx, hc, ht⟩
  · cases hv
  · cases hv
    exact .inr ⟨g, o, cap, cur, rfl, hb, hg, by omega, hx, hc, by rw [← ht, List.take_take, Nat.min_eq_left hle]⟩
theorem setCells_keeps (g : Nat) : ∀ (vs : List Value) (o : Nat) (w : World), Keeps w (w.setCells g o vs) (fun k => k = g)
  | [], _, w => Keeps.refl w _
  | v :: vs, o, w => (Keeps.setCell w ⟨g, o, none⟩ v (S := fun k => k = g) rfl).trans (setCells_keeps g vs (o + 1) _) fun _ _ h => h
end
theorem Tryd.zeroR (w' : World) : (zeroValue 67).run Tryd.prog w' = .ok (.agg #[.int .i64 0, .int .i64 0, .slice none 0 0, .bool false]) w' := by kernel_rfl
theorem zeroR_one (n : Nat) : ∀ u ∈ (Builtin.zeroCells (Value.cells (.agg #[.int .i64 0, .int .i64 0, .slice none 0 0, .bool false])) n).toList, u.oneCell' = true := by
  intro u hu
  simp only [Builtin.zeroCells, Array.toList_map, List.mem_map] at hu
  obtain ⟨i, _, rfl⟩ := hu
  have e : (Value.cells (.agg #[.int .i64 0, .int .i64 0, .slice none 0 0, .bool false])) = #[.int .i64 0, .int .i64 0, .slice none 0 0, .bool false] := rfl
  rw [e]
  have h3 : i % 4 = 0 ∨ i % 4 = 1 ∨ i % 4 = 2 ∨ i % 4 = 3 := by omega
  rcases h3 with h | h | h | h <;> simp [h] <;> rfl
set_option maxRecDepth 100000 in
set_option maxHeartbeats 8000000 in
theorem delete_row (g o n cap i j : Nat) (xs : List Value) (w : World) (h : Mid w 0 67 4 (.slice (some ⟨g, o, none⟩) n cap) n xs) (h1 : ∀ u ∈ xs, u.oneCell' = true) (hi : i < n) (hj : j = i + 1) :
    Calls Tryd.prog 28 #[.slice (some ⟨g, o, none⟩) n cap, .int .i64 i, .int .i64 j] w fun e w' => e = .returned (.slice (some ⟨g, o, none⟩) (n - 1) cap) ∧ Mid w' 0 67 4 (.slice (some ⟨g, o, none⟩) (n - 1) cap) (n - 1) (xs.take (i * 4) ++ xs.drop (j * 4)) ∧ Keeps w w' (fun k => k = g) := by
  obtain ⟨i0, hi0, hz0, hz1, hz2⟩ := info_parts Tryd.infoR
  obtain ⟨_, _, _, _, _, hcap, hm⟩ : ∃ a b c d : Nat, True ∧ n ≤ cap ∧ cap ≤ maxLen := by
    obtain ⟨a, c, e, h1, h2, _⟩ := (Sl.ofMid h).len
    cases e
    exact ⟨0, 0, 0, 0, trivial, h1, h2⟩
  have hxl : xs.length = n * 4 := h.1
  obtain ⟨news, hnews⟩ : ∃ news, news = xs.drop (j * 4) := ⟨_, rfl⟩
  have hlen : news.length = (n - j) * 4 := by rw [hnews, List.length_drop, hxl]; omega
  obtain ⟨B, hB, hsrc⟩ : ∃ B : Addr, (if cap = j then some (⟨g, o, none⟩ : Addr) else some ⟨g, o + j * 4, none⟩) = some B ∧ Hid (∀ t u, news[t]? = some u → w.drew.cell? (B.add t) = some u) := by
    by_cases hc : cap = j
    · refine ⟨⟨g, o, none⟩, by simp [hc], fun t u hu => ?_⟩
      have h0 : news.length = 0 := by rw [hlen]; omega
      rw [List.length_eq_zero_iff.1 h0] at hu
      simp at hu
    · refine ⟨⟨g, o + j * 4, none⟩, by simp [hc], fun t u hu => ?_⟩
      rw [hnews, List.getElem?_drop] at hu
      have := h.cell (j * 4 + t) u hu
      rw [← Nat.add_assoc] at this
      rw [Addr.add_lit]
      exact this
  have s1 := Lib.hid hlen
  have s2 := Lib.hid (show ∀ u ∈ news, u.oneCell' = true from fun u hu => h1 u (List.mem_of_mem_drop (hnews ▸ hu)))
  have s3 : Hid (∀ t, t < news.length → (w.drew.cell? ⟨g, o + i * 4 + t, none⟩).isSome = true ∧ w.drew.frozen? ⟨g, o + i * 4 + t, none⟩ = false) := by
    intro t ht
    rw [hlen] at ht
    have hc := h.cell (i * 4 + t) _ (List.getElem?_eq_getElem (by omega))
    rw [← Nat.add_assoc] at hc
    exact ⟨by show (w.cell? _).isSome = true; rw [hc]; rfl, h.frozen (o + i * 4 + t)⟩
  obtain ⟨W1, hW1⟩ : ∃ W1, W1 = w.drew.setCells g (o + i * 4) news := ⟨_, rfl⟩
  have hM1 : Mid W1 0 67 4 (.slice (some ⟨g, o, none⟩) n cap) n (xs.take (i * 4) ++ news ++ xs.drop (i * 4 + news.length)) := by
    rw [hW1]
    exact Mid.storedN news _ _ (i * 4) h.drew (by omega)
  have hnm : i + (n - j) = n - 1 := by omega
  have hd := hM1.drop (n - 1) (by omega)
  obtain ⟨W2, hcl, hkp, hst⟩ := run_clear_mid (P := Tryd.prog) 63 (.agg #[.int .i64 0, .int .i64 0, .slice none 0 0, .bool false]) Tryd.underlying63 Tryd.zeroR rfl (zeroR_one _) hd (by omega)
  have hM2 := hst o (n - 1) cap _ (hM1.first (n - 1) (by omega)) (Nat.le_refl _)
  have hp : (xs.take (i * 4) ++ news ++ xs.drop (i * 4 + news.length)).take ((n - 1) * 4) = xs.take (i * 4) ++ xs.drop (j * 4) := by
    rw [List.take_append_of_le_length (by rw [List.length_append, List.length_take, hlen, hxl]; omega), List.take_of_length_le (by rw [List.length_append, List.length_take, hlen, hxl]; omega), hnews]
  rw [hp] at hM2
  have HM2 := Lib.hid hM2
  have HK := Lib.hid (show Keeps w W2 (fun k => k = g) by
    refine Keeps.trans (S2 := fun k => k = g) ?_ hkp fun _ _ h => h
    rw [hW1]
    exact (Keeps.drew w (fun k => k = g)).trans (S2 := fun k => k = g) (setCells_keeps g news (o + i * 4) w.drew) fun _ _ h => h)
  have hW : Hid (W1 = w.drew.setCells g (o + i * 4) news) := hW1
  have hic : i ≤ cap := by omega
  have hjc : j ≤ cap := by omega
  have hjn : j ≤ n := by omega
  have hne : ((i : Int) == (j : Int)) = false := beq_eq_false_iff_ne.2 (by omega)
  have hij : i ≤ j := by omega
  have hjp : j ≠ i := by omega
  have hnn : i + (n - j) ≤ n := by omega
  unfold maxLen at hm
  rw [← hnm] at hcl
  have hcx : ¬ cap = i + (n - j) := by omega
  clear hW1 hM1 hd hst hM2 hp hkp hnews hlen h
  have HNM := Lib.hid hnm
  clear hnm hj hxl
  go_enter Tryd.func28, Tryd.ntmps28
  go_wp2_with fail
  go_region_law? (refine step_append_room (by rfl) _ _ 63 (by rfl) 67 i0 4 Tryd.underlying63 hi0 hz1 g o i cap (by rfl) B (n - j) (cap - j) news (by rfl) s1.out hsrc.out s2.out (by omega) s3.out ?_; rw [← hW.out])
  go_wp2_with fail
  go_ret
  exact ⟨by rw [HNM.out]; rfl, HM2.out, HK.out⟩
end Go.Proofs.YtkbopcgijaejjaaDoor
