/-
  New of a queue by contract; the conditions: the number of workers is an int.
  Printed by a program of this repository (wip/qu8.py).
-/
import Derived.Test.YtkbopcgijaejjaaDoorReads
namespace Go.Proofs.YtkbopcgijaejjaaDoor
open Go.RowKit Go.Extern.Stop Go.Stop Go.Extern

theorem madeK (m : Nat) : (madeCells (Value.cells (.agg #[.int .i64 0, .int .i64 0])) (m * 2)).toList = (List.replicate m ((0 : Int), (0 : Int))).flatMap kyCells := by
  have e : (Value.cells (.agg #[.int .i64 0, .int .i64 0])) = #[.int .i64 0, .int .i64 0] := rfl
  rw [e]
  apply List.ext_getElem
  · rw [Array.length_toList, size_madeCells, flat_len kyCells 2 (fun _ => rfl)]; simp
  · intro i h1 h2
    simp only [madeCells, Array.getElem_toList, Array.getElem_map, Array.getElem_range]
    rw [flat_len kyCells 2 (fun _ => rfl)] at h2
    simp only [List.length_replicate] at h2
    have h := flat_at kyCells 2 (fun _ => rfl) (List.replicate m ((0 : Int), (0 : Int))) (i / 2) (by simp; omega) (i % 2) (.int .i64 0) (by
      simp only [List.getElem_replicate, kyCells]
      have : i % 2 = 0 ∨ i % 2 = 1 := by omega
      rcases this with h | h <;> rw [h] <;> rfl)
    have e2 : i / 2 * 2 + i % 2 = i := by omega
    rw [e2] at h
    rw [List.getElem?_eq_some_iff] at h
    rw [h.2]
    have : i % 2 = 0 ∨ i % 2 = 1 := by omega
    rcases this with h | h <;> simp [h]
theorem madeB (m : Nat) : (madeCells (Value.cells (.bool false)) m).toList = (List.replicate m false).map Value.bool := by
  have e : (Value.cells (.bool false)) = #[.bool false] := rfl
  rw [e]
  apply List.ext_getElem
  · simp [size_madeCells]
  · intro i h1 h2
    simp [madeCells, Nat.mod_one]
theorem mid_made (w : World) (a : Nat) (e : TypeId) (size m : Nat) (cs : Array Value) (xs : List Value) (h : w.heap[a]? = some (.cells cs e (0, 0))) (hl : cs.toList = xs) (hs : xs.length = m * size) (hm : m ≤ maxLen) : Mid w 0 e size (.slice (some ⟨a, 0, none⟩) m m) m xs := by
  have hz : cs.size = m * size := by rw [← Array.length_toList, hl, hs]
  exact ⟨hs, .inr ⟨a, 0, m, cs, rfl, Nat.zero_le _, h, Nat.le_refl _, hm, by omega, by rw [hl, List.drop_zero, ← hs, List.take_length]⟩⟩
theorem QS.fresh {w : World} {qb a b m : Nat} {ck cb : Array Value} (hq : w.heap[qb]? = some (.cells #[.slice none 0 0, .slice (some ⟨a, 0, none⟩) m m, .slice (some ⟨b, 0, none⟩) m m] 65 (0, 0)))
    (h1 : w.heap[a]? = some (.cells ck 29 (0, 0))) (h2 : w.heap[b]? = some (.cells cb 4 (0, 0))) (hk : ck.toList = (List.replicate m ((0 : Int), (0 : Int))).flatMap kyCells) (hb : cb.toList = (List.replicate m false).map Value.bool)
    (hab : a ≠ b) (haq : a ≠ qb) (hbq : b ≠ qb) (hm : m ≤ 64) : QS w qb (fun k => k = a ∨ k = b ∨ k = qb) [] (List.replicate m (0, 0)) (List.replicate m false) := by
  have hm' : m ≤ maxLen := by unfold maxLen; omega
  have m1 := mid_made w a 29 2 m ck _ h1 hk (by rw [flat_len kyCells 2 (fun _ => rfl)]; simp) hm'
  have m2 := mid_made w b 4 1 m cb _ h2 hb (by simp) hm'
  refine ⟨none, some ⟨a, 0, none⟩, some ⟨b, 0, none⟩, 0, m, m, by simpa using hq, ⟨fun p hp => ?_, ?_⟩, .inr (.inr rfl), fun k hk => ?_, fun k hk => ?_⟩
  · simp only [qPs, List.map_nil, List.mem_cons, List.not_mem_nil, or_false] at hp
    rcases hp with rfl | rfl | rfl
    · exact Mid.nil _ _ _ _
    · simpa [Pc.mid] using m1
    · simpa [Pc.mid] using m2
  · simp only [qPs, List.map_nil]
    refine List.pairwise_cons.2 ⟨fun p hp k h => (by cases h), List.pairwise_cons.2 ⟨fun p hp k h e => ?_, List.pairwise_singleton _ _⟩⟩
    rw [List.mem_singleton.1 hp] at e
    simp only [Value.ownBlock, Option.some.injEq] at h e
    omega
  · obtain ⟨p, hp, hpk⟩ := hk
    simp only [qPs, List.map_nil, List.mem_cons, List.not_mem_nil, or_false] at hp
    rcases hp with rfl | rfl | rfl
    · cases hpk
    · simp only [Value.ownBlock, Option.some.injEq] at hpk; exact ⟨.inl hpk.symm, by omega⟩
    · simp only [Value.ownBlock, Option.some.injEq] at hpk; exact ⟨.inr (.inl hpk.symm), by omega⟩
  · rcases hk with rfl | rfl | rfl
    · exact lt_of_block h1
    · exact lt_of_block h2
    · exact lt_of_block hq
/-- What New answers. -/
def NewQ (w : World) (m : Nat) (e : Ending) (w' : World) : Prop :=
  ∃ qb F, e = .returned (.tuple #[.pointer (some ⟨qb, 0, none⟩), .nilIface]) ∧ QS w' qb F [] (List.replicate m (0, 0)) (List.replicate m false) ∧ (∀ k, F k → w.heap.size ≤ k) ∧ Below w.heap.size w w'
set_option maxRecDepth 100000 in
set_option maxHeartbeats 1000000 in
theorem new_arg (n : Int) (w : World) (h : n < 1 ∨ 64 < n) : Calls Tryd.prog 22 #[.int .i64 n] w fun e w' => e = .returned (.tuple #[.pointer none, eE 1]) ∧ w = w' := by
  unfold eE
  by_cases h0 : n < 1
  · clear h
    go_enter Tryd.func22, Tryd.ntmps22
    go_wp2
    go_ret2
    exact ⟨rfl, rfl⟩
  · have h1 : 64 < n := by omega
    clear h
    go_enter Tryd.func22, Tryd.ntmps22
    go_wp2
    go_ret2
    exact ⟨rfl, rfl⟩
theorem heap3 (w : World) (o1 o2 o3 : Obj) : (((w.alloc o1).alloc o2).alloc o3).heap[w.heap.size]? = some o1 ∧ (((w.alloc o1).alloc o2).alloc o3).heap[w.heap.size + 1]? = some o2 ∧ (((w.alloc o1).alloc o2).alloc o3).heap[w.heap.size + 2]? = some o3 := by
  have h1 := heap_alloc_new w o1
  have h2 := heap_alloc_new (w.alloc o1) o2
  have h3 := heap_alloc_new ((w.alloc o1).alloc o2) o3
  rw [World.size_alloc] at h2
  rw [World.size_alloc, World.size_alloc] at h3
  exact ⟨((Below.heap_alloc _ _ _ (by simp; omega)).trans (Below.heap_alloc _ _ _ (by simp))).trans h1, (Below.heap_alloc _ _ _ (by simp)).trans h2, h3⟩
set_option maxRecDepth 100000 in
set_option maxHeartbeats 1000000 in
theorem new_ok (m : Nat) (w : World) (h1 : 1 ≤ m) (h2 : m ≤ 64) : Calls Tryd.prog 22 #[.int .i64 m] w (NewQ w m) := by
  obtain ⟨ti, hi, hz0, hz1, hz2⟩ := info_parts Tryd.infoK
  obtain ⟨tj, hi', hy0, hy1, hy2⟩ := info_parts Tryd.infoBo
  obtain ⟨ck, hck⟩ : ∃ ck, ck = madeCells (Value.cells (.agg #[.int .i64 0, .int .i64 0])) (m * 2) := ⟨_, rfl⟩
  obtain ⟨cb, hcb⟩ : ∃ cb, cb = madeCells (Value.cells (.bool false)) m := ⟨_, rfl⟩
  have hmk : ∀ W : World, (Instr.makeSlice 44 (.int .i64 (m : Int)) (.int .i64 (m : Int))).run Tryd.prog W = .ok (.slice (some ⟨W.heap.size, 0, none⟩) m m) (W.alloc (.cells ck 29)) := fun W => by
    have := run_make (P := Tryd.prog) W 44 29 ti _ Tryd.underlying44 hi hz0 .i64 .i64 (m : Int) (m : Int) (by omega) (by omega) (by rw [hz2]; omega) (by omega)
    rw [Int.toNat_natCast, hz1, ← hck] at this
    exact this
  have hmb : ∀ W : World, (Instr.makeSlice 59 (.int .i64 (m : Int)) (.int .i64 (m : Int))).run Tryd.prog W = .ok (.slice (some ⟨W.heap.size, 0, none⟩) m m) (W.alloc (.cells cb 4)) := fun W => by
    have := run_make (P := Tryd.prog) W 59 4 tj _ Tryd.underlying59 hi' hy0 .i64 .i64 (m : Int) (m : Int) (by omega) (by omega) (by rw [hy2]; omega) (by omega)
    rw [Int.toNat_natCast, hy1, Nat.mul_one, ← hcb] at this
    exact this
  have HK := Lib.hid (hck ▸ madeK m)
  have HB := Lib.hid (hcb ▸ madeB m)
  clear hck hcb hi hz0 hz1 hz2 hi' hy0 hy1 hy2
  go_enter Tryd.func22, Tryd.ntmps22
  go_wp2_with fail
  go_region
  all_goals
    go_wp2
    go_ret2
    obtain ⟨g1, g2, g3⟩ := heap3 w _ _ _
    refine ⟨w.heap.size + 2, _, rfl, QS.fresh g3 (by first | exact g1 | exact g2) (by first | exact g2 | exact g1) HK.out HB.out (by omega) (by omega) (by omega) h2, fun k hk => by omega, ?_⟩
    exact ((((Below.refl _ _).alloc (Nat.le_refl _) _).alloc (by simp) _).alloc (by simp; omega) _).drew
end Go.Proofs.YtkbopcgijaejjaaDoor
