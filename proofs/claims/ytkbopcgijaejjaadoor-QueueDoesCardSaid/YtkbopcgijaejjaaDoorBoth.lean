/-
  The lists of actuarylaw30 (its model) in memory; both by contract; the conditions: the number of workers.
  Printed by a program of this repository (wip/qu13.py).
-/
import Derived.Test.YtkbopcgijaejjaaDoorBox
import Derived.Test.YtkbopcgijaejjaaDoorState
namespace Go.Proofs.YtkbopcgijaejjaaDoor
open Go.RowKit Go.Extern.Stop Go.Stop Go.Extern

def keyCells (p : Rw × Value) : List Value := [.int .i64 p.1.t, .int .i64 p.1.s]
/-- The model's slices. -/
def mPs (kv jv tv hv bv : Value) (RS : List (Rw × Value)) (ws : List (Int × Int)) (bs : List Bool) : List Pc :=
  ⟨kv, 29, 2, RS.length, RS.flatMap keyCells⟩ :: ⟨jv, 50, 1, RS.length, RS.map fun p => p.2⟩ :: ⟨tv, 4, 1, RS.length, RS.map fun p => Value.bool p.1.busy⟩ ::
    ⟨hv, 29, 2, ws.length, ws.flatMap kyCells⟩ :: ⟨bv, 4, 1, bs.length, bs.map Value.bool⟩ :: RS.map jp
/-- The model: its cells; it lies in the blocks G alone. -/
def MS (w : World) (mb : Nat) (G : Nat → Prop) (RS : List (Rw × Value)) (ws : List (Int × Int)) (bs : List Bool) : Prop :=
  ∃ (ka ja ta ha ba : Option Addr) (kc jc tc hc bc : Nat), Box w mb 62 G [.slice ka RS.length kc, .slice ja RS.length jc, .slice ta RS.length tc, .slice ha ws.length hc, .slice ba bs.length bc] (mPs (.slice ka RS.length kc) (.slice ja RS.length jc) (.slice ta RS.length tc) (.slice ha ws.length hc) (.slice ba bs.length bc) RS ws bs)
theorem MS.keeps {w w' : World} {mb : Nat} {G S : Nat → Prop} {RS : List (Rw × Value)} {ws : List (Int × Int)} {bs : List Bool} (h : MS w mb G RS ws bs) (hk : Keeps w w' S) (hs : ∀ k, G k → ¬ S k) : MS w' mb G RS ws bs := by
  obtain ⟨ka, ja, ta, ha, ba, kc, jc, tc, hc, bc, h⟩ := h
  exact ⟨ka, ja, ta, ha, ba, kc, jc, tc, hc, bc, h.keeps hk hs⟩
theorem MS.below {w w' : World} {mb : Nat} {G : Nat → Prop} {RS : List (Rw × Value)} {ws : List (Int × Int)} {bs : List Bool} (h : MS w mb G RS ws bs) (hb : Below w.heap.size w w') : MS w' mb G RS ws bs := by
  obtain ⟨ka, ja, ta, ha, ba, kc, jc, tc, hc, bc, h⟩ := h
  exact ⟨ka, ja, ta, ha, ba, kc, jc, tc, hc, bc, h.below hb⟩
theorem MS.lt {w : World} {mb : Nat} {G : Nat → Prop} {RS : List (Rw × Value)} {ws : List (Int × Int)} {bs : List Bool} (h : MS w mb G RS ws bs) : ∀ k, G k → k < w.heap.size := by
  obtain ⟨ka, ja, ta, ha, ba, kc, jc, tc, hc, bc, h⟩ := h
  exact h.lt
theorem MS.fresh {w : World} {qb a b m : Nat} {ck cb : Array Value} (hq : w.heap[qb]? = some (.cells #[.slice none 0 0, .slice none 0 0, .slice none 0 0, .slice (some ⟨a, 0, none⟩) m m, .slice (some ⟨b, 0, none⟩) m m] 62 (0, 0)))
    (h1 : w.heap[a]? = some (.cells ck 29 (0, 0))) (h2 : w.heap[b]? = some (.cells cb 4 (0, 0))) (hk : ck.toList = (List.replicate m ((0 : Int), (0 : Int))).flatMap kyCells) (hb : cb.toList = (List.replicate m false).map Value.bool)
    (hab : a ≠ b) (haq : a ≠ qb) (hbq : b ≠ qb) (hm : m ≤ 64) : MS w qb (fun k => k = a ∨ k = b ∨ k = qb) [] (List.replicate m (0, 0)) (List.replicate m false) := by
  have hm' : m ≤ maxLen := by unfold maxLen; omega
  have m1 := mid_made w a 29 2 m ck _ h1 hk (by rw [flat_len kyCells 2 (fun _ => rfl)]; simp) hm'
  have m2 := mid_made w b 4 1 m cb _ h2 hb (by simp) hm'
  refine ⟨none, none, none, some ⟨a, 0, none⟩, some ⟨b, 0, none⟩, 0, 0, 0, m, m, by simpa using hq, ⟨fun p hp => ?_, ?_⟩, .inr (.inr rfl), fun k hk => ?_, fun k hk => ?_⟩
  · simp only [mPs, List.map_nil, List.mem_cons, List.not_mem_nil, or_false] at hp
    rcases hp with rfl | rfl | rfl | rfl | rfl
    · exact Mid.nil _ _ _ _
    · exact Mid.nil _ _ _ _
    · exact Mid.nil _ _ _ _
    · simpa [Pc.mid] using m1
    · simpa [Pc.mid] using m2
  · simp only [mPs, List.map_nil]
    refine List.pairwise_cons.2 ⟨fun p hp k h => (by cases h), List.pairwise_cons.2 ⟨fun p hp k h => (by cases h), List.pairwise_cons.2 ⟨fun p hp k h => (by cases h), List.pairwise_cons.2 ⟨fun p hp k h e => ?_, List.pairwise_singleton _ _⟩⟩⟩⟩
    rw [List.mem_singleton.1 hp] at e
    simp only [Value.ownBlock, Option.some.injEq] at h e
    omega
  · obtain ⟨p, hp, hpk⟩ := hk
    simp only [mPs, List.map_nil, List.mem_cons, List.not_mem_nil, or_false] at hp
    rcases hp with rfl | rfl | rfl | rfl | rfl
    · cases hpk
    · cases hpk
    · cases hpk
    · simp only [Value.ownBlock, Option.some.injEq] at hpk; exact ⟨.inl hpk.symm, by omega⟩
    · simp only [Value.ownBlock, Option.some.injEq] at hpk; exact ⟨.inr (.inl hpk.symm), by omega⟩
  · rcases hk with rfl | rfl | rfl
    · exact lt_of_block h1
    · exact lt_of_block h2
    · exact lt_of_block hq
/-- What both answers. -/
def BothR (w : World) (m : Nat) (e : Ending) (w' : World) : Prop :=
  ∃ qb mb F G, e = .returned (.tuple #[.pointer (some ⟨qb, 0, none⟩), .pointer (some ⟨mb, 0, none⟩)]) ∧ QS w' qb F [] (List.replicate m (0, 0)) (List.replicate m false) ∧ MS w' mb G [] (List.replicate m (0, 0)) (List.replicate m false) ∧
    (∀ k, F k → w.heap.size ≤ k) ∧ (∀ k, G k → w.heap.size ≤ k ∧ ¬ F k) ∧ Below w.heap.size w w'
/-- How many workers. -/
def nW (n : Int) : Nat := 1 + (n.toNat % 6)
theorem nW_le (n : Int) : 1 ≤ nW n ∧ nW n ≤ 6 := by unfold nW; omega
theorem below3 (w : World) (o1 o2 o3 : Obj) : Below w.heap.size w (((w.alloc o1).alloc o2).alloc o3).drew :=
  ((((Below.refl w.heap.size w).alloc (Nat.le_refl _) _).alloc (by simp) _).alloc (by simp; omega) _).drew
set_option maxRecDepth 100000 in
set_option maxHeartbeats 1000000 in
theorem both_any (n : Int) (w : World) (h0 : 0 ≤ n) (h1 : n ≤ 255) : Calls Tryd.prog 9 #[.int .u8 n] w (BothR w (nW n)) := by
  obtain ⟨u, rfl⟩ := Int.eq_ofNat_of_zero_le h0
  have hu : u ≤ 255 := by omega
  have hnw : nW (u : Int) = 1 + u % 6 := by unfold nW; rw [Int.toNat_natCast]
  obtain ⟨m, hm⟩ : ∃ m, m = 1 + u % 6 := ⟨_, rfl⟩
  rw [hnw, ← hm]
  have hm1 : 1 ≤ m := by omega
  have hm2 : m ≤ 6 := by omega
  have hrem : (1 : Int) + (u : Int) % 6 = (m : Int) := by omega
  have HREM := Lib.hid hrem
  have HN := Lib.hid (new_ok m w hm1 (by omega))
  obtain ⟨ti, hi, hz0, hz1, hz2⟩ := info_parts Tryd.infoK
  obtain ⟨tj, hi', hy0, hy1, hy2⟩ := info_parts Tryd.infoBo
  obtain ⟨ck, hck⟩ : ∃ ck, ck = madeCells (Value.cells (.agg #[.int .i64 0, .int .i64 0])) (m * 2) := ⟨_, rfl⟩
  obtain ⟨cb, hcb⟩ : ∃ cb, cb = madeCells (Value.cells (.bool false)) m := ⟨_, rfl⟩
  have hmk : ∀ W : World, (Instr.makeSlice 44 (.int .i64 (m : Int)) (.int .i64 (m : Int))).run Tryd.prog W = .ok (.slice (some ⟨W.heap.size, 0, none⟩) m m) (W.alloc (.cells ck 29)) := fun W => by
    have := run_make (P := Tryd.prog) W 44 29 ti _ Tryd.underlying44 hi hz0 .i64 .i64 (m : Int) (m : Int) (by omega) (by omega) (by rw [hz2]; omega) (by omega)
    rw [Int.toNat_natCast, hz1, ← hck] at this
    exact this
  have hmb : ∀ W : World, (Instr.makeSlice 59 (.int .i64 (m : Int)) (.int .i64 (m : Int))).run Tryd.prog W = .ok (.slice (some ⟨W.heap.size, 0, none⟩) m m) (W.alloc (.cells cb 4)) := fun W => by
    have := run_make (P := Tryd.prog) W 59 4 tj _ Tryd.underlying59 hi' hy0 .i64 .i64 (m : Int) (m : Int) (by omega) (by omega) (by rw [hy2]; omega) (by omega)
    rw [Int.toNat_natCast, hy1, Nat.mul_one, ← hcb] at this
    exact this
  have HK := Lib.hid (hck ▸ madeK m)
  have HB := Lib.hid (hcb ▸ madeB m)
  have HM2 := Lib.hid hm2
  clear hck hcb hi hz0 hz1 hz2 hi' hy0 hy1 hy2 hrem hm h0 h1 hnw
  go_enter Tryd.func9, Tryd.ntmps9
  go_wp2_with fail
  rw [HREM.out]
  refine HN.out.mono ?_
  rintro e w1 ⟨qb, F, rfl, hq, hF, hb⟩
  have HQ := Lib.hid hq
  have HF := Lib.hid hF
  have HB1 := Lib.hid hb
  have HQL := Lib.hid (show ∀ k, F k → k < w1.heap.size by obtain ⟨_, _, _, _, _, _, _, _, _, _, h5⟩ := hq; exact h5)
  clear hq hF hb hu hm1 hm2
  go_wp2_with fail
  go_region
  all_goals
    go_wp2
    go_ret2
    obtain ⟨g1, g2, g3⟩ := heap3 w1 _ _ _
    refine ⟨qb, w1.heap.size + 2, F, _, rfl, HQ.out.below (below3 w1 _ _ _), MS.fresh g3 (by first | exact g1 | exact g2) (by first | exact g2 | exact g1) HK.out HB.out (by omega) (by omega) (by omega) (by have := HM2.out; omega), HF.out, fun k hk => ⟨by have := HB1.out.size; omega, fun hf => by have := HQL.out k hf; omega⟩, HB1.out.trans ((below3 w1 _ _ _).mono HB1.out.size)⟩
end Go.Proofs.YtkbopcgijaejjaaDoor
