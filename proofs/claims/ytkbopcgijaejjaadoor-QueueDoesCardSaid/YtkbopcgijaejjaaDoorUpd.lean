/-
  What writes make of a queue: a row's jobs, a row that is taken, a worker, a new row, a row less; no walk.
  Printed by a program of this repository (wip/qu3.py).
-/
import Derived.Test.YtkbopcgijaejjaaDoorReads
namespace Go.Proofs.YtkbopcgijaejjaaDoor
open Go.RowKit

/-- What an act leaves: a queue; nothing else is written. -/
def QA (w : World) (qb : Nat) (F : Nat → Prop) (RS : List (Rw × Value)) (ws : List (Int × Int)) (bs : List Bool) (w' : World) : Prop :=
  ∃ F', QS w' qb F' RS ws bs ∧ (∀ k, F' k → F k ∨ w.heap.size ≤ k) ∧ Keeps w w' F
theorem QA.refl {w : World} {qb : Nat} {F : Nat → Prop} {RS : List (Rw × Value)} {ws : List (Int × Int)} {bs : List Bool} (h : QS w qb F RS ws bs) : QA w qb F RS ws bs w := ⟨F, h, fun _ h => .inl h, Keeps.refl _ _⟩
theorem QA.of_below {w : World} {qb : Nat} {F : Nat → Prop} {RS : List (Rw × Value)} {ws : List (Int × Int)} {bs : List Bool} {w' : World} (h : QS w qb F RS ws bs) (hb : Below w.heap.size w w') : QA w qb F RS ws bs w' :=
  ⟨F, h.below hb, fun _ h => .inl h, Keeps.of_below hb fun b h1 h2 => by omega⟩
theorem QA.trans {w w1 w2 : World} {qb : Nat} {F : Nat → Prop} {R1 R2 : List (Rw × Value)} {ws1 ws2 : List (Int × Int)} {bs1 bs2 : List Bool} (h : QA w qb F R1 ws1 bs1 w1) (k : ∀ F1, QS w1 qb F1 R1 ws1 bs1 → QA w1 qb F1 R2 ws2 bs2 w2) : QA w qb F R2 ws2 bs2 w2 := by
  obtain ⟨F1, h1, h2, h3⟩ := h
  obtain ⟨F2, k1, k2, k3⟩ := k F1 h1
  refine ⟨F2, k1, fun x hx => ?_, h3.trans k3 fun b hb hF => ?_⟩
  · rcases k2 x hx with h | h
    · exact h2 x h
    · right; have := h3.size; omega
  · rcases h2 b hF with h | h
    · exact h
    · omega
theorem QA.below {w w1 w2 : World} {qb : Nat} {F : Nat → Prop} {R1 : List (Rw × Value)} {ws1 : List (Int × Int)} {bs1 : List Bool} (h : QA w qb F R1 ws1 bs1 w1) (hb : Below w1.heap.size w1 w2) : QA w qb F R1 ws1 bs1 w2 :=
  h.trans fun _ hq => QA.of_below hq hb
/-- One of a queue's slices is written. -/
theorem QS.piece {w : World} {qb : Nat} {F : Nat → Prop} {RS : List (Rw × Value)} {ws : List (Int × Int)} {bs : List Bool} {RS' : List (Rw × Value)} {ws' : List (Int × Int)} {bs' : List Bool} {w' : World} {ra wa ba : Option Addr} {rc wc bc : Nat} (h1 : w.heap[qb]? = some (.cells #[.slice ra RS.length rc, .slice wa ws.length wc, .slice ba bs.length bc] 65 (0, 0)))
    (h2 : Own w (qPs (.slice ra RS.length rc) (.slice wa ws.length wc) (.slice ba bs.length bc) RS ws bs)) (h3 : F qb) (h4 : ∀ k, Foot (qPs (.slice ra RS.length rc) (.slice wa ws.length wc) (.slice ba bs.length bc) RS ws bs) k → F k ∧ k ≠ qb)
    (i : Nat) (p p' : Pc) (hp : (qPs (.slice ra RS.length rc) (.slice wa ws.length wc) (.slice ba bs.length bc) RS ws bs)[i]? = some p)
    (hk : Keeps w w' (fun k => p.v.ownBlock = some k)) (hm : p'.mid w') (hb : ∀ k, p'.v.ownBlock = some k → p.v.ownBlock = some k ∨ w.heap.size ≤ k)
    (he : (qPs (.slice ra RS.length rc) (.slice wa ws.length wc) (.slice ba bs.length bc) RS ws bs).set i p' = qPs (.slice ra RS'.length rc) (.slice wa ws'.length wc) (.slice ba bs'.length bc) RS' ws' bs') (hl1 : RS'.length = RS.length) (hl2 : ws'.length = ws.length) (hl3 : bs'.length = bs.length) :
    QA w qb F RS' ws' bs' w' := by
  have hz := hk.size
  obtain ⟨hi, hpe⟩ := List.getElem?_eq_some_iff.1 hp
  have hfp : ∀ k, p.v.ownBlock = some k → Foot (qPs (.slice ra RS.length rc) (.slice wa ws.length wc) (.slice ba bs.length bc) RS ws bs) k := fun k h => ⟨p, List.mem_of_getElem? hp, h⟩
  have ho := h2.set i hi p' (by rw [hpe]; exact hk) hm (by rw [hpe]; exact hb)
  rw [he] at ho
  refine ⟨fun k => k < w'.heap.size ∧ (F k ∨ w.heap.size ≤ k), ⟨ra, wa, ba, rc, wc, bc, ?_, ho, ⟨?_, .inl h3⟩, fun k hf => ?_, fun k h => h.1⟩, fun k h => h.2, hk.mono fun b _ h => (h4 b (hfp b h)).1⟩
  · rw [hl1, hl2, hl3]
    exact (hk.block qb (lt_of_block h1) fun e => (h4 qb (hfp qb e)).2 rfl).trans h1
  · have := lt_of_block h1; omega
  · have hlt := ho.lt k hf
    rw [← he] at hf
    rcases foot_set hf with h | h
    · exact ⟨⟨hlt, .inl (h4 k h).1⟩, (h4 k h).2⟩
    · rcases hb k h with h | h
      · exact ⟨⟨hlt, .inl (h4 k (hfp k h)).1⟩, (h4 k (hfp k h)).2⟩
      · exact ⟨⟨hlt, .inr h⟩, by have := lt_of_block h1; omega⟩
theorem qPs_rows (rv wv bv : Value) (RS : List (Rw × Value)) (ws : List (Int × Int)) (bs : List Bool) : (qPs rv wv bv RS ws bs).length = RS.length + 3 := by simp [qPs]
/-- A row's mark is set. -/
theorem QS.mark {w : World} {qb : Nat} {F : Nat → Prop} {RS : List (Rw × Value)} {ws : List (Int × Int)} {bs : List Bool} (h : QS w qb F RS ws bs) (I : Nat) (hI : I < RS.length) (z : Bool) {b of c : Nat} (hc : w.cell? ⟨qb, 0, none⟩ = some (.slice (some ⟨b, of, none⟩) RS.length c)) :
    QA w qb F (RS.set I (⟨RS[I].1.t, RS[I].1.s, RS[I].1.jobs, z⟩, RS[I].2)) ws bs (w.setCell ⟨b, of + I * 4 + 3, none⟩ (.bool z)) := by
  obtain ⟨ra, wa, ba, rc, wc, bc, h1, h2, h3, h4, h5⟩ := h
  have e := (cell_of_block (j := 0) h1 rfl).symm.trans hc
  obtain ⟨rfl, rfl⟩ : ra = some ⟨b, of, none⟩ ∧ rc = c := by cases e; exact ⟨rfl, rfl⟩
  have hm : Mid w 0 67 4 (.slice (some ⟨b, of, none⟩) RS.length rc) RS.length (RS.flatMap rowCells) := h2.1 ⟨.slice (some ⟨b, of, none⟩) RS.length rc, 67, 4, RS.length, RS.flatMap rowCells⟩ (List.mem_of_getElem? (i := 0) rfl)
  have hs := hm.stored (I * 4 + 3) (.bool z)
  rw [← Nat.add_assoc] at hs
  have hf := flat_set rowCells 4 (fun _ => rfl) RS I hI (⟨RS[I].1.t, RS[I].1.s, RS[I].1.jobs, z⟩, RS[I].2) 3 (by omega) (.bool z) (by simp [rowCells])
  rw [← hf] at hs
  refine QS.piece h1 h2 h3 h4 0 ⟨.slice (some ⟨b, of, none⟩) RS.length rc, 67, 4, RS.length, RS.flatMap rowCells⟩ ⟨.slice (some ⟨b, of, none⟩) RS.length rc, 67, 4, RS.length, _⟩ rfl (Keeps.setCell _ _ _ rfl) hs (fun k hk => .inl hk) ?_ (by simp) rfl rfl
  have hj : (RS.set I (⟨RS[I].1.t, RS[I].1.s, RS[I].1.jobs, z⟩, RS[I].2)).map jp = RS.map jp := by
    rw [List.map_set]
    have : jp (⟨RS[I].1.t, RS[I].1.s, RS[I].1.jobs, z⟩, RS[I].2) = (RS.map jp)[I]'(by simpa using hI) := by rw [List.getElem_map]; rfl
    rw [this, List.set_getElem_self]
  unfold qPs
  rw [hj, List.length_set]
  rfl
/-- A worker's key, and its mark. -/
theorem kySet (ws : List (Int × Int)) (n : Nat) (hn : n < ws.length) (t s : Int) : (ws.set n (t, s)).flatMap kyCells = ((ws.flatMap kyCells).set (n * 2 + 0) (.int .i64 t)).set (n * 2 + 1) (.int .i64 s) := by
  have f1 := flat_set kyCells 2 (fun _ => rfl) ws n hn (t, ws[n].2) 0 (by omega) (.int .i64 t) (by simp [kyCells])
  have f2 := flat_set kyCells 2 (fun _ => rfl) (ws.set n (t, ws[n].2)) n (by simpa using hn) (t, s) 1 (by omega) (.int .i64 s) (by simp [kyCells])
  rw [List.set_set] at f2
  rw [f2, f1]
set_option maxHeartbeats 1000000 in
theorem QS.work {w : World} {qb : Nat} {F : Nat → Prop} {RS : List (Rw × Value)} {ws : List (Int × Int)} {bs : List Bool} (h : QS w qb F RS ws bs) (n : Nat) (hn : n < ws.length) (t s : Int) {b of c : Nat} (hc : w.cell? ⟨qb, 1, none⟩ = some (.slice (some ⟨b, of, none⟩) ws.length c)) :
    QA w qb F RS (ws.set n (t, s)) bs ((w.setCell ⟨b, of + n * 2, none⟩ (.int .i64 t)).setCell ⟨b, of + n * 2 + 1, none⟩ (.int .i64 s)) := by
  obtain ⟨ra, wa, ba, rc, wc, bc, h1, h2, h3, h4, h5⟩ := h
  have e := (cell_of_block (j := 1) h1 rfl).symm.trans hc
  obtain ⟨rfl, rfl⟩ : wa = some ⟨b, of, none⟩ ∧ wc = c := by cases e; exact ⟨rfl, rfl⟩
  have hm : Mid w 0 29 2 (.slice (some ⟨b, of, none⟩) ws.length wc) ws.length (ws.flatMap kyCells) := h2.1 ⟨.slice (some ⟨b, of, none⟩) ws.length wc, 29, 2, ws.length, ws.flatMap kyCells⟩ (List.mem_of_getElem? (i := 1) rfl)
  have hs := (hm.stored (n * 2 + 0) (.int .i64 t)).stored (n * 2 + 1) (.int .i64 s)
  rw [← kySet ws n hn t s] at hs
  simp only [← Nat.add_assoc, Nat.add_zero] at hs
  refine QS.piece h1 h2 h3 h4 1 ⟨.slice (some ⟨b, of, none⟩) ws.length wc, 29, 2, ws.length, ws.flatMap kyCells⟩ ⟨.slice (some ⟨b, of, none⟩) ws.length wc, 29, 2, ws.length, _⟩ rfl ((Keeps.setCell w ⟨b, of + n * 2, none⟩ (.int .i64 t) (S := fun k => (Value.slice (some ⟨b, of, none⟩) ws.length wc).ownBlock = some k) rfl).trans (Keeps.setCell _ ⟨b, of + n * 2 + 1, none⟩ (.int .i64 s) (S := fun k => (Value.slice (some ⟨b, of, none⟩) ws.length wc).ownBlock = some k) rfl) fun _ _ h => h) hs (fun k hk => .inl hk) ?_ rfl (by simp) rfl
  unfold qPs
  rw [List.length_set]
  rfl
theorem QS.bz {w : World} {qb : Nat} {F : Nat → Prop} {RS : List (Rw × Value)} {ws : List (Int × Int)} {bs : List Bool} (h : QS w qb F RS ws bs) (n : Nat) (z : Bool) {b of c : Nat} (hc : w.cell? ⟨qb, 2, none⟩ = some (.slice (some ⟨b, of, none⟩) bs.length c)) :
    QA w qb F RS ws (bs.set n z) (w.setCell ⟨b, of + n, none⟩ (.bool z)) := by
  obtain ⟨ra, wa, ba, rc, wc, bc, h1, h2, h3, h4, h5⟩ := h
  have e := (cell_of_block (j := 2) h1 rfl).symm.trans hc
  obtain ⟨rfl, rfl⟩ : ba = some ⟨b, of, none⟩ ∧ bc = c := by cases e; exact ⟨rfl, rfl⟩
  have hm : Mid w 0 4 1 (.slice (some ⟨b, of, none⟩) bs.length bc) bs.length (bs.map Value.bool) := h2.1 ⟨.slice (some ⟨b, of, none⟩) bs.length bc, 4, 1, bs.length, bs.map Value.bool⟩ (List.mem_of_getElem? (i := 2) rfl)
  have hs := hm.stored n (.bool z)
  refine QS.piece h1 h2 h3 h4 2 ⟨.slice (some ⟨b, of, none⟩) bs.length bc, 4, 1, bs.length, bs.map Value.bool⟩ ⟨.slice (some ⟨b, of, none⟩) bs.length bc, 4, 1, bs.length, _⟩ rfl (Keeps.setCell _ _ _ rfl) hs (fun k hk => .inl hk) ?_ rfl rfl (by simp)
  simp [qPs, List.map_set]
/-- A row's jobs are another slice, or the same one written; its header is stored. -/
theorem QS.jobs {w : World} {qb : Nat} {F : Nat → Prop} {RS : List (Rw × Value)} {ws : List (Int × Int)} {bs : List Bool} {w4 : World} (h : QS w qb F RS ws bs) (I : Nat) (hI : I < RS.length) (js : List Int) (v : Value) {b of c : Nat} (hc : w.cell? ⟨qb, 0, none⟩ = some (.slice (some ⟨b, of, none⟩) RS.length c))
    (hk : Keeps w w4 (fun k => RS[I].2.ownBlock = some k)) (hm4 : Mid w4 0 3 1 v js.length (js.map IV)) (hb : ∀ k, v.ownBlock = some k → RS[I].2.ownBlock = some k ∨ w.heap.size ≤ k) :
    QA w qb F (RS.set I (⟨RS[I].1.t, RS[I].1.s, js, RS[I].1.busy⟩, v)) ws bs (w4.setCell ⟨b, of + I * 4 + 2, none⟩ v) := by
  obtain ⟨ra, wa, ba, rc, wc, bc, h1, h2, h3, h4, h5⟩ := h
  have e := (cell_of_block (j := 0) h1 rfl).symm.trans hc
  obtain ⟨rfl, rfl⟩ : ra = some ⟨b, of, none⟩ ∧ rc = c := by cases e; exact ⟨rfl, rfl⟩
  have hi3 : I + 3 < (qPs (.slice (some ⟨b, of, none⟩) RS.length rc) (.slice wa ws.length wc) (.slice ba bs.length bc) RS ws bs).length := by rw [qPs_rows]; omega
  have he3 : (qPs (.slice (some ⟨b, of, none⟩) RS.length rc) (.slice wa ws.length wc) (.slice ba bs.length bc) RS ws bs)[I + 3] = jp RS[I] := by simp [qPs]
  -- the jobs' slice
  have hz := hk.size
  have ho := h2.set (I + 3) hi3 ⟨v, 3, 1, js.length, js.map IV⟩ (by rw [he3]; exact hk) hm4 (by rw [he3]; exact hb)
  -- the row's header
  have hl0 : 0 < ((qPs (.slice (some ⟨b, of, none⟩) RS.length rc) (.slice wa ws.length wc) (.slice ba bs.length bc) RS ws bs).set (I + 3) ⟨v, 3, 1, js.length, js.map IV⟩).length := by simp [qPs]
  have hm : Mid w4 0 67 4 (.slice (some ⟨b, of, none⟩) RS.length rc) RS.length (RS.flatMap rowCells) := ho.get 0 hl0
  have hs := hm.stored (I * 4 + 2) v
  rw [← Nat.add_assoc] at hs
  have hf := flat_set rowCells 4 (fun _ => rfl) RS I hI (⟨RS[I].1.t, RS[I].1.s, js, RS[I].1.busy⟩, v) 2 (by omega) v (by simp [rowCells])
  rw [← hf] at hs
  have ho2 := ho.set 0 hl0 ⟨.slice (some ⟨b, of, none⟩) RS.length rc, 67, 4, RS.length, _⟩ (Keeps.setCell _ ⟨b, of + I * 4 + 2, none⟩ v (S := fun k => (Value.slice (some ⟨b, of, none⟩) RS.length rc).ownBlock = some k) rfl) hs (fun k hk => .inl hk)
  have hlist : ((qPs (.slice (some ⟨b, of, none⟩) RS.length rc) (.slice wa ws.length wc) (.slice ba bs.length bc) RS ws bs).set (I + 3) ⟨v, 3, 1, js.length, js.map IV⟩).set 0 ⟨.slice (some ⟨b, of, none⟩) RS.length rc, 67, 4, RS.length, (RS.set I (⟨RS[I].1.t, RS[I].1.s, js, RS[I].1.busy⟩, v)).flatMap rowCells⟩ = qPs (.slice (some ⟨b, of, none⟩) (RS.set I (⟨RS[I].1.t, RS[I].1.s, js, RS[I].1.busy⟩, v)).length rc) (.slice wa ws.length wc) (.slice ba bs.length bc) (RS.set I (⟨RS[I].1.t, RS[I].1.s, js, RS[I].1.busy⟩, v)) ws bs := by
    simp [qPs, List.map_set, jp]
  replace ho2 : Own (w4.setCell ⟨b, of + I * 4 + 2, none⟩ v) (qPs (.slice (some ⟨b, of, none⟩) (RS.set I (⟨RS[I].1.t, RS[I].1.s, js, RS[I].1.busy⟩, v)).length rc) (.slice wa ws.length wc) (.slice ba bs.length bc) (RS.set I (⟨RS[I].1.t, RS[I].1.s, js, RS[I].1.busy⟩, v)) ws bs) := by
    rw [← hlist]; exact ho2
  have hfb : F b ∧ b ≠ qb := h4 b ⟨⟨.slice (some ⟨b, of, none⟩) RS.length rc, 67, 4, RS.length, RS.flatMap rowCells⟩, List.mem_of_getElem? (i := 0) rfl, rfl⟩
  have hqb : ¬ RS[I].2.ownBlock = some qb := fun e => (h4 qb (foot_at hi3 (by rw [he3]; exact e))).2 rfl
  refine ⟨fun k => k < w4.heap.size ∧ (F k ∨ w.heap.size ≤ k), ⟨some ⟨b, of, none⟩, wa, ba, rc, wc, bc, ?_, ho2, ⟨?_, .inl h3⟩, fun k hfk => ?_, fun k h => by simpa using h.1⟩, fun k h => h.2, (hk.mono fun x _ h => (h4 x (foot_at hi3 (by rw [he3]; exact h))).1).trans (Keeps.setCell _ _ _ (S := F) hfb.1) fun _ _ h => h⟩
  · rw [List.length_set]
    exact (Below.heap_setCell _ _ _ _ hfb.2.symm).trans ((hk.block qb (lt_of_block h1) hqb).trans h1)
  · have := lt_of_block h1; omega
  · have hlt := ho2.lt k hfk
    rw [World.size_setCell] at hlt
    rw [← hlist] at hfk
    rcases foot_set hfk with h | h
    · rcases foot_set h with h | h
      · exact ⟨⟨hlt, .inl (h4 k h).1⟩, (h4 k h).2⟩
      · rcases hb k h with h | h
        · have := h4 k (foot_at hi3 (by rw [he3]; exact h)); exact ⟨⟨hlt, .inl this.1⟩, this.2⟩
        · exact ⟨⟨hlt, .inr h⟩, by have := lt_of_block h1; omega⟩
    · cases h; exact ⟨⟨hlt, .inl hfb.1⟩, hfb.2⟩
/-- The rows are another slice: some rows' jobs are dropped, or rows without jobs are new; the header is stored. -/
theorem QS.rows {w : World} {qb : Nat} {F : Nat → Prop} {RS : List (Rw × Value)} {ws : List (Int × Int)} {bs : List Bool} {w4 : World} {RS' : List (Rw × Value)} {ra : Option Addr} {rc : Nat} {a' : Option Addr} {c' : Nat} (h : QS w qb F RS ws bs) (hc : w.cell? ⟨qb, 0, none⟩ = some (.slice ra RS.length rc)) (hR : ∀ p, p ∈ RS' → p ∈ RS ∨ (p.2 = .slice none 0 0 ∧ p.1.jobs = [])) (hP : RS'.Pairwise fun p q => ∀ k, p.2.ownBlock = some k → q.2.ownBlock ≠ some k)
    (hk : Keeps w w4 (fun k => (Value.slice ra RS.length rc).ownBlock = some k)) (hm4 : Mid w4 0 67 4 (.slice a' RS'.length c') RS'.length (RS'.flatMap rowCells)) (hb : ∀ k, (Value.slice a' RS'.length c').ownBlock = some k → (Value.slice ra RS.length rc).ownBlock = some k ∨ w.heap.size ≤ k) :
    QA w qb F RS' ws bs (w4.setCell ⟨qb, 0, none⟩ (.slice a' RS'.length c')) := by
  obtain ⟨ra', wa, ba, rc', wc, bc, h1, h2, h3, h4, h5⟩ := h
  have e := (cell_of_block (j := 0) h1 rfl).symm.trans hc
  obtain ⟨rfl, rfl⟩ : ra' = ra ∧ rc' = rc := by cases e; exact ⟨rfl, rfl⟩
  have hz := hk.size
  have hi0 : 0 < (qPs (.slice ra' RS.length rc') (.slice wa ws.length wc) (.slice ba bs.length bc) RS ws bs).length := by rw [qPs_rows]; omega
  have ho := h2.set 0 hi0 ⟨.slice a' RS'.length c', 67, 4, RS'.length, RS'.flatMap rowCells⟩ hk hm4 hb
  have hqr : ¬ (Value.slice ra' RS.length rc').ownBlock = some qb := fun e => (h4 qb (foot_at hi0 e)).2 rfl
  have h1' : w4.heap[qb]? = some (.cells #[.slice ra' RS.length rc', .slice wa ws.length wc, .slice ba bs.length bc] 65 (0, 0)) := (hk.block qb (lt_of_block h1) hqr).trans h1
  have hF4 : ∀ k, Foot (qPs (.slice a' RS'.length c') (.slice wa ws.length wc) (.slice ba bs.length bc) RS' ws bs) k → (F k ∨ w.heap.size ≤ k) ∧ k ≠ qb := by
    rintro k ⟨p, hp, hpk⟩
    simp only [qPs, List.mem_cons, List.mem_map] at hp
    rcases hp with rfl | rfl | rfl | ⟨q, hq, rfl⟩
    · rcases hb k hpk with h | h
      · have := h4 k (foot_at hi0 h); exact ⟨.inl this.1, this.2⟩
      · exact ⟨.inr h, by have := lt_of_block h1; omega⟩
    · have := h4 k ⟨⟨.slice wa ws.length wc, 29, 2, ws.length, ws.flatMap kyCells⟩, List.mem_of_getElem? (i := 1) rfl, hpk⟩; exact ⟨.inl this.1, this.2⟩
    · have := h4 k ⟨⟨.slice ba bs.length bc, 4, 1, bs.length, bs.map Value.bool⟩, List.mem_of_getElem? (i := 2) rfl, hpk⟩; exact ⟨.inl this.1, this.2⟩
    · rcases hR q hq with h | ⟨h, _⟩
      · have := h4 k ⟨jp q, by simp only [qPs, List.mem_cons, List.mem_map]; exact .inr (.inr (.inr ⟨q, h, rfl⟩)), hpk⟩; exact ⟨.inl this.1, this.2⟩
      · simp only [jp, h] at hpk; cases hpk
  have ho4 : Own w4 (qPs (.slice a' RS'.length c') (.slice wa ws.length wc) (.slice ba bs.length bc) RS' ws bs) := by
    have hj : ∀ q, q ∈ RS' → (jp q).mid w4 := fun q hq => by
      rcases hR q hq with h | ⟨h, h'⟩
      · refine ho.1 _ ?_
        simp only [qPs, List.set_cons_zero, List.mem_cons, List.mem_map]
        exact .inr (.inr (.inr ⟨q, h, rfl⟩))
      · unfold jp Pc.mid
        simp only [h, h']
        exact Mid.nil _ _ _ _
    have hap : ∀ p, (p ∈ [(⟨.slice a' RS'.length c', 67, 4, RS'.length, RS'.flatMap rowCells⟩ : Pc), ⟨.slice wa ws.length wc, 29, 2, ws.length, ws.flatMap kyCells⟩, ⟨.slice ba bs.length bc, 4, 1, bs.length, bs.map Value.bool⟩]) → ∀ q, q ∈ RS' → Apart p (jp q) := fun p hp q hq k h6 h7 => by
      rcases hR q hq with h | ⟨h, _⟩
      · have hpw := ho.2
        simp only [qPs, List.set_cons_zero] at hpw
        rw [show (∀ (a b c : Pc) (l : List Pc), a :: b :: c :: l = [a, b, c] ++ l) from fun _ _ _ _ => rfl] at hpw
        exact (List.pairwise_append.1 hpw).2.2 p hp (jp q) (List.mem_map.2 ⟨q, h, rfl⟩) k h6 h7
      · simp only [jp, h] at h7; cases h7
    have hpw := ho.2
    simp only [qPs, List.set_cons_zero] at hpw
    rw [show (∀ (a b c : Pc) (l : List Pc), a :: b :: c :: l = [a, b, c] ++ l) from fun _ _ _ _ => rfl] at hpw
    refine ⟨fun p hp => ?_, ?_⟩
    · simp only [qPs, List.mem_cons, List.mem_map] at hp
      rcases hp with rfl | rfl | rfl | ⟨q, hq, rfl⟩
      · exact hm4
      · exact ho.1 ⟨.slice wa ws.length wc, 29, 2, ws.length, ws.flatMap kyCells⟩ (List.mem_of_getElem? (i := 1) rfl)
      · exact ho.1 ⟨.slice ba bs.length bc, 4, 1, bs.length, bs.map Value.bool⟩ (List.mem_of_getElem? (i := 2) rfl)
      · exact hj q hq
    · unfold qPs
      rw [show (∀ (a b c : Pc) (l : List Pc), a :: b :: c :: l = [a, b, c] ++ l) from fun _ _ _ _ => rfl]
      refine List.pairwise_append.2 ⟨(List.pairwise_append.1 hpw).1, List.pairwise_map.2 (hP.imp fun h => h), fun p hp q hq => ?_⟩
      obtain ⟨q', hq', rfl⟩ := List.mem_map.1 hq
      exact hap p hp q' hq'
  have hko : Keeps w4 (w4.setCell ⟨qb, 0, none⟩ (.slice a' RS'.length c')) (fun k => k = qb) := Keeps.setCell _ _ _ rfl
  refine ⟨fun k => k < w4.heap.size ∧ (F k ∨ w.heap.size ≤ k), ⟨a', wa, ba, c', wc, bc, ?_, ho4.keeps hko fun k h e => (hF4 k h).2 e, ⟨?_, .inl h3⟩, fun k hf => ⟨⟨ho4.lt k hf, (hF4 k hf).1⟩, (hF4 k hf).2⟩, fun k h => by simpa using h.1⟩, fun k h => h.2, (hk.mono fun x _ h => (h4 x (foot_at hi0 h)).1).trans (Keeps.setCell _ _ _ (S := F) h3) fun _ _ h => h⟩
  · rw [heap_setCell_same w4 qb 0 _ _ _ h1']; rfl
  · have := lt_of_block h1; omega
end Go.Proofs.YtkbopcgijaejjaaDoor
