/-
  does of actuarylaw30 by contract: it answers true; the queue and the model go on as one; the conditions: what errors.errorType holds, and how many jobs there are.
  Printed by a program of this repository (wip/qu20.py).
-/
import Derived.Test.YtkbopcgijaejjaaDoorBoth2
namespace Go.Proofs.YtkbopcgijaejjaaDoor
open Go.RowKit Go.Extern.Stop Go.Stop Go.Extern
/-- What does answers. -/
def DoesR (w0 : World) (qb mb : Nat) (X : List (Nat × Obj)) (rows : List Rw) (ws : List (Int × Int)) (e : Ending) (w' : World) : Prop :=
  e = .returned (.bool true) ∧ ∃ rows' ws' bs', StC w0 qb mb X rows' ws' bs' rows' ws' bs' w' ∧ allR rows' ≤ allR rows + 1 ∧ ws'.length = ws.length
theorem ErrV.below {o : Out} {n : Int} {w w1 w2 : World} {v : Value} (h : ErrV o n w w1 v) (hb : Below w1.heap.size w1 w2) : ErrV o n w w2 v := by
  cases o
  · exact h
  · obtain ⟨pb, rfl, hf, hp⟩ := h; exact ⟨pb, rfl, hf.below hb hf.lt, hp⟩
  · obtain ⟨pb, rfl, hf, hp⟩ := h; exact ⟨pb, rfl, hf.below hb hf.lt, hp⟩
  · exact h
theorem allR_end_le {rows : List Rw} {ws : List (Int × Int)} {bs : List Bool} (h : Inv rows ws bs) (n : Int) : allR (endR rows ws bs n) ≤ allR rows := by have := allR_end h n; omega
set_option maxRecDepth 100000 in
set_option maxHeartbeats 4000000 in
theorem does_put (w0 : World) (qb mb : Nat) (X : List (Nat × Obj)) (rows : List Rw) (ws : List (Int × Int)) (bs : List Bool) (t s j u p : Int) (w : World) (hg : Hg w0) (h : StC w0 qb mb X rows ws bs rows ws bs w) (hl : allR rows ≤ 4398046511104) :
    Calls Tryd.prog 15 #[.pointer (some ⟨qb, 0, none⟩), .pointer (some ⟨mb, 0, none⟩), .agg #[.int .i64 1, .int .i64 t, .int .i64 s, .int .i64 j, .int .i64 u, .int .i64 p]] w (DoesR w0 qb mb X rows ws) := by
  have hst := h.guard (b := w.heap.size) (ob := (.cells #[.int .i64 1, .int .i64 t, .int .i64 s, .int .i64 j, .int .i64 u, .int .i64 p] 31)) ((Below.refl _ _).alloc (Nat.le_refl _) (.cells #[.int .i64 1, .int .i64 t, .int .i64 s, .int .i64 j, .int .i64 u, .int .i64 p] 31)) (Nat.le_refl _) (heap_alloc_new w _)
  have HS := Lib.hid hst
  have HG := Lib.hid hg
  clear h hst hg
  go_enter Tryd.func15, Tryd.ntmps15
  go_wp2_with fail
  refine (put_c HS.out hl t s j).mono ?_
  rintro e w1 ⟨⟨v1, rfl⟩, hs1⟩
  have HS1 := Lib.hid hs1
  have x0 : w1.cell? ⟨w.heap.size, 0, none⟩ = some (.int .i64 1) := cell_of_block (hs1.at (b := w.heap.size) (List.mem_of_getElem? (i := 0) rfl)) rfl
  have x1 : w1.cell? ⟨w.heap.size, 1, none⟩ = some (.int .i64 t) := cell_of_block (hs1.at (b := w.heap.size) (List.mem_of_getElem? (i := 0) rfl)) rfl
  have x2 : w1.cell? ⟨w.heap.size, 2, none⟩ = some (.int .i64 s) := cell_of_block (hs1.at (b := w.heap.size) (List.mem_of_getElem? (i := 0) rfl)) rfl
  have x3 : w1.cell? ⟨w.heap.size, 3, none⟩ = some (.int .i64 j) := cell_of_block (hs1.at (b := w.heap.size) (List.mem_of_getElem? (i := 0) rfl)) rfl
  have x4 : w1.cell? ⟨w.heap.size, 4, none⟩ = some (.int .i64 u) := cell_of_block (hs1.at (b := w.heap.size) (List.mem_of_getElem? (i := 0) rfl)) rfl
  have x5 : w1.cell? ⟨w.heap.size, 5, none⟩ = some (.int .i64 p) := cell_of_block (hs1.at (b := w.heap.size) (List.mem_of_getElem? (i := 0) rfl)) rfl
  clear hs1
  go_wp2_with fail
  refine (mput_c HS1.out hl t s j).mono ?_
  rintro e w2 ⟨⟨v2, rfl⟩, hs2⟩
  have HS2 := Lib.hid hs2
  have x0 : w2.cell? ⟨w.heap.size, 0, none⟩ = some (.int .i64 1) := cell_of_block (hs2.at (b := w.heap.size) (List.mem_of_getElem? (i := 0) rfl)) rfl
  have x1 : w2.cell? ⟨w.heap.size, 1, none⟩ = some (.int .i64 t) := cell_of_block (hs2.at (b := w.heap.size) (List.mem_of_getElem? (i := 0) rfl)) rfl
  have x2 : w2.cell? ⟨w.heap.size, 2, none⟩ = some (.int .i64 s) := cell_of_block (hs2.at (b := w.heap.size) (List.mem_of_getElem? (i := 0) rfl)) rfl
  have x3 : w2.cell? ⟨w.heap.size, 3, none⟩ = some (.int .i64 j) := cell_of_block (hs2.at (b := w.heap.size) (List.mem_of_getElem? (i := 0) rfl)) rfl
  have x4 : w2.cell? ⟨w.heap.size, 4, none⟩ = some (.int .i64 u) := cell_of_block (hs2.at (b := w.heap.size) (List.mem_of_getElem? (i := 0) rfl)) rfl
  have x5 : w2.cell? ⟨w.heap.size, 5, none⟩ = some (.int .i64 p) := cell_of_block (hs2.at (b := w.heap.size) (List.mem_of_getElem? (i := 0) rfl)) rfl
  clear hs2
  go_wp2
  go_ret
  exact ⟨rfl, _, _, _, HS2.out.less (fun x hx => List.mem_cons.2 (.inr hx)), by rw [allR_put]; omega, rfl⟩
set_option maxRecDepth 100000 in
set_option maxHeartbeats 4000000 in
theorem does_begin (w0 : World) (qb mb : Nat) (X : List (Nat × Obj)) (rows : List Rw) (ws : List (Int × Int)) (bs : List Bool) (t s j u p : Int) (w : World) (hg : Hg w0) (h : StC w0 qb mb X rows ws bs rows ws bs w) (hl : allR rows ≤ 4398046511104) :
    Calls Tryd.prog 15 #[.pointer (some ⟨qb, 0, none⟩), .pointer (some ⟨mb, 0, none⟩), .agg #[.int .i64 2, .int .i64 t, .int .i64 s, .int .i64 j, .int .i64 u, .int .i64 p]] w (DoesR w0 qb mb X rows ws) := by
  have hst := h.guard (b := w.heap.size) (ob := (.cells #[.int .i64 2, .int .i64 t, .int .i64 s, .int .i64 j, .int .i64 u, .int .i64 p] 31)) ((Below.refl _ _).alloc (Nat.le_refl _) (.cells #[.int .i64 2, .int .i64 t, .int .i64 s, .int .i64 j, .int .i64 u, .int .i64 p] 31)) (Nat.le_refl _) (heap_alloc_new w _)
  have HS := Lib.hid hst
  have HG := Lib.hid hg
  clear h hst hg
  go_enter Tryd.func15, Tryd.ntmps15
  go_wp2_with fail
  refine (begin_c HS.out hl u p).mono ?_
  rintro e w1 ⟨v1, rfl, hv, hs1⟩
  have HS1 := Lib.hid hs1
  have HV := Lib.hid hv
  have x0 : w1.cell? ⟨w.heap.size, 0, none⟩ = some (.int .i64 2) := cell_of_block (hs1.at (b := w.heap.size) (List.mem_of_getElem? (i := 0) rfl)) rfl
  have x1 : w1.cell? ⟨w.heap.size, 1, none⟩ = some (.int .i64 t) := cell_of_block (hs1.at (b := w.heap.size) (List.mem_of_getElem? (i := 0) rfl)) rfl
  have x2 : w1.cell? ⟨w.heap.size, 2, none⟩ = some (.int .i64 s) := cell_of_block (hs1.at (b := w.heap.size) (List.mem_of_getElem? (i := 0) rfl)) rfl
  have x3 : w1.cell? ⟨w.heap.size, 3, none⟩ = some (.int .i64 j) := cell_of_block (hs1.at (b := w.heap.size) (List.mem_of_getElem? (i := 0) rfl)) rfl
  have x4 : w1.cell? ⟨w.heap.size, 4, none⟩ = some (.int .i64 u) := cell_of_block (hs1.at (b := w.heap.size) (List.mem_of_getElem? (i := 0) rfl)) rfl
  have x5 : w1.cell? ⟨w.heap.size, 5, none⟩ = some (.int .i64 p) := cell_of_block (hs1.at (b := w.heap.size) (List.mem_of_getElem? (i := 0) rfl)) rfl
  clear hs1 hv
  go_wp2_with fail
  refine (mbegin_c HS1.out (HG.out.below HS1.out.world HG.out.lt) hl u p v1 HV.out).mono ?_
  rintro e w2 ⟨rfl, hs2⟩
  have HS2 := Lib.hid hs2
  clear hs2
  go_wp2
  go_ret
  exact ⟨rfl, _, _, _, HS2.out.less (fun x hx => List.mem_cons.2 (.inr hx)), by rw [allR_begin]; omega, len_begin u p⟩
set_option maxRecDepth 100000 in
set_option maxHeartbeats 4000000 in
theorem does_end (w0 : World) (qb mb : Nat) (X : List (Nat × Obj)) (rows : List Rw) (ws : List (Int × Int)) (bs : List Bool) (t s j u p : Int) (w : World) (hg : Hg w0) (h : StC w0 qb mb X rows ws bs rows ws bs w) (hl : allR rows ≤ 4398046511104) :
    Calls Tryd.prog 15 #[.pointer (some ⟨qb, 0, none⟩), .pointer (some ⟨mb, 0, none⟩), .agg #[.int .i64 3, .int .i64 t, .int .i64 s, .int .i64 j, .int .i64 u, .int .i64 p]] w (DoesR w0 qb mb X rows ws) := by
  have hst := h.guard (b := w.heap.size) (ob := (.cells #[.int .i64 3, .int .i64 t, .int .i64 s, .int .i64 j, .int .i64 u, .int .i64 p] 31)) ((Below.refl _ _).alloc (Nat.le_refl _) (.cells #[.int .i64 3, .int .i64 t, .int .i64 s, .int .i64 j, .int .i64 u, .int .i64 p] 31)) (Nat.le_refl _) (heap_alloc_new w _)
  have HS := Lib.hid hst
  have HG := Lib.hid hg
  clear h hst hg
  go_enter Tryd.func15, Tryd.ntmps15
  go_wp2_with fail
  refine (end_c HS.out hl u).mono ?_
  rintro e w1 ⟨v1, rfl, hv, hs1⟩
  have hb1 : Below w1.heap.size w1 (w1.alloc (.cells #[.int .i64 (endK ws bs u).1, .int .i64 (endK ws bs u).2] 29)) := (Below.refl _ _).alloc (Nat.le_refl _) _
  have HS1 := Lib.hid (hs1.below hb1)
  have HV := Lib.hid (ErrV.below hv hb1)
  have x0 : w1.cell? ⟨w.heap.size, 0, none⟩ = some (.int .i64 3) := cell_of_block (hs1.at (b := w.heap.size) (List.mem_of_getElem? (i := 0) rfl)) rfl
  have x1 : w1.cell? ⟨w.heap.size, 1, none⟩ = some (.int .i64 t) := cell_of_block (hs1.at (b := w.heap.size) (List.mem_of_getElem? (i := 0) rfl)) rfl
  have x2 : w1.cell? ⟨w.heap.size, 2, none⟩ = some (.int .i64 s) := cell_of_block (hs1.at (b := w.heap.size) (List.mem_of_getElem? (i := 0) rfl)) rfl
  have x3 : w1.cell? ⟨w.heap.size, 3, none⟩ = some (.int .i64 j) := cell_of_block (hs1.at (b := w.heap.size) (List.mem_of_getElem? (i := 0) rfl)) rfl
  have x4 : w1.cell? ⟨w.heap.size, 4, none⟩ = some (.int .i64 u) := cell_of_block (hs1.at (b := w.heap.size) (List.mem_of_getElem? (i := 0) rfl)) rfl
  have x5 : w1.cell? ⟨w.heap.size, 5, none⟩ = some (.int .i64 p) := cell_of_block (hs1.at (b := w.heap.size) (List.mem_of_getElem? (i := 0) rfl)) rfl
  have hlt1 : w.heap.size < w1.heap.size := lt_of_block (hs1.at (b := w.heap.size) (List.mem_of_getElem? (i := 0) rfl))
  have hne1 : w.heap.size ≠ w1.heap.size := by omega
  clear hs1 hv hb1
  go_wp2_with fail
  refine (mend_c HS1.out (HG.out.below HS1.out.world HG.out.lt) hl u v1 HV.out).mono ?_
  rintro e w2 ⟨rfl, hs2⟩
  have HS2 := Lib.hid hs2
  have HINV := Lib.hid HS.out.inv.1
  clear hs2
  go_wp2
  go_ret
  exact ⟨rfl, _, _, _, HS2.out.less (fun x hx => List.mem_cons.2 (.inr hx)), by have := allR_end_le HINV.out u; omega, rfl⟩
set_option maxRecDepth 100000 in
set_option maxHeartbeats 4000000 in
theorem does_look (w0 : World) (qb mb : Nat) (X : List (Nat × Obj)) (rows : List Rw) (ws : List (Int × Int)) (bs : List Bool) (d t s j u p : Int) (w : World) (hg : Hg w0) (h : StC w0 qb mb X rows ws bs rows ws bs w) (h1 : d ≠ 1) (h2 : d ≠ 2) (h3 : d ≠ 3) :
    Calls Tryd.prog 15 #[.pointer (some ⟨qb, 0, none⟩), .pointer (some ⟨mb, 0, none⟩), .agg #[.int .i64 d, .int .i64 t, .int .i64 s, .int .i64 j, .int .i64 u, .int .i64 p]] w (DoesR w0 qb mb X rows ws) := by
  have b1 : (d == 1) = false := beq_eq_false_iff_ne.2 h1
  have b2 : (d == 2) = false := beq_eq_false_iff_ne.2 h2
  have b3 : (d == 3) = false := beq_eq_false_iff_ne.2 h3
  clear h1 h2 h3
  have hst := h.guard (b := w.heap.size) (ob := (.cells #[.int .i64 d, .int .i64 t, .int .i64 s, .int .i64 j, .int .i64 u, .int .i64 p] 31)) ((Below.refl _ _).alloc (Nat.le_refl _) (.cells #[.int .i64 d, .int .i64 t, .int .i64 s, .int .i64 j, .int .i64 u, .int .i64 p] 31)) (Nat.le_refl _) (heap_alloc_new w _)
  have HS := Lib.hid hst
  have HG := Lib.hid hg
  clear h hst hg
  go_enter Tryd.func15, Tryd.ntmps15
  go_wp2
  go_ret
  exact ⟨rfl, _, _, _, HS.out.less (fun x hx => List.mem_cons.2 (.inr hx)), by omega, rfl⟩
theorem does_any (w0 : World) (qb mb : Nat) (X : List (Nat × Obj)) (rows : List Rw) (ws : List (Int × Int)) (bs : List Bool) (d t s j u p : Int) (w : World) (hg : Hg w0) (h : StC w0 qb mb X rows ws bs rows ws bs w) (hl : allR rows ≤ 4398046511104) :
    Calls Tryd.prog 15 #[.pointer (some ⟨qb, 0, none⟩), .pointer (some ⟨mb, 0, none⟩), .agg #[.int .i64 d, .int .i64 t, .int .i64 s, .int .i64 j, .int .i64 u, .int .i64 p]] w (DoesR w0 qb mb X rows ws) := by
  by_cases h1 : d = 1
  · subst h1; exact does_put w0 qb mb X rows ws bs t s j u p w hg h hl
  · by_cases h2 : d = 2
    · subst h2; exact does_begin w0 qb mb X rows ws bs t s j u p w hg h hl
    · by_cases h3 : d = 3
      · subst h3; exact does_end w0 qb mb X rows ws bs t s j u p w hg h hl
      · exact does_look w0 qb mb X rows ws bs d t s j u p w hg h h1 h2 h3
end Go.Proofs.YtkbopcgijaejjaaDoor
