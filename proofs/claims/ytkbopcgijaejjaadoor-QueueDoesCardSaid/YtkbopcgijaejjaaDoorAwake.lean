/-
  awake of actuarylaw30 by contract: it answers true; the conditions: what errors.errorType holds.
  Printed by a program of this repository (wip/qu10.py).
-/
import Derived.Test.YtkbopcgijaejjaaDoorState
import Derived.Test.YtkbopcgijaejjaaDoorKit
import Derived.Deep.RegionHeld3
namespace Go.Proofs.YtkbopcgijaejjaaDoor
open Go.RowKit Go.Extern.Stop Go.Stop Go.Extern
/-- A slice that a call has made lies in a block of its own. -/
theorem OwnR.block {w w' : World} {T : TypeId} {size n : Nat} {cs : List Value} {e : Ending} (h : OwnR w T size n cs e w') (hn : 0 < n) : ∃ b o c ob, e = .returned (.slice (some ⟨b, o, none⟩) n c) ∧ w.heap.size ≤ b ∧ w'.heap[b]? = some ob ∧ Below w.heap.size w w' ∧ ∀ W : World, W.heap[b]? = some ob → ∀ j u, cs[j]? = some u → W.cell? ⟨b, o + j, none⟩ = some u := by
  obtain ⟨a, c, rfl, hm, hb⟩ := h
  rcases hm.2 with ⟨_, h0⟩ | ⟨g, o, cap, cur, hv, hg, hh, _⟩
  · omega
  · cases hv
    exact ⟨g, o, c, _, rfl, hg, hh, hb, fun W hW j u hj => (World.cell?_of_block (hW.trans hh.symm)).trans (hm.cell j u hj)⟩
section
variable {w0 w : World} {qb : Nat} {X : List (Nat × Obj)} {rows : List Rw} {ws : List (Int × Int)} {bs : List Bool}
theorem begin_busy_st (h : StQ w0 qb X rows ws bs w) (hl : allR rows ≤ 4398046511104) (n p : Int) (h0 : 0 ≤ n) (h1 : n < ws.length) (hz : busyB bs n = true) :
    Calls Tryd.prog 11 #[.pointer (some ⟨qb, 0, none⟩), .int .i64 n, .int .i64 p] w fun e w' => ∃ pb ob, e = .returned (.tuple #[.int .i64 0, eF pb]) ∧ StQ w0 qb ((pb, ob) :: X) rows ws bs w' ∧ ∀ W : World, W.heap[pb]? = some ob → IsF W pb sWorker n 302 := by
  obtain ⟨F, ⟨RS, e0, hq⟩, hi, _⟩ := id h
  subst e0
  have h1' := len_le_all hi.jobs
  refine (begin_busy qb F RS ws bs n p w hq (by simp only [rowsOf, List.length_map] at h1'; unfold rowsOf at hl; omega) hi.len h0 h1 hz).mono ?_
  rintro e w' ⟨pb, rfl, hf, hb, hp⟩
  have hlt := hf.lt
  refine ⟨pb, w'.heap[pb], rfl, h.guard hb hp (Array.getElem?_eq_getElem hlt), fun W hW => ?_⟩
  have hk : ∀ j, W.cell? ⟨pb, j, none⟩ = w'.cell? ⟨pb, j, none⟩ := fun j => World.cell?_of_block (hW.trans (Array.getElem?_eq_getElem hlt).symm)
  exact ⟨(hk 0).trans hf.1, (hk 1).trans hf.2.1, (hk 2).trans hf.2.2⟩
theorem ready_own (h : StQ w0 qb X rows ws bs w) (hl : allR rows ≤ 4398046511104) (hp : 0 < (readyS rows).length) :
    Calls Tryd.prog 17 #[.pointer (some ⟨qb, 0, none⟩)] w fun e w' => ∃ b o c ob, e = .returned (.slice (some ⟨b, o, none⟩) (readyS rows).length c) ∧ StQ w0 qb ((b, ob) :: X) rows ws bs w' ∧ ∀ W : World, W.heap[b]? = some ob → ∀ j u, ((readyS rows).flatMap kyCells)[j]? = some u → W.cell? ⟨b, o + j, none⟩ = some u := by
  refine (ready_st h hl).mono ?_
  rintro e w' ⟨ho, _⟩
  obtain ⟨b, o, c, ob, he, h1, h2, h3, h4⟩ := ho.block hp
  exact ⟨b, o, c, ob, he, h.guard h3 h1 h2, h4⟩
end
structure AwS (W : World) (rb ro sb so ab db : Nat) : Prop where
  r0 : W.cell? ⟨rb, ro, none⟩ = some (.int .i64 1)
  r1 : W.cell? ⟨rb, ro + 1, none⟩ = some (.int .i64 1)
  s0 : W.cell? ⟨sb, so, none⟩ = some (.int .i64 1)
  s1 : W.cell? ⟨sb, so + 1, none⟩ = some (.int .i64 1)
  a0 : W.cell? ⟨ab, 0, none⟩ = some (.int .i64 1)
  a1 : W.cell? ⟨ab, 1, none⟩ = some (.int .i64 1)
  b0 : W.cell? ⟨ab + 1, 0, none⟩ = some (.int .i64 1)
  b1 : W.cell? ⟨ab + 1, 1, none⟩ = some (.int .i64 2)
  d0 : W.cell? ⟨db, 0, none⟩ = some (.int .i64 1)
  d1 : W.cell? ⟨db, 1, none⟩ = some (.int .i64 1)
theorem begin_of {rows : List Rw} {ws : List (Int × Int)} {bs : List Bool} {n p : Int} {k : Int × Int} (ho : beginO rows ws bs n = .ok) (hp : pickS rows p = k) : beginR rows ws bs n p = markS rows k.1 k.2 true ∧ beginW rows ws bs n p = ws.set n.toNat k ∧ beginB rows ws bs n = bs.set n.toNat true ∧ beginJ rows ws bs n p = headS rows k.1 k.2 := by
  unfold beginR beginW beginB beginJ
  rw [if_pos ho, if_pos ho, if_pos ho, if_pos ho, hp]
  exact ⟨rfl, rfl, rfl, rfl⟩
theorem pick_a : pickK 0 2 = 0 := by unfold pickK; simp [IntKind.wrap, IntKind.bits, IntKind.signed, wrap64]
theorem pick_b : pickK 5 1 = 0 := by unfold pickK; simp [IntKind.wrap, IntKind.bits, IntKind.signed, wrap64]
set_option maxRecDepth 100000 in
set_option maxHeartbeats 4000000 in
theorem awake_any (w : World) (hg : Hg w) : Calls Tryd.prog 8 #[] w (Yes w) := by
  have HG := Lib.hid hg
  have HN := Lib.hid (new_ok 2 w (by omega) (by omega))
  clear hg
  go_enter Tryd.func8, Tryd.ntmps8
  go_wp2_with fail
  refine HN.out.mono ?_
  rintro e w1 ⟨qb, F, rfl, hq, hF, hb⟩
  have hs1 : StQ w qb [] [] [(0, 0), (0, 0)] [false, false] w1 := StQ.new (Below.refl w.heap.size w) hq hF hb
  have hs2 := (hs1.guard (b := w1.heap.size) (ob := .cells #[.int .i64 1, .int .i64 1] 29) ((Below.refl _ _).alloc (Nat.le_refl _) _) (Nat.le_refl _) (heap_alloc_new w1 _))
  have hs3 := (hs2.guard (b := w1.heap.size + 1) (ob := .cells #[.int .i64 1, .int .i64 2] 29) ((Below.refl _ _).alloc (Nat.le_refl _) _) (by simp) (by have := heap_alloc_new (w1.alloc (.cells #[.int .i64 1, .int .i64 1] 29)) (.cells #[.int .i64 1, .int .i64 2] 29); rw [World.size_alloc] at this; exact this))
  have HS2 := Lib.hid hs3
  clear hq hF hb hs1 hs2 hs3
  go_wp2_with fail
  refine (put_st HS2.out (by decide) 1 1 10).mono ?_
  rintro e w3 ⟨⟨v3, rfl⟩, hs⟩
  have HS3 := Lib.hid (show StQ w qb [(w1.heap.size + 1, .cells #[.int .i64 1, .int .i64 2] 29), (w1.heap.size, .cells #[.int .i64 1, .int .i64 1] 29)] [⟨1, 1, [10], false⟩] [(0, 0), (0, 0)] [false, false] w3 from hs)
  clear hs
  have a0 : w3.cell? ⟨w1.heap.size, 0, none⟩ = some (.int .i64 1) := cell_of_block (HS3.out.at (b := w1.heap.size) (List.mem_of_getElem? (i := 1) rfl)) rfl
  have a1 : w3.cell? ⟨w1.heap.size, 1, none⟩ = some (.int .i64 1) := cell_of_block (HS3.out.at (b := w1.heap.size) (List.mem_of_getElem? (i := 1) rfl)) rfl
  have b0 : w3.cell? ⟨w1.heap.size + 1, 0, none⟩ = some (.int .i64 1) := cell_of_block (HS3.out.at (b := w1.heap.size + 1) (List.mem_of_getElem? (i := 0) rfl)) rfl
  have b1 : w3.cell? ⟨w1.heap.size + 1, 1, none⟩ = some (.int .i64 2) := cell_of_block (HS3.out.at (b := w1.heap.size + 1) (List.mem_of_getElem? (i := 0) rfl)) rfl
  go_wp2_with fail
  clear a0 a1 b0 b1
  refine (put_st HS3.out (by decide) 1 2 20).mono ?_
  rintro e w4 ⟨⟨v4, rfl⟩, hs⟩
  have HS4 := Lib.hid (show StQ w qb [(w1.heap.size + 1, .cells #[.int .i64 1, .int .i64 2] 29), (w1.heap.size, .cells #[.int .i64 1, .int .i64 1] 29)] [⟨1, 1, [10], false⟩, ⟨1, 2, [20], false⟩] [(0, 0), (0, 0)] [false, false] w4 from hs)
  clear hs
  have a0 : w4.cell? ⟨w1.heap.size, 0, none⟩ = some (.int .i64 1) := cell_of_block (HS4.out.at (b := w1.heap.size) (List.mem_of_getElem? (i := 1) rfl)) rfl
  have a1 : w4.cell? ⟨w1.heap.size, 1, none⟩ = some (.int .i64 1) := cell_of_block (HS4.out.at (b := w1.heap.size) (List.mem_of_getElem? (i := 1) rfl)) rfl
  have b0 : w4.cell? ⟨w1.heap.size + 1, 0, none⟩ = some (.int .i64 1) := cell_of_block (HS4.out.at (b := w1.heap.size + 1) (List.mem_of_getElem? (i := 0) rfl)) rfl
  have b1 : w4.cell? ⟨w1.heap.size + 1, 1, none⟩ = some (.int .i64 2) := cell_of_block (HS4.out.at (b := w1.heap.size + 1) (List.mem_of_getElem? (i := 0) rfl)) rfl
  go_wp2_with fail
  clear a0 a1 b0 b1
  refine (put_st HS4.out (by decide) 1 1 11).mono ?_
  rintro e w5 ⟨⟨v5, rfl⟩, hs⟩
  have HS5 := Lib.hid (show StQ w qb [(w1.heap.size + 1, .cells #[.int .i64 1, .int .i64 2] 29), (w1.heap.size, .cells #[.int .i64 1, .int .i64 1] 29)] [⟨1, 1, [10, 11], false⟩, ⟨1, 2, [20], false⟩] [(0, 0), (0, 0)] [false, false] w5 from hs)
  clear hs
  have a0 : w5.cell? ⟨w1.heap.size, 0, none⟩ = some (.int .i64 1) := cell_of_block (HS5.out.at (b := w1.heap.size) (List.mem_of_getElem? (i := 1) rfl)) rfl
  have a1 : w5.cell? ⟨w1.heap.size, 1, none⟩ = some (.int .i64 1) := cell_of_block (HS5.out.at (b := w1.heap.size) (List.mem_of_getElem? (i := 1) rfl)) rfl
  have b0 : w5.cell? ⟨w1.heap.size + 1, 0, none⟩ = some (.int .i64 1) := cell_of_block (HS5.out.at (b := w1.heap.size + 1) (List.mem_of_getElem? (i := 0) rfl)) rfl
  have b1 : w5.cell? ⟨w1.heap.size + 1, 1, none⟩ = some (.int .i64 2) := cell_of_block (HS5.out.at (b := w1.heap.size + 1) (List.mem_of_getElem? (i := 0) rfl)) rfl
  go_wp2_with fail
  clear a0 a1 b0 b1
  refine (ready_own HS5.out (by decide) (by decide)).mono ?_
  rintro e w6 ⟨rb, ro, rc, rob, rfl, hs, hr⟩
  have HS6 := Lib.hid hs
  have HRR := Lib.hid (show ∀ W : World, W.heap[rb]? = some rob → W.cell? ⟨rb, ro, none⟩ = some (.int .i64 1) ∧ W.cell? ⟨rb, ro + 1, none⟩ = some (.int .i64 1) from fun W hW => ⟨hr W hW 0 _ rfl, hr W hW 1 _ rfl⟩)
  clear hs hr
  go_wp2_with fail
  refine (begin_st HS6.out (by decide) 0 0).mono ?_
  rintro e w7 ⟨v7, rfl, hv, hs⟩
  obtain rfl : v7 = .nilIface := hv
  obtain ⟨e1, e2, e3, e4⟩ := begin_of (rows := [⟨1, 1, [10, 11], false⟩, ⟨1, 2, [20], false⟩]) (ws := [(0, 0), (0, 0)]) (bs := [false, false]) (n := 0) (p := 0) (k := (1, 1)) rfl (by unfold pickS; rw [show (readyS [⟨1, 1, [10, 11], false⟩, ⟨1, 2, [20], false⟩]).length = 2 from rfl, pick_a]; rfl)
  rw [e1, e2, e3] at hs
  rw [e4]
  have HS7 := Lib.hid (show StQ w qb ((rb, rob) :: [(w1.heap.size + 1, .cells #[.int .i64 1, .int .i64 2] 29), (w1.heap.size, .cells #[.int .i64 1, .int .i64 1] 29)]) [⟨1, 1, [10, 11], true⟩, ⟨1, 2, [20], false⟩] [(1, 1), (0, 0)] [true, false] w7 from hs)
  rw [show headS [⟨1, 1, [10, 11], false⟩, ⟨1, 2, [20], false⟩] 1 1 = 10 from rfl]
  clear e1 e2 e3 e4
  clear hs
  go_wp2_with fail
  refine (begin_st HS7.out (by decide) 1 5).mono ?_
  rintro e w8 ⟨v8, rfl, hv, hs⟩
  obtain rfl : v8 = .nilIface := hv
  obtain ⟨e1, e2, e3, e4⟩ := begin_of (rows := [⟨1, 1, [10, 11], true⟩, ⟨1, 2, [20], false⟩]) (ws := [(1, 1), (0, 0)]) (bs := [true, false]) (n := 1) (p := 5) (k := (1, 2)) rfl (by unfold pickS; rw [show (readyS [⟨1, 1, [10, 11], true⟩, ⟨1, 2, [20], false⟩]).length = 1 from rfl, pick_b]; rfl)
  rw [e1, e2, e3] at hs
  rw [e4]
  have HS8 := Lib.hid (show StQ w qb ((rb, rob) :: [(w1.heap.size + 1, .cells #[.int .i64 1, .int .i64 2] 29), (w1.heap.size, .cells #[.int .i64 1, .int .i64 1] 29)]) [⟨1, 1, [10, 11], true⟩, ⟨1, 2, [20], true⟩] [(1, 1), (1, 2)] [true, true] w8 from hs)
  rw [show headS [⟨1, 1, [10, 11], true⟩, ⟨1, 2, [20], false⟩] 1 2 = 20 from rfl]
  clear e1 e2 e3 e4
  clear hs
  go_wp2_with fail
  refine (begin_busy_st HS8.out (by decide) 1 0 (by omega) (by decide) (by decide)).mono ?_
  rintro e w9 ⟨pb, pob, rfl, hs, hf⟩
  have HS9 := Lib.hid hs
  have HF9 := Lib.hid hf
  clear hs hf
  unfold eF
  go_wp2_with fail
  refine (end_st HS9.out (by decide) 0).mono ?_
  rintro e w10 ⟨v10, rfl, hv, hs⟩
  obtain rfl : v10 = .nilIface := hv
  have hs := (show StQ w qb ((pb, pob) :: (rb, rob) :: [(w1.heap.size + 1, .cells #[.int .i64 1, .int .i64 2] 29), (w1.heap.size, .cells #[.int .i64 1, .int .i64 1] 29)]) [⟨1, 1, [11], false⟩, ⟨1, 2, [20], true⟩] [(1, 1), (1, 2)] [false, true] w10 from hs)
  have hs := (hs.guard (b := w10.heap.size) (ob := .cells #[.int .i64 1, .int .i64 1] 29) ((Below.refl _ _).alloc (Nat.le_refl _) _) (Nat.le_refl _) (heap_alloc_new w10 _))
  have HS10 := Lib.hid hs
  rw [show endJ [⟨1, 1, [10, 11], true⟩, ⟨1, 2, [20], true⟩] [(1, 1), (1, 2)] [true, true] 0 = 10 from rfl, show endK [(1, 1), (1, 2)] [true, true] 0 = (1, 1) from rfl]
  clear hs
  go_wp2_with fail
  refine (ready_own HS10.out (by decide) (by decide)).mono ?_
  rintro e w12 ⟨sb, so, sc, sob, rfl, hs, hr⟩
  have HS12 := Lib.hid hs
  have HRS := Lib.hid (show ∀ W : World, W.heap[sb]? = some sob → W.cell? ⟨sb, so, none⟩ = some (.int .i64 1) ∧ W.cell? ⟨sb, so + 1, none⟩ = some (.int .i64 1) from fun W hW => ⟨hr W hW 0 _ rfl, hr W hW 1 _ rfl⟩)
  clear hs hr
  go_wp2_with fail
  refine (end_st HS12.out (by decide) 1).mono ?_
  rintro e w13 ⟨v13, rfl, _, hs⟩
  have hs := (show StQ w qb ((sb, sob) :: (w10.heap.size, .cells #[.int .i64 1, .int .i64 1] 29) :: (pb, pob) :: (rb, rob) :: [(w1.heap.size + 1, .cells #[.int .i64 1, .int .i64 2] 29), (w1.heap.size, .cells #[.int .i64 1, .int .i64 1] 29)]) [⟨1, 1, [11], false⟩] [(1, 1), (1, 2)] [false, false] w13 from hs)
  have HS13 := Lib.hid hs
  have HI := Lib.hid (HF9.out w13 (hs.at (by simp)))
  obtain ⟨r0, r1⟩ := HRR.out w13 (hs.at (by simp))
  obtain ⟨s0, s1⟩ := HRS.out w13 (hs.at (by simp))
  have a0 : w13.cell? ⟨w1.heap.size, 0, none⟩ = some (.int .i64 1) := cell_of_block (hs.at (b := w1.heap.size) (List.mem_of_getElem? (i := 5) rfl)) rfl
  have a1 : w13.cell? ⟨w1.heap.size, 1, none⟩ = some (.int .i64 1) := cell_of_block (hs.at (b := w1.heap.size) (List.mem_of_getElem? (i := 5) rfl)) rfl
  have b0 : w13.cell? ⟨w1.heap.size + 1, 0, none⟩ = some (.int .i64 1) := cell_of_block (hs.at (b := w1.heap.size + 1) (List.mem_of_getElem? (i := 4) rfl)) rfl
  have b1 : w13.cell? ⟨w1.heap.size + 1, 1, none⟩ = some (.int .i64 2) := cell_of_block (hs.at (b := w1.heap.size + 1) (List.mem_of_getElem? (i := 4) rfl)) rfl
  have d0 : w13.cell? ⟨w10.heap.size, 0, none⟩ = some (.int .i64 1) := cell_of_block (hs.at (b := w10.heap.size) (List.mem_of_getElem? (i := 1) rfl)) rfl
  have d1 : w13.cell? ⟨w10.heap.size, 1, none⟩ = some (.int .i64 1) := cell_of_block (hs.at (b := w10.heap.size) (List.mem_of_getElem? (i := 1) rfl)) rfl
  have HAll := Lib.hid (show ∀ W, StQ w qb ((sb, sob) :: (w10.heap.size, .cells #[.int .i64 1, .int .i64 1] 29) :: (pb, pob) :: (rb, rob) :: [(w1.heap.size + 1, .cells #[.int .i64 1, .int .i64 2] 29), (w1.heap.size, .cells #[.int .i64 1, .int .i64 1] 29)]) [⟨1, 1, [11], false⟩] [(1, 1), (1, 2)] [false, false] W → AwS W rb ro sb so w1.heap.size w10.heap.size from fun W hs => by
    obtain ⟨r0, r1⟩ := HRR.out W (hs.at (by simp))
    obtain ⟨s0, s1⟩ := HRS.out W (hs.at (by simp))
    exact ⟨r0, r1, s0, s1, cell_of_block (hs.at (b := w1.heap.size) (List.mem_of_getElem? (i := 5) rfl)) rfl, cell_of_block (hs.at (b := w1.heap.size) (List.mem_of_getElem? (i := 5) rfl)) rfl, cell_of_block (hs.at (b := w1.heap.size + 1) (List.mem_of_getElem? (i := 4) rfl)) rfl, cell_of_block (hs.at (b := w1.heap.size + 1) (List.mem_of_getElem? (i := 4) rfl)) rfl, cell_of_block (hs.at (b := w10.heap.size) (List.mem_of_getElem? (i := 1) rfl)) rfl, cell_of_block (hs.at (b := w10.heap.size) (List.mem_of_getElem? (i := 1) rfl)) rfl⟩)
  have hq0 : StQ w qb ((sb, sob) :: (w10.heap.size, .cells #[.int .i64 1, .int .i64 1] 29) :: (pb, pob) :: (rb, rob) :: [(w1.heap.size + 1, .cells #[.int .i64 1, .int .i64 2] 29), (w1.heap.size, .cells #[.int .i64 1, .int .i64 1] 29)]) [⟨1, 1, [11], false⟩] [(1, 1), (1, 2)] [false, false] w13 := HS13.out
  have HT := Lib.hid (show ∀ W, StQ w qb ((sb, sob) :: (w10.heap.size, .cells #[.int .i64 1, .int .i64 1] 29) :: (pb, pob) :: (rb, rob) :: [(w1.heap.size + 1, .cells #[.int .i64 1, .int .i64 2] 29), (w1.heap.size, .cells #[.int .i64 1, .int .i64 1] 29)]) [⟨1, 1, [11], false⟩] [(1, 1), (1, 2)] [false, false] W → Calls Tryd.prog 23 #[.iface 86 (.pointer (some ⟨pb, 0, none⟩)), .int .i64 302, .string sWorker, .int .i64 1] W fun e w' => e = .returned (.bool true) ∧ StQ w qb ((sb, sob) :: (w10.heap.size, .cells #[.int .i64 1, .int .i64 1] 29) :: (pb, pob) :: (rb, rob) :: [(w1.heap.size + 1, .cells #[.int .i64 1, .int .i64 2] 29), (w1.heap.size, .cells #[.int .i64 1, .int .i64 1] 29)]) [⟨1, 1, [11], false⟩] [(1, 1), (1, 2)] [false, false] w' from fun W hs =>
    (told_F pb 302 302 1 1 sWorker sWorker W (HG.out.below hs.world HG.out.lt) (HF9.out W (hs.at (by simp))) rfl rfl rfl (by rw [ByteArray.toList_eq]; decide)).mono fun e w' ⟨he, hb⟩ => ⟨he, hs.below hb⟩)
  have HL := Lib.hid (show ∀ W, StQ w qb ((sb, sob) :: (w10.heap.size, .cells #[.int .i64 1, .int .i64 1] 29) :: (pb, pob) :: (rb, rob) :: [(w1.heap.size + 1, .cells #[.int .i64 1, .int .i64 2] 29), (w1.heap.size, .cells #[.int .i64 1, .int .i64 1] 29)]) [⟨1, 1, [11], false⟩] [(1, 1), (1, 2)] [false, false] W → Calls Tryd.prog 18 #[.pointer (some ⟨qb, 0, none⟩), .agg #[.int .i64 1, .int .i64 2]] W fun e w' => e = .returned (.int .i64 0) ∧ StQ w qb ((sb, sob) :: (w10.heap.size, .cells #[.int .i64 1, .int .i64 1] 29) :: (pb, pob) :: (rb, rob) :: [(w1.heap.size + 1, .cells #[.int .i64 1, .int .i64 2] 29), (w1.heap.size, .cells #[.int .i64 1, .int .i64 1] 29)]) [⟨1, 1, [11], false⟩] [(1, 1), (1, 2)] [false, false] w' from fun W hs => len_st hs 1 2)
  have HA := Lib.hid (show ∀ W, StQ w qb ((sb, sob) :: (w10.heap.size, .cells #[.int .i64 1, .int .i64 1] 29) :: (pb, pob) :: (rb, rob) :: [(w1.heap.size + 1, .cells #[.int .i64 1, .int .i64 2] 29), (w1.heap.size, .cells #[.int .i64 1, .int .i64 1] 29)]) [⟨1, 1, [11], false⟩] [(1, 1), (1, 2)] [false, false] W → Calls Tryd.prog 14 #[.pointer (some ⟨qb, 0, none⟩)] W fun e w' => e = .returned (.int .i64 1) ∧ StQ w qb ((sb, sob) :: (w10.heap.size, .cells #[.int .i64 1, .int .i64 1] 29) :: (pb, pob) :: (rb, rob) :: [(w1.heap.size + 1, .cells #[.int .i64 1, .int .i64 2] 29), (w1.heap.size, .cells #[.int .i64 1, .int .i64 1] 29)]) [⟨1, 1, [11], false⟩] [(1, 1), (1, 2)] [false, false] w' from fun W hs => all_st hs (by decide))
  rw [show (readyS [⟨1, 1, [10, 11], false⟩, ⟨1, 2, [20], false⟩]).length = 2 from rfl, show (readyS [⟨1, 1, [11], false⟩, ⟨1, 2, [20], true⟩]).length = 1 from rfl]
  clear r0 r1 s0 s1 a0 a1 b0 b1 d0 d1 hs
  obtain ⟨g0, g1, g2, g3, g4, g5, g6, g7, g8, g9⟩ := HAll.out w13 hq0
  go_wp2_with fail
  have HKS := Lib.hid (show ∀ W, StQ w qb ((sb, sob) :: (w10.heap.size, .cells #[.int .i64 1, .int .i64 1] 29) :: (pb, pob) :: (rb, rob) :: [(w1.heap.size + 1, .cells #[.int .i64 1, .int .i64 2] 29), (w1.heap.size, .cells #[.int .i64 1, .int .i64 1] 29)]) [⟨1, 1, [11], false⟩] [(1, 1), (1, 2)] [false, false] W → (fun W => W.cell? ⟨rb, ro, none⟩ = some (.int .i64 1) ∧ W.cell? ⟨rb, ro + 1, none⟩ = some (.int .i64 1) ∧ W.cell? ⟨sb, so, none⟩ = some (.int .i64 1) ∧ W.cell? ⟨sb, so + 1, none⟩ = some (.int .i64 1) ∧ W.cell? ⟨w1.heap.size, 0, none⟩ = some (.int .i64 1) ∧ W.cell? ⟨w1.heap.size, 1, none⟩ = some (.int .i64 1) ∧ W.cell? ⟨w1.heap.size + 1, 0, none⟩ = some (.int .i64 1) ∧ W.cell? ⟨w1.heap.size + 1, 1, none⟩ = some (.int .i64 2) ∧ W.cell? ⟨w10.heap.size, 0, none⟩ = some (.int .i64 1) ∧ W.cell? ⟨w10.heap.size, 1, none⟩ = some (.int .i64 1) ∧ StQ w qb ((sb, sob) :: (w10.heap.size, .cells #[.int .i64 1, .int .i64 1] 29) :: (pb, pob) :: (rb, rob) :: [(w1.heap.size + 1, .cells #[.int .i64 1, .int .i64 2] 29), (w1.heap.size, .cells #[.int .i64 1, .int .i64 1] 29)]) [⟨1, 1, [11], false⟩] [(1, 1), (1, 2)] [false, false] W) W from fun W hs => by
    have g := HAll.out W hs
    exact ⟨g.r0, g.r1, g.s0, g.s1, g.a0, g.a1, g.b0, g.b1, g.d0, g.d1, hs⟩)
  have hqd := hq0.below (Below.refl _ _).drew
  simp only [List.append]
  go_region_held3 (fun W => W.cell? ⟨rb, ro, none⟩ = some (.int .i64 1) ∧ W.cell? ⟨rb, ro + 1, none⟩ = some (.int .i64 1) ∧ W.cell? ⟨sb, so, none⟩ = some (.int .i64 1) ∧ W.cell? ⟨sb, so + 1, none⟩ = some (.int .i64 1) ∧ W.cell? ⟨w1.heap.size, 0, none⟩ = some (.int .i64 1) ∧ W.cell? ⟨w1.heap.size, 1, none⟩ = some (.int .i64 1) ∧ W.cell? ⟨w1.heap.size + 1, 0, none⟩ = some (.int .i64 1) ∧ W.cell? ⟨w1.heap.size + 1, 1, none⟩ = some (.int .i64 2) ∧ W.cell? ⟨w10.heap.size, 0, none⟩ = some (.int .i64 1) ∧ W.cell? ⟨w10.heap.size, 1, none⟩ = some (.int .i64 1) ∧ StQ w qb ((sb, sob) :: (w10.heap.size, .cells #[.int .i64 1, .int .i64 1] 29) :: (pb, pob) :: (rb, rob) :: [(w1.heap.size + 1, .cells #[.int .i64 1, .int .i64 2] 29), (w1.heap.size, .cells #[.int .i64 1, .int .i64 1] 29)]) [⟨1, 1, [11], false⟩] [(1, 1), (1, 2)] [false, false] W) (exact HKS.out _ (by assumption)) (first
    | (go_at_call 23; refine (HT.out _ (by go_split_ands; assumption)).mono ?_; rintro e w14 ⟨rfl, hs14⟩)
    | (go_at_call 18; refine (HL.out _ (by go_split_ands; assumption)).mono ?_; rintro e w15 ⟨rfl, hs15⟩)
    | (go_at_call 14; refine (HA.out _ (by go_split_ands; assumption)).mono ?_; rintro e w16 ⟨rfl, hs16⟩))
  go_wp2
  go_ret
  exact ⟨rfl, StQ.world (qb := qb) (X := ((sb, sob) :: (w10.heap.size, .cells #[.int .i64 1, .int .i64 1] 29) :: (pb, pob) :: (rb, rob) :: [(w1.heap.size + 1, .cells #[.int .i64 1, .int .i64 2] 29), (w1.heap.size, .cells #[.int .i64 1, .int .i64 1] 29)])) (rows := [⟨1, 1, [11], false⟩]) (ws := [(1, 1), (1, 2)]) (bs := [false, false]) (by first | assumption | (go_split_ands; assumption))⟩
end Go.Proofs.YtkbopcgijaejjaaDoor
