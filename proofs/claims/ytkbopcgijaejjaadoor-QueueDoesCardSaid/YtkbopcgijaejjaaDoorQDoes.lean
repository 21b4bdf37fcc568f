/-
  The walk of QueueDoes: it answers true; the conditions: what errors.errorType holds; how long the script is.
  Printed by a program of this repository (wip/qu25.py).
-/
import Derived.Test.YtkbopcgijaejjaaDoorQAlike
import Derived.Test.YtkbopcgijaejjaaDoorQCopy
import Derived.Test.YtkbopcgijaejjaaDoorActs
namespace Go.Proofs.YtkbopcgijaejjaaDoor
open Go.RowKit Go.Extern.Stop Go.Stop Go.Extern

/-- An elder queue beside a copy of it and the model. -/
def St3 (w0 : World) (qb cb mb : Nat) (X : List (Nat × Obj)) (old : List Rw) (ows : List (Int × Int)) (obs : List Bool) (rows : List Rw) (ws : List (Int × Int)) (bs : List Bool) (w : World) : Prop :=
  ∃ F F2 G, Qs w qb F old ows obs ∧ Inv old ows obs ∧ (∀ k, F k → w0.heap.size ≤ k) ∧ Qs w cb F2 rows ws bs ∧ Ms w mb G rows ws bs ∧ Inv rows ws bs ∧ (∀ k, F2 k → w0.heap.size ≤ k ∧ ¬ F k) ∧ (∀ k, G k → w0.heap.size ≤ k ∧ ¬ F k ∧ ¬ F2 k) ∧ Below w0.heap.size w0 w ∧ ∀ x ∈ X, ¬ F x.1 ∧ ¬ F2 x.1 ∧ ¬ G x.1 ∧ w.heap[x.1]? = some x.2
section
variable {w0 w w' : World} {qb cb mb : Nat} {X : List (Nat × Obj)} {old rows : List Rw} {ows ws : List (Int × Int)} {obs bs : List Bool}
theorem St3.at (h : St3 w0 qb cb mb X old ows obs rows ws bs w) {b : Nat} {ob : Obj} (hx : (b, ob) ∈ X) : w.heap[b]? = some ob := by obtain ⟨_, _, _, _, _, _, _, _, _, _, _, _, h⟩ := h; exact (h _ hx).2.2.2
theorem St3.fin (h : St3 w0 qb cb mb X old ows obs rows ws bs w) : StC w0 cb mb X rows ws bs rows ws bs w := by
  obtain ⟨F, F2, G, h1, h2, h3, h4, h5, h6, h7, h8, h9, h10⟩ := h
  exact ⟨F2, G, h4, h5, h6, h6, fun k hk => (h7 k hk).1, fun k hk => ⟨(h8 k hk).1, (h8 k hk).2.2⟩, h9, fun x hx => ⟨(h10 x hx).2.1, (h10 x hx).2.2.1, (h10 x hx).2.2.2⟩⟩
theorem St3.below (h : St3 w0 qb cb mb X old ows obs rows ws bs w) (hb : Below w.heap.size w w') : St3 w0 qb cb mb X old ows obs rows ws bs w' := by
  obtain ⟨F, F2, G, h1, h2, h3, h4, h5, h6, h7, h8, h9, h10⟩ := h
  exact ⟨F, F2, G, h1.below hb, h2, h3, h4.below hb, h5.below hb, h6, h7, h8, h9.trans (hb.mono h9.size), fun x hx => ⟨(h10 x hx).1, (h10 x hx).2.1, (h10 x hx).2.2.1, (hb.block _ (lt_of_block (h10 x hx).2.2.2)).trans (h10 x hx).2.2.2⟩⟩
theorem St3.step {F F2 G : Nat → Prop} {R' : List Rw} {W' : List (Int × Int)} {B' : List Bool} (h3 : ∀ k, F k → w0.heap.size ≤ k) (h4 : Qs w cb F2 rows ws bs) (h5 : Ms w mb G rows ws bs) (h6 : Inv rows ws bs) (h7 : ∀ k, F2 k → w0.heap.size ≤ k ∧ ¬ F k) (h8 : ∀ k, G k → w0.heap.size ≤ k ∧ ¬ F k ∧ ¬ F2 k) (h9 : Below w0.heap.size w0 w) (h10 : ∀ x ∈ X, ¬ F x.1 ∧ ¬ F2 x.1 ∧ ¬ G x.1 ∧ w.heap[x.1]? = some x.2)
    (hq : QB w qb F R' W' B' w') (hi : Inv R' W' B') : St3 w0 qb cb mb X R' W' B' rows ws bs w' := by
  obtain ⟨F', g1, g2, g3⟩ := hq.out
  have hz := h9.size
  refine ⟨F', F2, G, g1, hi, fun k hk => ?_, h4.keeps g3 fun k hk => (h7 k hk).2, h5.keeps g3 fun k hk => (h8 k hk).2.1, h6, fun k hk => ⟨(h7 k hk).1, fun hF => ?_⟩, fun k hk => ⟨(h8 k hk).1, fun hF => ?_, (h8 k hk).2.2⟩, h9.trans (g3.below hz h3), fun x hx => ⟨fun hF => ?_, (h10 x hx).2.1, (h10 x hx).2.2.1, (g3.block _ (lt_of_block (h10 x hx).2.2.2) (h10 x hx).1).trans (h10 x hx).2.2.2⟩⟩
  · rcases g2 k hk with h | h
    · exact h3 k h
    · omega
  · rcases g2 _ hF with h | h
    · exact (h7 k hk).2 h
    · have := h4.lt k hk; omega
  · rcases g2 _ hF with h | h
    · exact (h8 k hk).2.1 h
    · have := h5.lt k hk; omega
  · rcases g2 _ hF with h | h
    · exact (h10 x hx).1 h
    · have := lt_of_block (h10 x hx).2.2.2; omega
theorem copy_3 (h : StC w0 qb mb X rows ws bs rows ws bs w) (hl : allR rows ≤ 4398046511104) (hw : ws.length ≤ 64) :
    Calls Tryd.prog 19 #[.pointer (some ⟨qb, 0, none⟩)] w fun e w' => ∃ cb, e = .returned (.pointer (some ⟨cb, 0, none⟩)) ∧ St3 w0 qb cb mb X rows ws bs rows ws bs w' := by
  obtain ⟨F, G, ⟨RS, hR, hq⟩, hm, hi, _, h5, h6, h7, h8⟩ := h
  subst hR
  have hlen := len_le_all hi.jobs
  have hl2 := hi.len
  refine (copy_any qb F RS ws bs w hq (by rw [allN_of]; omega) (by simp only [rowsOf, List.length_map] at hlen; unfold rowsOf at hl; omega) hw (by omega)).mono ?_
  rintro e w' ⟨cb, F2, rfl, hq2, hF2, hb⟩
  have hq0 : Qs w qb F (rowsOf RS) ws bs := ⟨RS, rfl, hq⟩
  have hz := h7.size
  refine ⟨cb, rfl, F, F2, G, hq0.below hb, hi, h5, hq2, hm.below hb, hi, fun k hk => ⟨Nat.le_trans hz (hF2 k hk), fun hF => by have := hq0.lt k hF; have := hF2 k hk; omega⟩, fun k hk => ⟨(h6 k hk).1, (h6 k hk).2, fun hF => by have := hm.lt k hk; have := hF2 k hF; omega⟩, h7.trans (hb.mono hz), fun x hx => ⟨(h8 x hx).1, fun hF => ?_, (h8 x hx).2.1, (hb.block _ (lt_of_block (h8 x hx).2.2)).trans (h8 x hx).2.2⟩⟩
  have := lt_of_block (h8 x hx).2.2
  have := hF2 _ hF
  omega
theorem put_3 (h : St3 w0 qb cb mb X old ows obs rows ws bs w) (hl : allR old ≤ 4398046511104) (t s job : Int) :
    Calls Tryd.prog 10 #[.pointer (some ⟨qb, 0, none⟩), .agg #[.int .i64 t, .int .i64 s], .int .i64 job] w fun e w' => (∃ v, e = .returned v) ∧ St3 w0 qb cb mb X (putS old t s job) ows obs rows ws bs w' := by
  obtain ⟨F, F2, G, h1, h2, h3, h4, h5, h6, h7, h8, h9, h10⟩ := h
  exact (put_q h1 h2 hl t s job).mono fun e w' ⟨he, hq⟩ => ⟨he, St3.step h3 h4 h5 h6 h7 h8 h9 h10 hq (h2.put t s job)⟩
theorem begin_3 (h : St3 w0 qb cb mb X old ows obs rows ws bs w) (hl : allR old ≤ 4398046511104) (n p : Int) :
    Calls Tryd.prog 11 #[.pointer (some ⟨qb, 0, none⟩), .int .i64 n, .int .i64 p] w fun e w' => ∃ j v, e = .returned (.tuple #[.int .i64 j, v]) ∧ ∃ R' W' B', St3 w0 qb cb mb X R' W' B' rows ws bs w' ∧ allR R' ≤ allR old := by
  obtain ⟨F, F2, G, h1, h2, h3, h4, h5, h6, h7, h8, h9, h10⟩ := h
  exact (begin_q h1 h2 hl n p).mono fun e w' ⟨v, he, _, hq⟩ => ⟨_, v, he, _, _, _, St3.step h3 h4 h5 h6 h7 h8 h9 h10 hq (h2.begin hl n p), by rw [allR_begin]; exact Nat.le_refl _⟩
theorem end_3 (h : St3 w0 qb cb mb X old ows obs rows ws bs w) (hl : allR old ≤ 4398046511104) (n : Int) :
    Calls Tryd.prog 12 #[.pointer (some ⟨qb, 0, none⟩), .int .i64 n] w fun e w' => ∃ kt ks j v, e = .returned (.tuple #[.agg #[.int .i64 kt, .int .i64 ks], .int .i64 j, v]) ∧ ∃ R' W' B', St3 w0 qb cb mb X R' W' B' rows ws bs w' ∧ allR R' ≤ allR old := by
  obtain ⟨F, F2, G, h1, h2, h3, h4, h5, h6, h7, h8, h9, h10⟩ := h
  exact (end_q h1 h2 hl n).mono fun e w' ⟨v, he, _, hq⟩ => ⟨_, _, _, v, he, _, _, _, St3.step h3 h4 h5 h6 h7 h8 h9 h10 hq (h2.ends n), allR_end_le h2 n⟩
end
def QdRel (w : World) (mb m n : Nat) (qv iv : Value) (wr : World) : Prop :=
  ∃ (k qb : Nat) (rows : List Rw) (ws : List (Int × Int)) (bs : List Bool), k ≤ n ∧ iv = .int .i64 k ∧ qv = .pointer (some ⟨qb, 0, none⟩) ∧ StC w qb mb [] rows ws bs rows ws bs wr ∧ allR rows ≤ k ∧ ws.length = m


set_option maxRecDepth 100000 in
set_option maxHeartbeats 8000000 in
theorem queueDoes_slices (n : Int) (a1 : Option Addr) (c1 : Nat) (xs : List Ac) (w : World) (hg : Hg w) (h0 : 0 ≤ n) (h1 : n ≤ 255) (hx : Acts w (.slice a1 xs.length c1) xs) (hsz : xs.length * 48 ≤ 140737488351232) :
    Calls Tryd.prog 5 #[.int .u8 n, .slice a1 xs.length c1] w (Yes w) := by
  have HAW := Lib.hid (awake_any w hg)
  have HX := Lib.hid hx
  have HG := Lib.hid hg
  have HN0 := Lib.hid h0
  have HN1 := Lib.hid h1
  have hlen := hx.1.lenI
  obtain ⟨hm1, hm6⟩ := nW_le n
  clear hx hg h0 h1
  go_enter Tryd.func5, Tryd.ntmps5
  go_wp2_with fail
  refine HAW.out.mono ?_
  rintro e w1 ⟨rfl, hb1⟩
  have HB1 := Lib.hid hb1
  clear hb1
  go_wp2_with fail
  refine (both_any n w1 HN0.out HN1.out).mono ?_
  rintro e w2 ⟨qb0, mb, F, G, rfl, hq, hm, hF, hG, hb2⟩
  have HS0 := Lib.hid (StC.new HB1.out hq hm hF hG hb2)
  obtain ⟨m, hme⟩ : ∃ m, m = nW n := ⟨_, rfl⟩
  rw [← hme] at HS0 hm1 hm6
  clear hq hm hF hG hb2 hme
  go_wp2_with fail
  go_loopw [5, 7] (fun qv iv wr => QdRel w mb m xs.length qv iv wr) (fun _ iv _ => xs.length - (intOf iv).toNat)
  case atStart => exact ⟨0, qb0, [], _, _, Nat.zero_le _, rfl, rfl, HS0.out, Nat.le_refl _, by simp⟩
  case round =>
    obtain ⟨k, qb, rows, ws, bs, hk, rfl, rfl, hst, hak, hwl⟩ := hrel
    by_cases hlt : k < xs.length
    · obtain ⟨⟨b, o, rfl, k0, k1, k2, k3, k4, k5⟩, hok⟩ := HX.out.get hst.world k hlt
      have i0 : (0 : Int) ≤ (k : Int) := by omega
      have i1 : (k : Int) < (xs.length : Int) := by omega
      clear hok
      generalize xs[k] = X at *
      obtain ⟨d, t, s, j, u, p⟩ := X
      simp only at k0 k1 k2 k3 k4 k5
      have hal : allR rows ≤ 4398046511104 := by omega
      have hal2 : allR rows + 1 ≤ 4398046511104 := by omega
      have HWL := Lib.hid hwl
      by_cases hd : d = 4
      · subst hd
        have hst1 := hst.guard (b := wr.heap.size) (ob := (.cells #[.int .i64 4, .int .i64 t, .int .i64 s, .int .i64 j, .int .i64 u, .int .i64 p] 31)) ((Below.refl _ _).alloc (Nat.le_refl _) (.cells #[.int .i64 4, .int .i64 t, .int .i64 s, .int .i64 j, .int .i64 u, .int .i64 p] 31)) (Nat.le_refl _) (heap_alloc_new wr _)
        have HCP := Lib.hid (copy_3 hst1 hal (by omega))
        have HWL2 : ws.length ≤ 64 := by omega
        clear hst hst1 hwl
        go_wp2_with fail
        refine HCP.out.mono ?_
        rintro e w3 ⟨cb, rfl, hs3⟩
        have HS3 := Lib.hid hs3
        have x0 : w3.cell? ⟨wr.heap.size, 0, none⟩ = some (.int .i64 4) := cell_of_block (hs3.at (b := wr.heap.size) (List.mem_of_getElem? (i := 0) rfl)) rfl
        have x1 : w3.cell? ⟨wr.heap.size, 1, none⟩ = some (.int .i64 t) := cell_of_block (hs3.at (b := wr.heap.size) (List.mem_of_getElem? (i := 0) rfl)) rfl
        have x2 : w3.cell? ⟨wr.heap.size, 2, none⟩ = some (.int .i64 s) := cell_of_block (hs3.at (b := wr.heap.size) (List.mem_of_getElem? (i := 0) rfl)) rfl
        have x3 : w3.cell? ⟨wr.heap.size, 3, none⟩ = some (.int .i64 j) := cell_of_block (hs3.at (b := wr.heap.size) (List.mem_of_getElem? (i := 0) rfl)) rfl
        have x4 : w3.cell? ⟨wr.heap.size, 4, none⟩ = some (.int .i64 u) := cell_of_block (hs3.at (b := wr.heap.size) (List.mem_of_getElem? (i := 0) rfl)) rfl
        have x5 : w3.cell? ⟨wr.heap.size, 5, none⟩ = some (.int .i64 p) := cell_of_block (hs3.at (b := wr.heap.size) (List.mem_of_getElem? (i := 0) rfl)) rfl
        clear hs3
        go_wp2_with fail
        refine (put_3 HS3.out hal t s 77).mono ?_
        rintro e w4 ⟨⟨v4, rfl⟩, hs4⟩
        have hal4 : allR (putS rows t s 77) ≤ 4398046511104 := by rw [allR_put]; exact hal2
        generalize putS rows t s 77 = r4 at *
        have HS4 := Lib.hid hs4
        have x0 : w4.cell? ⟨wr.heap.size, 0, none⟩ = some (.int .i64 4) := cell_of_block (hs4.at (b := wr.heap.size) (List.mem_of_getElem? (i := 0) rfl)) rfl
        have x1 : w4.cell? ⟨wr.heap.size, 1, none⟩ = some (.int .i64 t) := cell_of_block (hs4.at (b := wr.heap.size) (List.mem_of_getElem? (i := 0) rfl)) rfl
        have x2 : w4.cell? ⟨wr.heap.size, 2, none⟩ = some (.int .i64 s) := cell_of_block (hs4.at (b := wr.heap.size) (List.mem_of_getElem? (i := 0) rfl)) rfl
        have x3 : w4.cell? ⟨wr.heap.size, 3, none⟩ = some (.int .i64 j) := cell_of_block (hs4.at (b := wr.heap.size) (List.mem_of_getElem? (i := 0) rfl)) rfl
        have x4 : w4.cell? ⟨wr.heap.size, 4, none⟩ = some (.int .i64 u) := cell_of_block (hs4.at (b := wr.heap.size) (List.mem_of_getElem? (i := 0) rfl)) rfl
        have x5 : w4.cell? ⟨wr.heap.size, 5, none⟩ = some (.int .i64 p) := cell_of_block (hs4.at (b := wr.heap.size) (List.mem_of_getElem? (i := 0) rfl)) rfl
        clear hs4
        go_wp2_with fail
        refine (begin_3 HS4.out hal4 0 0).mono ?_
        rintro e w5 ⟨j5, v5, rfl, r5, ws5, bs5, hs5, ha5⟩
        have HS5 := Lib.hid hs5
        have x0 : w5.cell? ⟨wr.heap.size, 0, none⟩ = some (.int .i64 4) := cell_of_block (hs5.at (b := wr.heap.size) (List.mem_of_getElem? (i := 0) rfl)) rfl
        have x1 : w5.cell? ⟨wr.heap.size, 1, none⟩ = some (.int .i64 t) := cell_of_block (hs5.at (b := wr.heap.size) (List.mem_of_getElem? (i := 0) rfl)) rfl
        have x2 : w5.cell? ⟨wr.heap.size, 2, none⟩ = some (.int .i64 s) := cell_of_block (hs5.at (b := wr.heap.size) (List.mem_of_getElem? (i := 0) rfl)) rfl
        have x3 : w5.cell? ⟨wr.heap.size, 3, none⟩ = some (.int .i64 j) := cell_of_block (hs5.at (b := wr.heap.size) (List.mem_of_getElem? (i := 0) rfl)) rfl
        have x4 : w5.cell? ⟨wr.heap.size, 4, none⟩ = some (.int .i64 u) := cell_of_block (hs5.at (b := wr.heap.size) (List.mem_of_getElem? (i := 0) rfl)) rfl
        have x5 : w5.cell? ⟨wr.heap.size, 5, none⟩ = some (.int .i64 p) := cell_of_block (hs5.at (b := wr.heap.size) (List.mem_of_getElem? (i := 0) rfl)) rfl
        clear hs5
        go_wp2_with fail
        refine (end_3 HS5.out (by omega) 0).mono ?_
        rintro e w6 ⟨kt6, ks6, j6, v6, rfl, r6, ws6, bs6, hs6, ha6⟩
        have HS6 := Lib.hid hs6
        have x0 : w6.cell? ⟨wr.heap.size, 0, none⟩ = some (.int .i64 4) := cell_of_block (hs6.at (b := wr.heap.size) (List.mem_of_getElem? (i := 0) rfl)) rfl
        have x1 : w6.cell? ⟨wr.heap.size, 1, none⟩ = some (.int .i64 t) := cell_of_block (hs6.at (b := wr.heap.size) (List.mem_of_getElem? (i := 0) rfl)) rfl
        have x2 : w6.cell? ⟨wr.heap.size, 2, none⟩ = some (.int .i64 s) := cell_of_block (hs6.at (b := wr.heap.size) (List.mem_of_getElem? (i := 0) rfl)) rfl
        have x3 : w6.cell? ⟨wr.heap.size, 3, none⟩ = some (.int .i64 j) := cell_of_block (hs6.at (b := wr.heap.size) (List.mem_of_getElem? (i := 0) rfl)) rfl
        have x4 : w6.cell? ⟨wr.heap.size, 4, none⟩ = some (.int .i64 u) := cell_of_block (hs6.at (b := wr.heap.size) (List.mem_of_getElem? (i := 0) rfl)) rfl
        have x5 : w6.cell? ⟨wr.heap.size, 5, none⟩ = some (.int .i64 p) := cell_of_block (hs6.at (b := wr.heap.size) (List.mem_of_getElem? (i := 0) rfl)) rfl
        clear hs6
        go_wp2_with fail
        refine (end_3 HS6.out (by omega) u).mono ?_
        rintro e w9 ⟨kt9, ks9, j9, v9, rfl, r9, ws9, bs9, hs9, ha9⟩
        have HS9 := Lib.hid hs9.fin
        have x0 : w9.cell? ⟨wr.heap.size, 0, none⟩ = some (.int .i64 4) := cell_of_block (hs9.at (b := wr.heap.size) (List.mem_of_getElem? (i := 0) rfl)) rfl
        have x1 : w9.cell? ⟨wr.heap.size, 1, none⟩ = some (.int .i64 t) := cell_of_block (hs9.at (b := wr.heap.size) (List.mem_of_getElem? (i := 0) rfl)) rfl
        have x2 : w9.cell? ⟨wr.heap.size, 2, none⟩ = some (.int .i64 s) := cell_of_block (hs9.at (b := wr.heap.size) (List.mem_of_getElem? (i := 0) rfl)) rfl
        have x3 : w9.cell? ⟨wr.heap.size, 3, none⟩ = some (.int .i64 j) := cell_of_block (hs9.at (b := wr.heap.size) (List.mem_of_getElem? (i := 0) rfl)) rfl
        have x4 : w9.cell? ⟨wr.heap.size, 4, none⟩ = some (.int .i64 u) := cell_of_block (hs9.at (b := wr.heap.size) (List.mem_of_getElem? (i := 0) rfl)) rfl
        have x5 : w9.cell? ⟨wr.heap.size, 5, none⟩ = some (.int .i64 p) := cell_of_block (hs9.at (b := wr.heap.size) (List.mem_of_getElem? (i := 0) rfl)) rfl
        clear hs9
        have HDO := Lib.hid (does_any w cb mb [(wr.heap.size, (.cells #[.int .i64 4, .int .i64 t, .int .i64 s, .int .i64 j, .int .i64 u, .int .i64 p] 31))] rows ws bs 4 t s j u p _ HG.out HS9.out hal)
        go_wp2_with fail
        refine HDO.out.mono ?_
        rintro e w7 ⟨rfl, rows', ws', bs', hs7, ha7, hl7⟩
        have hlb7 : bs'.length ≤ 64 := by have h1 := hs7.inv.1.len; have h2 := HWL.out; omega
        have HAL := Lib.hid (alike_any w cb mb _ rows' ws' bs' t s w7 hs7 (by omega) hlb7)
        have HS7 := Lib.hid hs7
        have x0 : w7.cell? ⟨wr.heap.size, 0, none⟩ = some (.int .i64 4) := cell_of_block (hs7.at (b := wr.heap.size) (List.mem_of_getElem? (i := 0) rfl)) rfl
        have x1 : w7.cell? ⟨wr.heap.size, 1, none⟩ = some (.int .i64 t) := cell_of_block (hs7.at (b := wr.heap.size) (List.mem_of_getElem? (i := 0) rfl)) rfl
        have x2 : w7.cell? ⟨wr.heap.size, 2, none⟩ = some (.int .i64 s) := cell_of_block (hs7.at (b := wr.heap.size) (List.mem_of_getElem? (i := 0) rfl)) rfl
        have x3 : w7.cell? ⟨wr.heap.size, 3, none⟩ = some (.int .i64 j) := cell_of_block (hs7.at (b := wr.heap.size) (List.mem_of_getElem? (i := 0) rfl)) rfl
        have x4 : w7.cell? ⟨wr.heap.size, 4, none⟩ = some (.int .i64 u) := cell_of_block (hs7.at (b := wr.heap.size) (List.mem_of_getElem? (i := 0) rfl)) rfl
        have x5 : w7.cell? ⟨wr.heap.size, 5, none⟩ = some (.int .i64 p) := cell_of_block (hs7.at (b := wr.heap.size) (List.mem_of_getElem? (i := 0) rfl)) rfl
        have HL7 := Lib.hid hl7
        clear hs7 hl7
        go_wp2_with fail
        refine HAL.out.mono ?_
        rintro e w8 ⟨rfl, hb8⟩
        have HS8 := Lib.hid (HS7.out.below hb8)
        clear hb8
        go_wp2
        go_roundw
        case rel => exact ⟨k + 1, cb, rows', ws', bs', by omega, by go_num, rfl, HS8.out.less (fun x hx => by cases hx), by omega, HL7.out.trans HWL.out⟩
        case measure => simp [intOf]; omega
      · have hd4 : (d == 4) = false := beq_eq_false_iff_ne.2 hd
        have hst1 := hst.guard (b := wr.heap.size) (ob := (.cells #[.int .i64 d, .int .i64 t, .int .i64 s, .int .i64 j, .int .i64 u, .int .i64 p] 31)) ((Below.refl _ _).alloc (Nat.le_refl _) (.cells #[.int .i64 d, .int .i64 t, .int .i64 s, .int .i64 j, .int .i64 u, .int .i64 p] 31)) (Nat.le_refl _) (heap_alloc_new wr _)
        have HS9 := Lib.hid hst1
        clear hst hst1 hd hwl
        have HDO := Lib.hid (does_any w qb mb [(wr.heap.size, (.cells #[.int .i64 d, .int .i64 t, .int .i64 s, .int .i64 j, .int .i64 u, .int .i64 p] 31))] rows ws bs d t s j u p _ HG.out HS9.out hal)
        go_wp2_with fail
        refine HDO.out.mono ?_
        rintro e w7 ⟨rfl, rows', ws', bs', hs7, ha7, hl7⟩
        have hlb7 : bs'.length ≤ 64 := by have h1 := hs7.inv.1.len; have h2 := HWL.out; omega
        have HAL := Lib.hid (alike_any w qb mb _ rows' ws' bs' t s w7 hs7 (by omega) hlb7)
        have HS7 := Lib.hid hs7
        have x0 : w7.cell? ⟨wr.heap.size, 0, none⟩ = some (.int .i64 d) := cell_of_block (hs7.at (b := wr.heap.size) (List.mem_of_getElem? (i := 0) rfl)) rfl
        have x1 : w7.cell? ⟨wr.heap.size, 1, none⟩ = some (.int .i64 t) := cell_of_block (hs7.at (b := wr.heap.size) (List.mem_of_getElem? (i := 0) rfl)) rfl
        have x2 : w7.cell? ⟨wr.heap.size, 2, none⟩ = some (.int .i64 s) := cell_of_block (hs7.at (b := wr.heap.size) (List.mem_of_getElem? (i := 0) rfl)) rfl
        have x3 : w7.cell? ⟨wr.heap.size, 3, none⟩ = some (.int .i64 j) := cell_of_block (hs7.at (b := wr.heap.size) (List.mem_of_getElem? (i := 0) rfl)) rfl
        have x4 : w7.cell? ⟨wr.heap.size, 4, none⟩ = some (.int .i64 u) := cell_of_block (hs7.at (b := wr.heap.size) (List.mem_of_getElem? (i := 0) rfl)) rfl
        have x5 : w7.cell? ⟨wr.heap.size, 5, none⟩ = some (.int .i64 p) := cell_of_block (hs7.at (b := wr.heap.size) (List.mem_of_getElem? (i := 0) rfl)) rfl
        have HL7 := Lib.hid hl7
        clear hs7 hl7
        go_wp2_with fail
        refine HAL.out.mono ?_
        rintro e w8 ⟨rfl, hb8⟩
        have HS8 := Lib.hid (HS7.out.below hb8)
        clear hb8
        go_wp2
        go_roundw
        case rel => exact ⟨k + 1, qb, rows', ws', bs', by omega, by go_num, rfl, HS8.out.less (fun x hx => by cases hx), by omega, HL7.out.trans HWL.out⟩
        case measure => simp [intOf]; omega
    · have HW := Lib.hid hst.world
      have hge : ¬ (k : Int) < (xs.length : Int) := by omega
      clear hst hwl
      go_wp2
      go_ret
      exact ⟨rfl, HW.out⟩
theorem queueDoes_any (n : Int) (v : Value) (xs : List Ac) (w : World) (hg : Hg w) (h0 : 0 ≤ n) (h1 : n ≤ 255) (hx : Acts w v xs) (hsz : xs.length * 48 ≤ 140737488351232) : Calls Tryd.prog 5 #[.int .u8 n, v] w (Yes w) := by
  obtain ⟨a1, c1, rfl, _⟩ := Sl.len hx.1
  exact queueDoes_slices n a1 c1 xs w hg h0 h1 hx hsz
end Go.Proofs.YtkbopcgijaejjaaDoor
