/-
  A queue and its model, act by act; the conditions: how many jobs there are.
  Printed by a program of this repository (wip/qu20.py).
-/
import Derived.Test.YtkbopcgijaejjaaDoorMEnd
namespace Go.Proofs.YtkbopcgijaejjaaDoor
open Go.RowKit Go.Extern.Stop Go.Stop Go.Extern

def Ms (w : World) (mb : Nat) (G : Nat → Prop) (rows : List Rw) (ws : List (Int × Int)) (bs : List Bool) : Prop := ∃ RS, rowsOf RS = rows ∧ MS w mb G RS ws bs
/-- A queue and a model of this call's own; some blocks stay as they are. -/
def StC (w0 : World) (qb mb : Nat) (X : List (Nat × Obj)) (rows : List Rw) (ws : List (Int × Int)) (bs : List Bool) (rows2 : List Rw) (ws2 : List (Int × Int)) (bs2 : List Bool) (w : World) : Prop :=
  ∃ F G, Qs w qb F rows ws bs ∧ Ms w mb G rows2 ws2 bs2 ∧ Inv rows ws bs ∧ Inv rows2 ws2 bs2 ∧ (∀ k, F k → w0.heap.size ≤ k) ∧ (∀ k, G k → w0.heap.size ≤ k ∧ ¬ F k) ∧ Below w0.heap.size w0 w ∧ ∀ x ∈ X, ¬ F x.1 ∧ ¬ G x.1 ∧ w.heap[x.1]? = some x.2
section
variable {w0 w w' : World} {qb mb : Nat} {X : List (Nat × Obj)} {rows : List Rw} {ws : List (Int × Int)} {bs : List Bool} {rows2 : List Rw} {ws2 : List (Int × Int)} {bs2 : List Bool}
theorem StC.world (h : StC w0 qb mb X rows ws bs rows2 ws2 bs2 w) : Below w0.heap.size w0 w := by obtain ⟨_, _, _, _, _, _, _, _, h, _⟩ := h; exact h
theorem StC.inv (h : StC w0 qb mb X rows ws bs rows2 ws2 bs2 w) : Inv rows ws bs ∧ Inv rows2 ws2 bs2 := by obtain ⟨_, _, _, _, h1, h2, _⟩ := h; exact ⟨h1, h2⟩
theorem StC.at (h : StC w0 qb mb X rows ws bs rows2 ws2 bs2 w) {b : Nat} {ob : Obj} (hx : (b, ob) ∈ X) : w.heap[b]? = some ob := by obtain ⟨_, _, _, _, _, _, _, _, _, h⟩ := h; exact (h _ hx).2.2
theorem StC.less (h : StC w0 qb mb X rows ws bs rows2 ws2 bs2 w) {Y : List (Nat × Obj)} (hy : ∀ x, x ∈ Y → x ∈ X) : StC w0 qb mb Y rows ws bs rows2 ws2 bs2 w := by
  obtain ⟨F, G, h1, h2, h3, h4, h5, h6, h7, h8⟩ := h; exact ⟨F, G, h1, h2, h3, h4, h5, h6, h7, fun x hx => h8 x (hy x hx)⟩
theorem Ms.below {G : Nat → Prop} (h : Ms w mb G rows ws bs) (hb : Below w.heap.size w w') : Ms w' mb G rows ws bs := by obtain ⟨RS, e, h⟩ := h; exact ⟨RS, e, h.below hb⟩
theorem Ms.keeps {G S : Nat → Prop} (h : Ms w mb G rows ws bs) (hk : Keeps w w' S) (hs : ∀ k, G k → ¬ S k) : Ms w' mb G rows ws bs := by obtain ⟨RS, e, h⟩ := h; exact ⟨RS, e, h.keeps hk hs⟩
theorem Ms.lt {G : Nat → Prop} (h : Ms w mb G rows ws bs) : ∀ k, G k → k < w.heap.size := by obtain ⟨RS, e, h⟩ := h; exact h.lt
theorem StC.below (h : StC w0 qb mb X rows ws bs rows2 ws2 bs2 w) (hb : Below w.heap.size w w') : StC w0 qb mb X rows ws bs rows2 ws2 bs2 w' := by
  obtain ⟨F, G, h1, h2, h3, h4, h5, h6, h7, h8⟩ := h
  exact ⟨F, G, h1.below hb, h2.below hb, h3, h4, h5, h6, h7.trans (hb.mono h7.size), fun x hx => ⟨(h8 x hx).1, (h8 x hx).2.1, (hb.block _ (lt_of_block (h8 x hx).2.2)).trans (h8 x hx).2.2⟩⟩
theorem StC.guard (h : StC w0 qb mb X rows ws bs rows2 ws2 bs2 w) (hb : Below w.heap.size w w') {b : Nat} {ob : Obj} (hlt : w.heap.size ≤ b) (hob : w'.heap[b]? = some ob) : StC w0 qb mb ((b, ob) :: X) rows ws bs rows2 ws2 bs2 w' := by
  obtain ⟨F, G, h1, h2, h3, h4, h5, h6, h7, h8⟩ := h
  refine ⟨F, G, h1.below hb, h2.below hb, h3, h4, h5, h6, h7.trans (hb.mono h7.size), fun x hx => ?_⟩
  rcases List.mem_cons.1 hx with rfl | hx
  · exact ⟨fun hF => by have := h1.lt _ hF; simp only at this; omega, fun hF => by have := h2.lt _ hF; simp only at this; omega, hob⟩
  · exact ⟨(h8 x hx).1, (h8 x hx).2.1, (hb.block _ (lt_of_block (h8 x hx).2.2)).trans (h8 x hx).2.2⟩
theorem StC.stepQ {R' : List Rw} {W' : List (Int × Int)} {B' : List Bool} {F G : Nat → Prop} (h2 : Ms w mb G rows2 ws2 bs2) (h4 : Inv rows2 ws2 bs2) (h5 : ∀ k, F k → w0.heap.size ≤ k) (h6 : ∀ k, G k → w0.heap.size ≤ k ∧ ¬ F k) (h7 : Below w0.heap.size w0 w) (h8 : ∀ x ∈ X, ¬ F x.1 ∧ ¬ G x.1 ∧ w.heap[x.1]? = some x.2) (hq : QB w qb F R' W' B' w') (hi : Inv R' W' B') : StC w0 qb mb X R' W' B' rows2 ws2 bs2 w' := by
  obtain ⟨F', g1, g2, g3⟩ := hq.out
  have hz := h7.size
  refine ⟨F', G, g1, h2.keeps g3 fun k hk => (h6 k hk).2, hi, h4, fun k hk => ?_, fun k hk => ⟨(h6 k hk).1, fun hF => ?_⟩, h7.trans (g3.below hz h5), fun x hx => ⟨fun hF => ?_, (h8 x hx).2.1, (g3.block _ (lt_of_block (h8 x hx).2.2) (h8 x hx).1).trans (h8 x hx).2.2⟩⟩
  · rcases g2 k hk with h | h
    · exact h5 k h
    · omega
  · rcases g2 _ hF with h | h
    · exact (h6 k hk).2 h
    · have := h2.lt k hk; omega
  · rcases g2 _ hF with h | h
    · exact (h8 x hx).1 h
    · have := lt_of_block (h8 x hx).2.2; omega
theorem StC.stepM {R' : List Rw} {W' : List (Int × Int)} {B' : List Bool} {F G : Nat → Prop} (h1 : Qs w qb F rows ws bs) (h3 : Inv rows ws bs) (h5 : ∀ k, F k → w0.heap.size ≤ k) (h6 : ∀ k, G k → w0.heap.size ≤ k ∧ ¬ F k) (h7 : Below w0.heap.size w0 w) (h8 : ∀ x ∈ X, ¬ F x.1 ∧ ¬ G x.1 ∧ w.heap[x.1]? = some x.2) (hm : ∃ RX, rowsOf RX = R' ∧ MA w mb G RX W' B' w') (hi : Inv R' W' B') : StC w0 qb mb X rows ws bs R' W' B' w' := by
  obtain ⟨RX, e, G', g1, g2, g3⟩ := hm
  have hz := h7.size
  refine ⟨F, G', h1.keeps g3 fun k hk hG => (h6 k hG).2 hk, ⟨RX, e, g1⟩, h3, hi, h5, fun k hk => ?_, h7.trans (g3.below hz fun k hk => (h6 k hk).1), fun x hx => ⟨(h8 x hx).1, fun hF => ?_, (g3.block _ (lt_of_block (h8 x hx).2.2) (h8 x hx).2.1).trans (h8 x hx).2.2⟩⟩
  · rcases g2 k hk with h | h
    · exact h6 k h
    · exact ⟨by omega, fun hF => by have := h1.lt k hF; omega⟩
  · rcases g2 _ hF with h | h
    · exact (h8 x hx).2.1 h
    · have := lt_of_block (h8 x hx).2.2; omega
theorem StC.new {m : Nat} {F G : Nat → Prop} {w1 : World} (h1 : Below w0.heap.size w0 w1) (hq : QS w qb F [] (List.replicate m (0, 0)) (List.replicate m false)) (hm : MS w mb G [] (List.replicate m (0, 0)) (List.replicate m false)) (hF : ∀ k, F k → w1.heap.size ≤ k) (hG : ∀ k, G k → w1.heap.size ≤ k ∧ ¬ F k) (hb : Below w1.heap.size w1 w) :
    StC w0 qb mb [] [] (List.replicate m (0, 0)) (List.replicate m false) [] (List.replicate m (0, 0)) (List.replicate m false) w :=
  ⟨F, G, ⟨[], rfl, hq⟩, ⟨[], rfl, hm⟩, Inv.new m, Inv.new m, fun k hk => Nat.le_trans h1.size (hF k hk), fun k hk => ⟨Nat.le_trans h1.size (hG k hk).1, (hG k hk).2⟩, h1.trans (hb.mono h1.size), fun x hx => (by cases hx)⟩
/-- The queue alone. -/
theorem StC.queue (h : StC w0 qb mb X rows ws bs rows2 ws2 bs2 w) : StQ w0 qb X rows ws bs w := by
  obtain ⟨F, G, h1, h2, h3, h4, h5, h6, h7, h8⟩ := h
  exact ⟨F, h1, h3, h5, h7, fun x hx => ⟨(h8 x hx).1, (h8 x hx).2.2⟩⟩
theorem put_c (h : StC w0 qb mb X rows ws bs rows2 ws2 bs2 w) (hl : allR rows ≤ 4398046511104) (t s job : Int) :
    Calls Tryd.prog 10 #[.pointer (some ⟨qb, 0, none⟩), .agg #[.int .i64 t, .int .i64 s], .int .i64 job] w fun e w' => (∃ v, e = .returned v) ∧ StC w0 qb mb X (putS rows t s job) ws bs rows2 ws2 bs2 w' := by
  obtain ⟨F, G, h1, h2, h3, h4, h5, h6, h7, h8⟩ := h
  exact (put_q h1 h3 hl t s job).mono fun e w' ⟨he, hq⟩ => ⟨he, StC.stepQ h2 h4 h5 h6 h7 h8 hq (h3.put t s job)⟩
theorem mput_c (h : StC w0 qb mb X rows ws bs rows2 ws2 bs2 w) (hl : allR rows2 ≤ 4398046511104) (t s job : Int) :
    Calls Tryd.prog 29 #[.pointer (some ⟨mb, 0, none⟩), .agg #[.int .i64 t, .int .i64 s], .int .i64 job] w fun e w' => (∃ v, e = .returned v) ∧ StC w0 qb mb X rows ws bs (putS rows2 t s job) ws2 bs2 w' := by
  obtain ⟨F, G, h1, ⟨RS, e, hm⟩, h3, h4, h5, h6, h7, h8⟩ := h
  subst e
  have hlen := len_le_all h4.jobs
  exact (mput_any mb G RS ws2 bs2 t s job w hm (by rw [allN_of]; omega) (by simp only [rowsOf, List.length_map] at hlen; unfold rowsOf at hl; omega)).mono fun e w' ⟨he, hq⟩ => ⟨he, StC.stepM h1 h3 h5 h6 h7 h8 hq (h4.put t s job)⟩
theorem begin_c (h : StC w0 qb mb X rows ws bs rows2 ws2 bs2 w) (hl : allR rows ≤ 4398046511104) (n p : Int) :
    Calls Tryd.prog 11 #[.pointer (some ⟨qb, 0, none⟩), .int .i64 n, .int .i64 p] w fun e w' => ∃ v, e = .returned (.tuple #[.int .i64 (beginJ rows ws bs n p), v]) ∧ ErrV (beginO rows ws bs n) n w w' v ∧ StC w0 qb mb X (beginR rows ws bs n p) (beginW rows ws bs n p) (beginB rows ws bs n) rows2 ws2 bs2 w' := by
  obtain ⟨F, G, h1, h2, h3, h4, h5, h6, h7, h8⟩ := h
  exact (begin_q h1 h3 hl n p).mono fun e w' ⟨v, he, hv, hq⟩ => ⟨v, he, hv, StC.stepQ h2 h4 h5 h6 h7 h8 hq (h3.begin hl n p)⟩
theorem end_c (h : StC w0 qb mb X rows ws bs rows2 ws2 bs2 w) (hl : allR rows ≤ 4398046511104) (n : Int) :
    Calls Tryd.prog 12 #[.pointer (some ⟨qb, 0, none⟩), .int .i64 n] w fun e w' => ∃ v, e = .returned (.tuple #[.agg #[.int .i64 (endK ws bs n).1, .int .i64 (endK ws bs n).2], .int .i64 (endJ rows ws bs n), v]) ∧ ErrV (endO ws bs n) n w w' v ∧ StC w0 qb mb X (endR rows ws bs n) ws (endB ws bs n) rows2 ws2 bs2 w' := by
  obtain ⟨F, G, h1, h2, h3, h4, h5, h6, h7, h8⟩ := h
  exact (end_q h1 h3 hl n).mono fun e w' ⟨v, he, hv, hq⟩ => ⟨v, he, hv, StC.stepQ h2 h4 h5 h6 h7 h8 hq (h3.ends n)⟩
theorem mbegin_c {wp : World} (h : StC w0 qb mb X rows ws bs rows2 ws2 bs2 w) (hg : Hg w) (hl : allR rows2 ≤ 4398046511104) (n p : Int) (v : Value) (hv : ErrV (beginO rows2 ws2 bs2 n) n wp w v) :
    Calls Tryd.prog 30 #[.pointer (some ⟨mb, 0, none⟩), .int .i64 n, .int .i64 p, .int .i64 (beginJ rows2 ws2 bs2 n p), v] w fun e w' => e = .returned (.bool true) ∧ StC w0 qb mb X rows ws bs (beginR rows2 ws2 bs2 n p) (beginW rows2 ws2 bs2 n p) (beginB rows2 ws2 bs2 n) w' := by
  obtain ⟨F, G, h1, ⟨RS, e, hm⟩, h3, h4, h5, h6, h7, h8⟩ := h
  subst e
  have hlen := len_le_all h4.jobs
  have hRl : RS.length ≤ 4398046511104 := by simp only [rowsOf, List.length_map] at hlen; unfold rowsOf at hl; omega
  have hi' := h4.begin hl n p
  have hlen2 := h4.len
  unfold beginJ beginR beginW beginB at *
  by_cases ha : n < 0 ∨ ws2.length ≤ n
  · have ho : beginO (rowsOf RS) ws2 bs2 n = .arg := by unfold beginO; rw [if_pos ha]
    rw [ho] at hv hi' ⊢
    obtain rfl : v = eE 1 := hv
    exact (mbegin_arg mb G RS ws2 bs2 n p w hg hm (by omega)).mono fun e w' ⟨he, hq⟩ => ⟨he, StC.stepM h1 h3 h5 h6 h7 h8 hq h4⟩
  · by_cases hz : busyB bs2 n = true
    · have ho : beginO (rowsOf RS) ws2 bs2 n = .busy := by unfold beginO; rw [if_neg ha, if_pos hz]
      rw [ho] at hv hi' ⊢
      obtain ⟨pb, rfl, hf, _⟩ := hv
      exact (mbegin_busy mb G RS ws2 bs2 n p w hg hm hRl h4.len (by omega) (by omega) hz pb hf).mono fun e w' ⟨he, hq⟩ => ⟨he, StC.stepM h1 h3 h5 h6 h7 h8 hq h4⟩
    · have hz' : busyB bs2 n = false := by simpa using hz
      by_cases hr : readyS (rowsOf RS) = []
      · have ho : beginO (rowsOf RS) ws2 bs2 n = .idle := by unfold beginO; rw [if_neg ha, if_neg hz, if_pos hr]
        rw [ho] at hv hi' ⊢
        obtain ⟨pb, rfl, hf, _⟩ := hv
        exact (mbegin_idle mb G RS ws2 bs2 n p w hg hm hRl h4.len (by omega) (by omega) hz' hr pb hf).mono fun e w' ⟨he, hq⟩ => ⟨he, StC.stepM h1 h3 h5 h6 h7 h8 hq h4⟩
      · have ho : beginO (rowsOf RS) ws2 bs2 n = .ok := by unfold beginO; rw [if_neg ha, if_neg hz, if_neg hr]
        rw [ho] at hv hi' ⊢
        simp only [if_true] at hi' ⊢
        obtain rfl : v = .nilIface := hv
        exact (mbegin_ok mb G RS ws2 bs2 n p _ w hm hRl h4 (by omega) (by omega) hz' hr rfl).mono fun e w' ⟨he, hq⟩ => ⟨he, StC.stepM h1 h3 h5 h6 h7 h8 hq hi'⟩
theorem mend_c {wp : World} (h : StC w0 qb mb X rows ws bs rows2 ws2 bs2 w) (hg : Hg w) (hl : allR rows2 ≤ 4398046511104) (n : Int) (v : Value) (hv : ErrV (endO ws2 bs2 n) n wp w v) :
    Calls Tryd.prog 31 #[.pointer (some ⟨mb, 0, none⟩), .int .i64 n, .agg #[.int .i64 (endK ws2 bs2 n).1, .int .i64 (endK ws2 bs2 n).2], .int .i64 (endJ rows2 ws2 bs2 n), v] w fun e w' => e = .returned (.bool true) ∧ StC w0 qb mb X rows ws bs (endR rows2 ws2 bs2 n) ws2 (endB ws2 bs2 n) w' := by
  obtain ⟨F, G, h1, ⟨RS, e, hm⟩, h3, h4, h5, h6, h7, h8⟩ := h
  subst e
  have hlen := len_le_all h4.jobs
  have hRl : RS.length ≤ 4398046511104 := by simp only [rowsOf, List.length_map] at hlen; unfold rowsOf at hl; omega
  have hi' := h4.ends n
  have hlen2 := h4.len
  by_cases ha : n < 0 ∨ ws2.length ≤ n
  · have ho : endO ws2 bs2 n = .arg := by unfold endO; rw [if_pos ha]
    have hk : endK ws2 bs2 n = (0, 0) := by unfold endK; rw [ho]; rfl
    have hj : endJ (rowsOf RS) ws2 bs2 n = 0 := by unfold endJ; rw [ho]; rfl
    have hr : endR (rowsOf RS) ws2 bs2 n = rowsOf RS := by unfold endR; rw [ho]; rfl
    have hb : endB ws2 bs2 n = bs2 := by unfold endB; rw [ho]; rfl
    rw [ho] at hv
    rw [hk, hj, hr, hb]
    obtain rfl : v = eE 1 := hv
    exact (mend_arg mb G RS ws2 bs2 n w hg hm (by omega)).mono fun e w' ⟨he, hq⟩ => ⟨he, StC.stepM h1 h3 h5 h6 h7 h8 hq h4⟩
  · by_cases hz : busyB bs2 n = true
    · have ho : endO ws2 bs2 n = .ok := by unfold endO; rw [if_neg ha, if_pos hz]
      obtain ⟨hI, hk, hb, hw, _⟩ := own_row h4 ho
      have hrl : (rowsOf RS).length = RS.length := by unfold rowsOf; simp
      have hIR : atR RS (endK ws2 bs2 n).1 (endK ws2 bs2 n).2 < RS.length := by rw [atS_of] at hI; omega
      have hre : ∀ (J : Nat) (hJ : J < RS.length) (hJ' : J < (rowsOf RS).length), (rowsOf RS)[J] = RS[J].1 := fun J hJ hJ' => by
        have e1 : (rowsOf RS)[J]? = some RS[J].1 := by simp [rowsOf, List.getElem?_eq_getElem hJ]
        rw [List.getElem?_eq_getElem hJ'] at e1
        exact Option.some.inj e1
      have hrow : (rowsOf RS)[atS (rowsOf RS) (endK ws2 bs2 n).1 (endK ws2 bs2 n).2] = RS[atR RS (endK ws2 bs2 n).1 (endK ws2 bs2 n).2].1 := by
        have e0 := atS_of RS (endK ws2 bs2 n).1 (endK ws2 bs2 n).2
        simp only [e0]
        exact hre _ hIR _
      obtain ⟨q0, qr, hq⟩ : ∃ q0 qr, RS[atR RS (endK ws2 bs2 n).1 (endK ws2 bs2 n).2].1.jobs = q0 :: qr := by
        have := h4.jobs _ (List.getElem_mem hI)
        rw [hrow] at this
        cases hx : RS[atR RS (endK ws2 bs2 n).1 (endK ws2 bs2 n).2].1.jobs with
        | nil => exact absurd hx this
        | cons a l => exact ⟨a, l, rfl⟩
      have hj : endJ (rowsOf RS) ws2 bs2 n = q0 := by
        unfold endJ; rw [if_pos ho]; unfold headS; rw [dif_pos hI, hrow, hq]; rfl
      have hb' : endB ws2 bs2 n = bs2.set n.toNat false := by unfold endB; rw [if_pos ho]
      have hr : endR (rowsOf RS) ws2 bs2 n = endRow (rowsOf RS) (atR RS (endK ws2 bs2 n).1 (endK ws2 bs2 n).2) RS[atR RS (endK ws2 bs2 n).1 (endK ws2 bs2 n).2].1.t RS[atR RS (endK ws2 bs2 n).1 (endK ws2 bs2 n).2].1.s qr := by
        unfold endR
        rw [if_pos ho, end_rows hI, hrow, hq]
        unfold endRow
        rw [atS_of]; rfl
      rw [ho] at hv
      obtain rfl : v = .nilIface := hv
      have := mend_ok mb G RS ws2 bs2 n (endK ws2 bs2 n).1 (endK ws2 bs2 n).2 q0 qr _ w hm hRl h4.len (by omega) (by omega) hz hw hIR rfl hq
      rw [hj]
      refine this.mono fun e w' ⟨he, hqq⟩ => ⟨he, ?_⟩
      rw [← hr, ← hb'] at hqq
      exact StC.stepM h1 h3 h5 h6 h7 h8 hqq hi'
    · have hz' : busyB bs2 n = false := by simpa using hz
      have ho : endO ws2 bs2 n = .idle := by unfold endO; rw [if_neg ha, if_neg hz]
      have hk : endK ws2 bs2 n = (0, 0) := by unfold endK; rw [ho]; rfl
      have hj : endJ (rowsOf RS) ws2 bs2 n = 0 := by unfold endJ; rw [ho]; rfl
      have hr : endR (rowsOf RS) ws2 bs2 n = rowsOf RS := by unfold endR; rw [ho]; rfl
      have hb : endB ws2 bs2 n = bs2 := by unfold endB; rw [ho]; rfl
      rw [ho] at hv
      rw [hk, hj, hr, hb]
      obtain ⟨pb, rfl, hf, _⟩ := hv
      exact (mend_idle mb G RS ws2 bs2 n w hg hm h4.len (by omega) (by omega) hz' pb hf).mono fun e w' ⟨he, hq⟩ => ⟨he, StC.stepM h1 h3 h5 h6 h7 h8 hq h4⟩
end
end Go.Proofs.YtkbopcgijaejjaaDoor
