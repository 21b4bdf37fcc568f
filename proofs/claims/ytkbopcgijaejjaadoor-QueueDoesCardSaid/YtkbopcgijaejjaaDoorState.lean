/-
  A queue's acts, whatever comes of them: what each answers and what it leaves; the conditions: how many jobs there are.
  Printed by a program of this repository (wip/qu9.py).
-/
import Derived.Test.YtkbopcgijaejjaaDoorPlain
import Derived.Test.YtkbopcgijaejjaaDoorNew
namespace Go.Proofs.YtkbopcgijaejjaaDoor
open Go.RowKit Go.Extern.Stop Go.Stop Go.Extern

def Qs (w : World) (qb : Nat) (F : Nat → Prop) (rows : List Rw) (ws : List (Int × Int)) (bs : List Bool) : Prop := ∃ RS, rowsOf RS = rows ∧ QS w qb F RS ws bs
theorem Qs.below {w w' : World} {qb : Nat} {F : Nat → Prop} {rows : List Rw} {ws : List (Int × Int)} {bs : List Bool} (h : Qs w qb F rows ws bs) (hb : Below w.heap.size w w') : Qs w' qb F rows ws bs := by
  obtain ⟨RS, e, h⟩ := h; exact ⟨RS, e, h.below hb⟩
theorem Qs.lt {w : World} {qb : Nat} {F : Nat → Prop} {rows : List Rw} {ws : List (Int × Int)} {bs : List Bool} (h : Qs w qb F rows ws bs) : ∀ k, F k → k < w.heap.size := by
  obtain ⟨RS, e, h⟩ := h
  obtain ⟨_, _, _, _, _, _, _, _, _, _, h5⟩ := h; exact h5
theorem Qs.keeps {w w' : World} {qb : Nat} {F S : Nat → Prop} {rows : List Rw} {ws : List (Int × Int)} {bs : List Bool} (h : Qs w qb F rows ws bs) (hk : Keeps w w' S) (hs : ∀ k, F k → ¬ S k) : Qs w' qb F rows ws bs := by
  obtain ⟨RS, e, h⟩ := h; exact ⟨RS, e, h.keeps hk hs⟩
/-- A queue behind an act. -/
theorem QB.out {w w' : World} {qb : Nat} {F : Nat → Prop} {rows : List Rw} {ws : List (Int × Int)} {bs : List Bool} (h : QB w qb F rows ws bs w') : ∃ F', Qs w' qb F' rows ws bs ∧ (∀ k, F' k → F k ∨ w.heap.size ≤ k) ∧ Keeps w w' F := by
  obtain ⟨RS, e, F', h1, h2, h3⟩ := h; exact ⟨F', ⟨RS, e, h1⟩, h2, h3⟩
theorem QB.of_below {w w' : World} {qb : Nat} {F : Nat → Prop} {rows : List Rw} {ws : List (Int × Int)} {bs : List Bool} (h : Qs w qb F rows ws bs) (hb : Below w.heap.size w w') : QB w qb F rows ws bs w' := by
  obtain ⟨RS, e, h⟩ := h; exact ⟨RS, e, QA.of_below h hb⟩
/-- What is told of what went wrong. -/
def ErrV (o : Out) (n : Int) (w w' : World) (v : Value) : Prop :=
  match o with
  | .arg => v = eE 1
  | .busy => ∃ pb, v = eF pb ∧ IsF w' pb sWorker n 302 ∧ w.heap.size ≤ pb
  | .idle => ∃ pb, v = eF pb ∧ IsF w' pb sWorker n 301 ∧ w.heap.size ≤ pb
  | .ok => v = .nilIface
section
variable {qb : Nat} {F : Nat → Prop} {rows : List Rw} {ws : List (Int × Int)} {bs : List Bool} {w : World}
theorem put_q (h : Qs w qb F rows ws bs) (hi : Inv rows ws bs) (hl : allR rows ≤ 4398046511104) (t s job : Int) :
    Calls Tryd.prog 10 #[.pointer (some ⟨qb, 0, none⟩), .agg #[.int .i64 t, .int .i64 s], .int .i64 job] w fun e w' => (∃ v, e = .returned v) ∧ QB w qb F (putS rows t s job) ws bs w' := by
  obtain ⟨RS, rfl, h⟩ := h
  have h1 := len_le_all hi.jobs
  exact put_any qb F RS ws bs t s job w h (by rw [allN_of]; omega) (by simp only [rowsOf, List.length_map] at h1; unfold rowsOf at hl; omega)
theorem ready_q (h : Qs w qb F rows ws bs) (hi : Inv rows ws bs) (hl : allR rows ≤ 4398046511104) :
    Calls Tryd.prog 17 #[.pointer (some ⟨qb, 0, none⟩)] w (OwnR w 29 2 (readyS rows).length ((readyS rows).flatMap kyCells)) := by
  obtain ⟨RS, rfl, h⟩ := h
  have h1 := len_le_all hi.jobs
  rw [← readyK_of]
  exact ready_any qb F RS ws bs w h (by simp only [rowsOf, List.length_map] at h1; unfold rowsOf at hl; omega)
def lenS (rows : List Rw) (t s : Int) : Nat := if h : atS rows t s < rows.length then (rows[atS rows t s]'h).jobs.length else 0
theorem lenV_of (RS : List (Rw × Value)) (t s : Int) : lenV RS t s = lenS (rowsOf RS) t s := by
  unfold lenV lenS
  by_cases hh : atR RS t s < RS.length
  · rw [dif_pos hh, dif_pos (by rw [atS_of]; simpa [rowsOf] using hh)]
    have e := atS_of RS t s
    unfold rowsOf at e ⊢
    simp only [List.getElem_map, e]
  · rw [dif_neg hh, dif_neg (by rw [atS_of]; simpa [rowsOf] using hh)]
theorem len_q (h : Qs w qb F rows ws bs) (t s : Int) :
    Calls Tryd.prog 18 #[.pointer (some ⟨qb, 0, none⟩), .agg #[.int .i64 t, .int .i64 s]] w fun e w' => e = .returned (.int .i64 (lenS rows t s)) ∧ Below w.heap.size w w' := by
  obtain ⟨RS, rfl, h⟩ := h
  rw [← lenV_of]
  exact len_any qb F RS ws bs t s w h
theorem all_q (h : Qs w qb F rows ws bs) (hl : allR rows ≤ 4398046511104) :
    Calls Tryd.prog 14 #[.pointer (some ⟨qb, 0, none⟩)] w fun e w' => e = .returned (.int .i64 (allR rows)) ∧ Below w.heap.size w w' := by
  obtain ⟨RS, rfl, h⟩ := h
  rw [← allN_of] at hl ⊢
  exact all_any qb F RS ws bs w h (by omega)
theorem busy_q (h : Qs w qb F rows ws bs) (n : Int) :
    Calls Tryd.prog 24 #[.pointer (some ⟨qb, 0, none⟩), .int .i64 n] w fun e w' => e = .returned (.bool (busyB bs n)) ∧ w = w' := by
  obtain ⟨RS, rfl, h⟩ := h
  exact busy_any qb F RS ws bs n w h
theorem begin_q (h : Qs w qb F rows ws bs) (hi : Inv rows ws bs) (hl : allR rows ≤ 4398046511104) (n p : Int) :
    Calls Tryd.prog 11 #[.pointer (some ⟨qb, 0, none⟩), .int .i64 n, .int .i64 p] w fun e w' => ∃ v, e = .returned (.tuple #[.int .i64 (beginJ rows ws bs n p), v]) ∧ ErrV (beginO rows ws bs n) n w w' v ∧ QB w qb F (beginR rows ws bs n p) (beginW rows ws bs n p) (beginB rows ws bs n) w' := by
  obtain ⟨RS, rfl, h⟩ := h
  have h1 := len_le_all hi.jobs
  have h2 : RS.length ≤ 4398046511104 := by simp only [rowsOf, List.length_map] at h1; unfold rowsOf at hl; omega
  unfold beginJ beginR beginW beginB
  by_cases ha : n < 0 ∨ ws.length ≤ n
  · have ho : beginO (rowsOf RS) ws bs n = .arg := by unfold beginO; rw [if_pos ha]
    rw [ho]
    refine (begin_arg qb F RS ws bs n p w h h2 ha).mono ?_
    rintro e w' ⟨rfl, hb⟩
    exact ⟨_, rfl, rfl, QB.of_below ⟨RS, rfl, h⟩ hb⟩
  · by_cases hz : busyB bs n = true
    · have ho : beginO (rowsOf RS) ws bs n = .busy := by unfold beginO; rw [if_neg ha, if_pos hz]
      rw [ho]
      refine (begin_busy qb F RS ws bs n p w h h2 hi.len (by omega) (by omega) hz).mono ?_
      rintro e w' ⟨pb, rfl, hf, hb, hp⟩
      exact ⟨_, rfl, ⟨pb, rfl, hf, hp⟩, QB.of_below ⟨RS, rfl, h⟩ hb⟩
    · have hz' : busyB bs n = false := by simpa using hz
      by_cases hr : readyS (rowsOf RS) = []
      · have ho : beginO (rowsOf RS) ws bs n = .idle := by unfold beginO; rw [if_neg ha, if_neg hz, if_pos hr]
        rw [ho]
        refine (begin_idle qb F RS ws bs n p w h h2 hi.len (by omega) (by omega) hz' (by rw [readyK_of]; exact hr)).mono ?_
        rintro e w' ⟨pb, rfl, hf, hb, hp⟩
        exact ⟨_, rfl, ⟨pb, rfl, hf, hp⟩, QB.of_below ⟨RS, rfl, h⟩ hb⟩
      · have ho : beginO (rowsOf RS) ws bs n = .ok := by unfold beginO; rw [if_neg ha, if_neg hz, if_neg hr]
        rw [ho, if_pos rfl, if_pos rfl, if_pos rfl, if_pos rfl]
        obtain ⟨hI, _, _, hlt, hg⟩ := pick_row hi.keys (by simpa [rowsOf] using h2) hr p
        rw [← readyK_of] at hlt hg
        have hgg : (readyK RS)[pickK p (readyK RS).length] = pickS (rowsOf RS) p := by
          rw [List.getElem?_eq_getElem hlt] at hg; exact Option.some.inj hg
        have := begin_ok qb F RS ws bs n p w h h2 hi.len (by omega) (by omega) hz' hlt (fun q hq => hi.jobs q.1 (List.mem_map.2 ⟨q, hq, rfl⟩))
        rw [hgg] at this
        refine this.mono ?_
        rintro e w' ⟨rfl, hb⟩
        exact ⟨_, rfl, rfl, hb⟩
theorem end_q (h : Qs w qb F rows ws bs) (hi : Inv rows ws bs) (hl : allR rows ≤ 4398046511104) (n : Int) :
    Calls Tryd.prog 12 #[.pointer (some ⟨qb, 0, none⟩), .int .i64 n] w fun e w' => ∃ v, e = .returned (.tuple #[.agg #[.int .i64 (endK ws bs n).1, .int .i64 (endK ws bs n).2], .int .i64 (endJ rows ws bs n), v]) ∧ ErrV (endO ws bs n) n w w' v ∧ QB w qb F (endR rows ws bs n) ws (endB ws bs n) w' := by
  obtain ⟨RS, rfl, h⟩ := h
  by_cases ha : n < 0 ∨ ws.length ≤ n
  · have ho : endO ws bs n = .arg := by unfold endO; rw [if_pos ha]
    have hk : endK ws bs n = (0, 0) := by unfold endK; rw [ho]; rfl
    have hj : endJ (rowsOf RS) ws bs n = 0 := by unfold endJ; rw [ho]; rfl
    have hr : endR (rowsOf RS) ws bs n = rowsOf RS := by unfold endR; rw [ho]; rfl
    have hb : endB ws bs n = bs := by unfold endB; rw [ho]; rfl
    rw [ho, hk, hj, hr, hb]
    refine (end_arg qb F RS ws bs n w h ha).mono ?_
    rintro e w' ⟨rfl, hb⟩
    exact ⟨_, rfl, rfl, QB.of_below ⟨RS, rfl, h⟩ hb⟩
  · by_cases hz : busyB bs n = true
    · have ho : endO ws bs n = .ok := by unfold endO; rw [if_neg ha, if_pos hz]
      obtain ⟨hI, hk, hb, hw, _⟩ := own_row hi ho
      have hj : endJ (rowsOf RS) ws bs n = headS (rowsOf RS) (endK ws bs n).1 (endK ws bs n).2 := by unfold endJ; rw [if_pos ho]
      have hr : endR (rowsOf RS) ws bs n = dropS (tailS (rowsOf RS) (endK ws bs n).1 (endK ws bs n).2) (endK ws bs n).1 (endK ws bs n).2 := by unfold endR; rw [if_pos ho]
      have hb : endB ws bs n = bs.set n.toNat false := by unfold endB; rw [if_pos ho]
      rw [ho, hj, hr, hb]
      refine (end_ok qb F RS ws bs n (endK ws bs n).1 (endK ws bs n).2 w h (by rw [allN_of]; omega) hi.len (by omega) (by omega) hz hw (by rw [atS_of] at hI; simpa [rowsOf] using hI) (fun q hq => hi.jobs q.1 (List.mem_map.2 ⟨q, hq, rfl⟩))).mono ?_
      rintro e w' ⟨rfl, hb⟩
      exact ⟨_, rfl, rfl, hb⟩
    · have hz' : busyB bs n = false := by simpa using hz
      have ho : endO ws bs n = .idle := by unfold endO; rw [if_neg ha, if_neg hz]
      have hk : endK ws bs n = (0, 0) := by unfold endK; rw [ho]; rfl
      have hj : endJ (rowsOf RS) ws bs n = 0 := by unfold endJ; rw [ho]; rfl
      have hr : endR (rowsOf RS) ws bs n = rowsOf RS := by unfold endR; rw [ho]; rfl
      have hb : endB ws bs n = bs := by unfold endB; rw [ho]; rfl
      rw [ho, hk, hj, hr, hb]
      refine (end_idle qb F RS ws bs n w h hi.len (by omega) (by omega) hz').mono ?_
      rintro e w' ⟨pb, rfl, hf, hb, hp⟩
      exact ⟨_, rfl, ⟨pb, rfl, hf, hp⟩, QB.of_below ⟨RS, rfl, h⟩ hb⟩
end

/-- A queue of this call's own; some blocks stay as they are. -/
def StQ (w0 : World) (qb : Nat) (X : List (Nat × Obj)) (rows : List Rw) (ws : List (Int × Int)) (bs : List Bool) (w : World) : Prop :=
  ∃ F, Qs w qb F rows ws bs ∧ Inv rows ws bs ∧ (∀ k, F k → w0.heap.size ≤ k) ∧ Below w0.heap.size w0 w ∧ ∀ x ∈ X, ¬ F x.1 ∧ w.heap[x.1]? = some x.2
section
variable {w0 w w' : World} {qb : Nat} {X : List (Nat × Obj)} {rows : List Rw} {ws : List (Int × Int)} {bs : List Bool}
theorem StQ.world (h : StQ w0 qb X rows ws bs w) : Below w0.heap.size w0 w := by obtain ⟨_, _, _, _, h, _⟩ := h; exact h
theorem StQ.inv (h : StQ w0 qb X rows ws bs w) : Inv rows ws bs := by obtain ⟨_, _, h, _⟩ := h; exact h
theorem StQ.at (h : StQ w0 qb X rows ws bs w) {b : Nat} {ob : Obj} (hx : (b, ob) ∈ X) : w.heap[b]? = some ob := by obtain ⟨_, _, _, _, _, h⟩ := h; exact (h _ hx).2
theorem StQ.below (h : StQ w0 qb X rows ws bs w) (hb : Below w.heap.size w w') : StQ w0 qb X rows ws bs w' := by
  obtain ⟨F, h1, h2, h3, h4, h5⟩ := h
  exact ⟨F, h1.below hb, h2, h3, h4.trans (hb.mono h4.size), fun x hx => ⟨(h5 x hx).1, (hb.block _ (lt_of_block (h5 x hx).2)).trans (h5 x hx).2⟩⟩
theorem StQ.guard (h : StQ w0 qb X rows ws bs w) (hb : Below w.heap.size w w') {b : Nat} {ob : Obj} (hlt : w.heap.size ≤ b) (hob : w'.heap[b]? = some ob) : StQ w0 qb ((b, ob) :: X) rows ws bs w' := by
  obtain ⟨F, h1, h2, h3, h4, h5⟩ := h.below hb
  obtain ⟨F0, k1, _⟩ := id h
  obtain ⟨F, h1, h2, h3, h4, h5⟩ := h
  refine ⟨F, h1.below hb, h2, h3, h4.trans (hb.mono h4.size), fun x hx => ?_⟩
  rcases List.mem_cons.1 hx with rfl | hx
  · exact ⟨fun hF => by have := h1.lt _ hF; simp only at this; omega, hob⟩
  · exact ⟨(h5 x hx).1, (hb.block _ (lt_of_block (h5 x hx).2)).trans (h5 x hx).2⟩
theorem StQ.step {F : Nat → Prop} {R' : List Rw} {W' : List (Int × Int)} {B' : List Bool} (h3 : ∀ k, F k → w0.heap.size ≤ k) (h4 : Below w0.heap.size w0 w) (h5 : ∀ x ∈ X, ¬ F x.1 ∧ w.heap[x.1]? = some x.2) (hq : QB w qb F R' W' B' w') (hi : Inv R' W' B') : StQ w0 qb X R' W' B' w' := by
  obtain ⟨F', g1, g2, g3⟩ := hq.out
  have hz := h4.size
  refine ⟨F', g1, hi, fun k hk => ?_, h4.trans (g3.below hz h3), fun x hx => ⟨fun hF => ?_, (g3.block _ (lt_of_block (h5 x hx).2) (h5 x hx).1).trans (h5 x hx).2⟩⟩
  · rcases g2 k hk with h | h
    · exact h3 k h
    · omega
  · rcases g2 _ hF with h | h
    · exact (h5 x hx).1 h
    · have := lt_of_block (h5 x hx).2; omega
theorem StQ.new {m : Nat} {F : Nat → Prop} {w1 : World} (h1 : Below w0.heap.size w0 w1) (hq : QS w qb F [] (List.replicate m (0, 0)) (List.replicate m false)) (hF : ∀ k, F k → w1.heap.size ≤ k) (hb : Below w1.heap.size w1 w) : StQ w0 qb [] [] (List.replicate m (0, 0)) (List.replicate m false) w :=
  ⟨F, ⟨[], rfl, hq⟩, Inv.new m, fun k hk => Nat.le_trans h1.size (hF k hk), h1.trans (hb.mono h1.size), fun x hx => (by cases hx)⟩
theorem put_st (h : StQ w0 qb X rows ws bs w) (hl : allR rows ≤ 4398046511104) (t s job : Int) :
    Calls Tryd.prog 10 #[.pointer (some ⟨qb, 0, none⟩), .agg #[.int .i64 t, .int .i64 s], .int .i64 job] w fun e w' => (∃ v, e = .returned v) ∧ StQ w0 qb X (putS rows t s job) ws bs w' := by
  obtain ⟨F, h1, h2, h3, h4, h5⟩ := h
  exact (put_q h1 h2 hl t s job).mono fun e w' ⟨he, hq⟩ => ⟨he, StQ.step h3 h4 h5 hq (h2.put t s job)⟩
theorem ready_st (h : StQ w0 qb X rows ws bs w) (hl : allR rows ≤ 4398046511104) :
    Calls Tryd.prog 17 #[.pointer (some ⟨qb, 0, none⟩)] w fun e w' => OwnR w 29 2 (readyS rows).length ((readyS rows).flatMap kyCells) e w' ∧ StQ w0 qb X rows ws bs w' := by
  obtain ⟨F, h1, h2, _⟩ := id h
  exact (ready_q h1 h2 hl).mono fun e w' ho => ⟨ho, by obtain ⟨_, _, _, _, hb⟩ := ho; exact h.below hb⟩
theorem len_st (h : StQ w0 qb X rows ws bs w) (t s : Int) :
    Calls Tryd.prog 18 #[.pointer (some ⟨qb, 0, none⟩), .agg #[.int .i64 t, .int .i64 s]] w fun e w' => e = .returned (.int .i64 (lenS rows t s)) ∧ StQ w0 qb X rows ws bs w' := by
  obtain ⟨F, h1, h2, _⟩ := id h
  exact (len_q h1 t s).mono fun e w' ⟨he, hb⟩ => ⟨he, h.below hb⟩
theorem all_st (h : StQ w0 qb X rows ws bs w) (hl : allR rows ≤ 4398046511104) :
    Calls Tryd.prog 14 #[.pointer (some ⟨qb, 0, none⟩)] w fun e w' => e = .returned (.int .i64 (allR rows)) ∧ StQ w0 qb X rows ws bs w' := by
  obtain ⟨F, h1, h2, _⟩ := id h
  exact (all_q h1 hl).mono fun e w' ⟨he, hb⟩ => ⟨he, h.below hb⟩
theorem busy_st (h : StQ w0 qb X rows ws bs w) (n : Int) :
    Calls Tryd.prog 24 #[.pointer (some ⟨qb, 0, none⟩), .int .i64 n] w fun e w' => e = .returned (.bool (busyB bs n)) ∧ w = w' := by
  obtain ⟨F, h1, h2, _⟩ := id h
  exact busy_q h1 n
theorem begin_st (h : StQ w0 qb X rows ws bs w) (hl : allR rows ≤ 4398046511104) (n p : Int) :
    Calls Tryd.prog 11 #[.pointer (some ⟨qb, 0, none⟩), .int .i64 n, .int .i64 p] w fun e w' => ∃ v, e = .returned (.tuple #[.int .i64 (beginJ rows ws bs n p), v]) ∧ ErrV (beginO rows ws bs n) n w w' v ∧ StQ w0 qb X (beginR rows ws bs n p) (beginW rows ws bs n p) (beginB rows ws bs n) w' := by
  obtain ⟨F, h1, h2, h3, h4, h5⟩ := h
  exact (begin_q h1 h2 hl n p).mono fun e w' ⟨v, he, hv, hq⟩ => ⟨v, he, hv, StQ.step h3 h4 h5 hq (h2.begin hl n p)⟩
theorem end_st (h : StQ w0 qb X rows ws bs w) (hl : allR rows ≤ 4398046511104) (n : Int) :
    Calls Tryd.prog 12 #[.pointer (some ⟨qb, 0, none⟩), .int .i64 n] w fun e w' => ∃ v, e = .returned (.tuple #[.agg #[.int .i64 (endK ws bs n).1, .int .i64 (endK ws bs n).2], .int .i64 (endJ rows ws bs n), v]) ∧ ErrV (endO ws bs n) n w w' v ∧ StQ w0 qb X (endR rows ws bs n) ws (endB ws bs n) w' := by
  obtain ⟨F, h1, h2, h3, h4, h5⟩ := h
  exact (end_q h1 h2 hl n).mono fun e w' ⟨v, he, hv, hq⟩ => ⟨v, he, hv, StQ.step h3 h4 h5 hq (h2.ends n)⟩
end
end Go.Proofs.YtkbopcgijaejjaaDoor
