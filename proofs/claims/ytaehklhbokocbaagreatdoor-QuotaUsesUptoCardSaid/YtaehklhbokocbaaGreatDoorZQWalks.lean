/-
  Contracts of the functions that the four statements on quotas reach: Told at a *Excess; (Limits).Check, (Limits).One, (Limits).Fits on every way; awake; the conditions: what errors.errorType holds, and the cells that are read.
-/
import Derived.Test.YtaehklhbokocbaaGreatDoorZF
set_option linter.unusedVariables false
set_option linter.unusedSimpArgs false
namespace Go.Proofs.YtaehklhbokocbaaGreatDoor
open Go.RowKit Go.Extern.Stop Go.Stop Go.Extern
def IsX (w : World) (b : Nat) (what need most : Int) : Prop :=
  w.cell? ⟨b, 0, none⟩ = some (.int .i64 what) ∧ w.cell? ⟨b, 1, none⟩ = some (.int .i64 need) ∧ w.cell? ⟨b, 2, none⟩ = some (.int .i64 most)
theorem IsX.below {w w' : World} {b B : Nat} {a c d : Int} (h : IsX w b a c d) (hb : Below B w w') (hB : b < B) : IsX w' b a c d := by
  obtain ⟨h0, h1, h2⟩ := h
  exact ⟨(hb.cell (p := ⟨b, 0, none⟩) hB).trans h0, (hb.cell (p := ⟨b, 1, none⟩) hB).trans h1, (hb.cell (p := ⟨b, 2, none⟩) hB).trans h2⟩
theorem IsX.lt {w : World} {b : Nat} {a c d : Int} (h : IsX w b a c d) : b < w.heap.size := World.block_lt_of_cell? _ _ h.1
def RetX (w : World) (what need most : Int) (e : Ending) (w' : World) : Prop :=
  ∃ b, e = .returned (eX ⟨b, 0, none⟩) ∧ IsX w' b what need most ∧ Below w.heap.size w w'
set_option maxHeartbeats 1000000 in
theorem check_rows (lr lc lb lp ls lt ur uc ub : Int) (w : World) (h : lr < ur) :
    Calls Tryz.prog 25 #[.agg #[.int .i64 lr, .int .i64 lc, .int .i64 lb, .int .i64 lp, .int .i64 ls, .int .i64 lt], .agg #[.int .i64 ur, .int .i64 uc, .int .i64 ub]] w fun e w' => RetX w 1 ur lr e w' := by
  go_enter Tryz.func25, Tryz.ntmps25
  go_wp2
  refine wp_loop_rounds 1 ?_
  rw [rounds_succ]
  go_wp2
  go_ret
  refine ⟨_, rfl, ⟨?_, ?_, ?_⟩, (by repeat (first | exact Below.refl _ _ | (refine Below.alloc ?_ (by first | omega | (simp; done) | (simp; omega)) _) | (refine Below.setCell ?_ (by first | omega | (simp; done) | (simp; omega)) _) | (refine Below.drew ?_)))⟩ <;> (rw [World.cell?_alloc_at _ _ _ _ (by simp)]; rfl)
set_option maxHeartbeats 1000000 in
theorem check_cols (lr lc lb lp ls lt ur uc ub : Int) (w : World) (h : ¬ lr < ur) (h1 : lc < uc) :
    Calls Tryz.prog 25 #[.agg #[.int .i64 lr, .int .i64 lc, .int .i64 lb, .int .i64 lp, .int .i64 ls, .int .i64 lt], .agg #[.int .i64 ur, .int .i64 uc, .int .i64 ub]] w fun e w' => RetX w 2 uc lc e w' := by
  go_enter Tryz.func25, Tryz.ntmps25
  go_wp2
  refine wp_loop_rounds 2 ?_
  rw [rounds_succ]
  go_wp2
  rw [rounds_succ]
  go_wp2
  go_ret
  refine ⟨_, rfl, ⟨?_, ?_, ?_⟩, (by repeat (first | exact Below.refl _ _ | (refine Below.alloc ?_ (by first | omega | (simp; done) | (simp; omega)) _) | (refine Below.setCell ?_ (by first | omega | (simp; done) | (simp; omega)) _) | (refine Below.drew ?_)))⟩ <;> (rw [World.cell?_alloc_at _ _ _ _ (by simp)]; rfl)
set_option maxHeartbeats 1000000 in
theorem check_bits (lr lc lb lp ls lt ur uc ub : Int) (w : World) (h : ¬ lr < ur) (h1 : ¬ lc < uc) (h2 : lb < ub) :
    Calls Tryz.prog 25 #[.agg #[.int .i64 lr, .int .i64 lc, .int .i64 lb, .int .i64 lp, .int .i64 ls, .int .i64 lt], .agg #[.int .i64 ur, .int .i64 uc, .int .i64 ub]] w fun e w' => RetX w 3 ub lb e w' := by
  go_enter Tryz.func25, Tryz.ntmps25
  go_wp2
  refine wp_loop_rounds 3 ?_
  rw [rounds_succ]
  go_wp2
  rw [rounds_succ]
  go_wp2
  rw [rounds_succ]
  go_wp2
  go_ret
  refine ⟨_, rfl, ⟨?_, ?_, ?_⟩, (by repeat (first | exact Below.refl _ _ | (refine Below.alloc ?_ (by first | omega | (simp; done) | (simp; omega)) _) | (refine Below.setCell ?_ (by first | omega | (simp; done) | (simp; omega)) _) | (refine Below.drew ?_)))⟩ <;> (rw [World.cell?_alloc_at _ _ _ _ (by simp)]; rfl)
set_option maxHeartbeats 1000000 in
theorem check_none (lr lc lb lp ls lt ur uc ub : Int) (w : World) (h : ¬ lr < ur) (h1 : ¬ lc < uc) (h2 : ¬ lb < ub) :
    Calls Tryz.prog 25 #[.agg #[.int .i64 lr, .int .i64 lc, .int .i64 lb, .int .i64 lp, .int .i64 ls, .int .i64 lt], .agg #[.int .i64 ur, .int .i64 uc, .int .i64 ub]] w fun e w' => e = .returned .nilIface ∧ Below w.heap.size w w' := by
  go_enter Tryz.func25, Tryz.ntmps25
  go_wp2
  refine wp_loop_rounds 4 ?_
  rw [rounds_succ]
  go_wp2
  rw [rounds_succ]
  go_wp2
  rw [rounds_succ]
  go_wp2
  rw [rounds_succ]
  go_wp2
  go_ret
  exact ⟨rfl, (by repeat (first | exact Below.refl _ _ | (refine Below.alloc ?_ (by first | omega | (simp; done) | (simp; omega)) _) | (refine Below.setCell ?_ (by first | omega | (simp; done) | (simp; omega)) _) | (refine Below.drew ?_)))⟩
set_option maxHeartbeats 1000000 in
theorem told_X (b : Nat) (what need most : Int) (w : World) (hg : Hg w) (hx : IsX w b what need most) :
    Calls Tryz.prog 59 #[eX ⟨b, 0, none⟩, .int .i64 what, .int .i64 need, .int .i64 most] w fun e w' => e = .returned (.bool true) ∧ Below w.heap.size w w' := by
  have hlt := hx.lt
  have hg1 := hg.alloc (.cells #[.pointer none] 129)
  have HX := Lib.hid hx; clear hx
  unfold eX
  go_enter Tryz.func59, Tryz.ntmps59
  go_wp2_with fail
  refine (asExcess_XE_b ⟨b, 0, none⟩ _ (.pointer none) _ hg1 (by simp) (by simp)).mono ?_
  rintro e w1 ⟨rfl, hb, hc⟩
  have hb1 : Below w.heap.size w w1 := ((Below.refl _ _).alloc (Nat.le_refl _) _).trans hb
  have hg2 := hg.below hb1 hg.lt
  have hsz : w.heap.size < w1.heap.size := World.block_lt_of_cell? _ _ hc
  have HB1 := Lib.hid hb1; clear hb1 hb
  have HC := Lib.hid hc
  go_wp2_with fail
  refine (isXE_same ⟨b, 0, none⟩ 240 w1 (by decide)).mono ?_
  rintro e w' ⟨rfl, rfl⟩
  go_wp2_with fail
  refine (number_X ⟨b, 0, none⟩ _ hg2).mono ?_
  rintro e w2 ⟨rfl, hb2⟩
  clear hc
  have hc2 := (hb2.cell (p := ⟨w.heap.size, 0, none⟩) hsz).trans HC.out
  have hb3 : Below w.heap.size w w2 := HB1.out.trans (hb2.mono (by omega))
  obtain ⟨x0, x1, x2⟩ := HX.out.below hb3 hlt
  have HB3 := Lib.hid hb3; clear hb3 hb2
  go_wp2
  go_ret
  exact ⟨rfl, HB3.out⟩
set_option maxHeartbeats 1000000 in
theorem one_other (lr lc lb lp ls lt what have_ : Int) (w : World) (h5 : (what == 5) = false) (h6 : (what == 6) = false) :
    Calls Tryz.prog 60 #[.agg #[.int .i64 lr, .int .i64 lc, .int .i64 lb, .int .i64 lp, .int .i64 ls, .int .i64 lt], .int .i64 what, .int .i64 have_] w fun e w' => e = .returned (eE 1) ∧ Below w.heap.size w w' := by
  go_enter Tryz.func60, Tryz.ntmps60
  go_wp2
  go_ret
  exact ⟨rfl, (by repeat (first | exact Below.refl _ _ | (refine Below.alloc ?_ (by first | omega | (simp; done) | (simp; omega)) _) | (refine Below.setCell ?_ (by first | omega | (simp; done) | (simp; omega)) _) | (refine Below.drew ?_)))⟩
set_option maxHeartbeats 1000000 in
theorem one_ok5 (lr lc lb lp ls lt have_ : Int) (w : World) (h0 : 0 ≤ have_) (h1 : have_ < ls) :
    Calls Tryz.prog 60 #[.agg #[.int .i64 lr, .int .i64 lc, .int .i64 lb, .int .i64 lp, .int .i64 ls, .int .i64 lt], .int .i64 5, .int .i64 have_] w fun e w' => e = .returned .nilIface ∧ Below w.heap.size w w' := by
  go_enter Tryz.func60, Tryz.ntmps60
  go_wp2
  go_ret
  exact ⟨rfl, (by repeat (first | exact Below.refl _ _ | (refine Below.alloc ?_ (by first | omega | (simp; done) | (simp; omega)) _) | (refine Below.setCell ?_ (by first | omega | (simp; done) | (simp; omega)) _) | (refine Below.drew ?_)))⟩
set_option maxHeartbeats 1000000 in
theorem one_neg5 (lr lc lb lp ls lt have_ : Int) (w : World) (h0 : have_ < 0) :
    Calls Tryz.prog 60 #[.agg #[.int .i64 lr, .int .i64 lc, .int .i64 lb, .int .i64 lp, .int .i64 ls, .int .i64 lt], .int .i64 5, .int .i64 have_] w fun e w' => RetX w 5 1 ls e w' := by
  go_enter Tryz.func60, Tryz.ntmps60
  go_wp2
  go_ret
  exact ⟨_, rfl, ⟨by simp, by simp, by simp⟩, (by repeat (first | exact Below.refl _ _ | (refine Below.alloc ?_ (by first | omega | (simp; done) | (simp; omega)) _) | (refine Below.setCell ?_ (by first | omega | (simp; done) | (simp; omega)) _) | (refine Below.drew ?_)))⟩
set_option maxHeartbeats 1000000 in
theorem one_full5 (lr lc lb lp ls lt have_ : Int) (w : World) (h0 : 0 < have_) (h1 : ¬ have_ < ls) (h2 : have_ < 9223372036854775807) :
    Calls Tryz.prog 60 #[.agg #[.int .i64 lr, .int .i64 lc, .int .i64 lb, .int .i64 lp, .int .i64 ls, .int .i64 lt], .int .i64 5, .int .i64 have_] w fun e w' => RetX w 5 (have_ + 1) ls e w' := by
  go_enter Tryz.func60, Tryz.ntmps60
  go_wp2
  go_ret
  exact ⟨_, rfl, ⟨by simp, by simp, by simp⟩, (by repeat (first | exact Below.refl _ _ | (refine Below.alloc ?_ (by first | omega | (simp; done) | (simp; omega)) _) | (refine Below.setCell ?_ (by first | omega | (simp; done) | (simp; omega)) _) | (refine Below.drew ?_)))⟩
set_option maxHeartbeats 1000000 in
theorem one_zero5 (lr lc lb lp ls lt : Int) (w : World) (h1 : ¬ 0 < ls) :
    Calls Tryz.prog 60 #[.agg #[.int .i64 lr, .int .i64 lc, .int .i64 lb, .int .i64 lp, .int .i64 ls, .int .i64 lt], .int .i64 5, .int .i64 0] w fun e w' => RetX w 5 1 ls e w' := by
  go_enter Tryz.func60, Tryz.ntmps60
  go_wp2
  go_ret
  exact ⟨_, rfl, ⟨by simp, by simp, by simp⟩, (by repeat (first | exact Below.refl _ _ | (refine Below.alloc ?_ (by first | omega | (simp; done) | (simp; omega)) _) | (refine Below.setCell ?_ (by first | omega | (simp; done) | (simp; omega)) _) | (refine Below.drew ?_)))⟩
set_option maxHeartbeats 1000000 in
theorem one_top5 (lr lc lb lp ls lt have_ : Int) (w : World) (h1 : ¬ have_ < ls) (h2 : have_ = 9223372036854775807) :
    Calls Tryz.prog 60 #[.agg #[.int .i64 lr, .int .i64 lc, .int .i64 lb, .int .i64 lp, .int .i64 ls, .int .i64 lt], .int .i64 5, .int .i64 have_] w fun e w' => RetX w 5 9223372036854775807 ls e w' := by
  go_enter Tryz.func60, Tryz.ntmps60
  go_wp2
  go_ret
  exact ⟨_, rfl, ⟨by simp, by simp, by simp⟩, (by repeat (first | exact Below.refl _ _ | (refine Below.alloc ?_ (by first | omega | (simp; done) | (simp; omega)) _) | (refine Below.setCell ?_ (by first | omega | (simp; done) | (simp; omega)) _) | (refine Below.drew ?_)))⟩
set_option maxHeartbeats 1000000 in
theorem one_ok6 (lr lc lb lp ls lt have_ : Int) (w : World) (h0 : 0 ≤ have_) (h1 : have_ < lt) :
    Calls Tryz.prog 60 #[.agg #[.int .i64 lr, .int .i64 lc, .int .i64 lb, .int .i64 lp, .int .i64 ls, .int .i64 lt], .int .i64 6, .int .i64 have_] w fun e w' => e = .returned .nilIface ∧ Below w.heap.size w w' := by
  go_enter Tryz.func60, Tryz.ntmps60
  go_wp2
  go_ret
  exact ⟨rfl, (by repeat (first | exact Below.refl _ _ | (refine Below.alloc ?_ (by first | omega | (simp; done) | (simp; omega)) _) | (refine Below.setCell ?_ (by first | omega | (simp; done) | (simp; omega)) _) | (refine Below.drew ?_)))⟩
set_option maxHeartbeats 1000000 in
theorem one_neg6 (lr lc lb lp ls lt have_ : Int) (w : World) (h0 : have_ < 0) :
    Calls Tryz.prog 60 #[.agg #[.int .i64 lr, .int .i64 lc, .int .i64 lb, .int .i64 lp, .int .i64 ls, .int .i64 lt], .int .i64 6, .int .i64 have_] w fun e w' => RetX w 6 1 lt e w' := by
  go_enter Tryz.func60, Tryz.ntmps60
  go_wp2
  go_ret
  exact ⟨_, rfl, ⟨by simp, by simp, by simp⟩, (by repeat (first | exact Below.refl _ _ | (refine Below.alloc ?_ (by first | omega | (simp; done) | (simp; omega)) _) | (refine Below.setCell ?_ (by first | omega | (simp; done) | (simp; omega)) _) | (refine Below.drew ?_)))⟩
set_option maxHeartbeats 1000000 in
theorem one_full6 (lr lc lb lp ls lt have_ : Int) (w : World) (h0 : 0 < have_) (h1 : ¬ have_ < lt) (h2 : have_ < 9223372036854775807) :
    Calls Tryz.prog 60 #[.agg #[.int .i64 lr, .int .i64 lc, .int .i64 lb, .int .i64 lp, .int .i64 ls, .int .i64 lt], .int .i64 6, .int .i64 have_] w fun e w' => RetX w 6 (have_ + 1) lt e w' := by
  go_enter Tryz.func60, Tryz.ntmps60
  go_wp2
  go_ret
  exact ⟨_, rfl, ⟨by simp, by simp, by simp⟩, (by repeat (first | exact Below.refl _ _ | (refine Below.alloc ?_ (by first | omega | (simp; done) | (simp; omega)) _) | (refine Below.setCell ?_ (by first | omega | (simp; done) | (simp; omega)) _) | (refine Below.drew ?_)))⟩
set_option maxHeartbeats 1000000 in
theorem one_zero6 (lr lc lb lp ls lt : Int) (w : World) (h1 : ¬ 0 < lt) :
    Calls Tryz.prog 60 #[.agg #[.int .i64 lr, .int .i64 lc, .int .i64 lb, .int .i64 lp, .int .i64 ls, .int .i64 lt], .int .i64 6, .int .i64 0] w fun e w' => RetX w 6 1 lt e w' := by
  go_enter Tryz.func60, Tryz.ntmps60
  go_wp2
  go_ret
  exact ⟨_, rfl, ⟨by simp, by simp, by simp⟩, (by repeat (first | exact Below.refl _ _ | (refine Below.alloc ?_ (by first | omega | (simp; done) | (simp; omega)) _) | (refine Below.setCell ?_ (by first | omega | (simp; done) | (simp; omega)) _) | (refine Below.drew ?_)))⟩
set_option maxHeartbeats 1000000 in
theorem one_top6 (lr lc lb lp ls lt have_ : Int) (w : World) (h1 : ¬ have_ < lt) (h2 : have_ = 9223372036854775807) :
    Calls Tryz.prog 60 #[.agg #[.int .i64 lr, .int .i64 lc, .int .i64 lb, .int .i64 lp, .int .i64 ls, .int .i64 lt], .int .i64 6, .int .i64 have_] w fun e w' => RetX w 6 9223372036854775807 lt e w' := by
  go_enter Tryz.func60, Tryz.ntmps60
  go_wp2
  go_ret
  exact ⟨_, rfl, ⟨by simp, by simp, by simp⟩, (by repeat (first | exact Below.refl _ _ | (refine Below.alloc ?_ (by first | omega | (simp; done) | (simp; omega)) _) | (refine Below.setCell ?_ (by first | omega | (simp; done) | (simp; omega)) _) | (refine Below.drew ?_)))⟩
end Go.Proofs.YtaehklhbokocbaaGreatDoor
