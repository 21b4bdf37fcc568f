/-
  (Limits).Fits by contract, and the walk of QuotaFits: it answers true for every three limits, and old memory stays; the condition: what errors.errorType holds.
-/
import Derived.Test.YtaehklhbokocbaaGreatDoorZQAwake
import Derived.Deep.RegionHeld3
set_option linter.unusedVariables false
set_option linter.unusedSimpArgs false
namespace Go.Proofs.YtaehklhbokocbaaGreatDoor
open Go.RowKit Go.Extern.Stop Go.Stop Go.Extern
def fitsB (kr kc kb kp ks kt mr mc mb mp ms mt : Int) : Bool := decide (kr ≤ mr) && decide (kc ≤ mc) && decide (kb ≤ mb) && decide (kp ≤ mp) && decide (ks ≤ ms) && decide (kt ≤ mt)
theorem fitsB_iff (kr kc kb kp ks kt mr mc mb mp ms mt : Int) : fitsB kr kc kb kp ks kt mr mc mb mp ms mt = true ↔ (kr ≤ mr ∧ kc ≤ mc ∧ kb ≤ mb ∧ kp ≤ mp ∧ ks ≤ ms ∧ kt ≤ mt) := by
  simp [fitsB, and_assoc]
theorem fits_yes (kr kc kb kp ks kt mr mc mb mp ms mt : Int) (w : World) (h : fitsB kr kc kb kp ks kt mr mc mb mp ms mt = true) : Calls Tryz.prog 24 #[.agg #[.int .i64 kr, .int .i64 kc, .int .i64 kb, .int .i64 kp, .int .i64 ks, .int .i64 kt], .agg #[.int .i64 mr, .int .i64 mc, .int .i64 mb, .int .i64 mp, .int .i64 ms, .int .i64 mt]] w fun e w' => e = .returned (.bool true) ∧ Below w.heap.size w w' := by
  obtain ⟨h0, h1, h2, h3, h4, h5⟩ := (fitsB_iff _ _ _ _ _ _ _ _ _ _ _ _).1 h
  clear h
  go_enter Tryz.func24, Tryz.ntmps24
  go_wp2
  go_ret
  exact ⟨rfl, (by repeat (first | exact Below.refl _ _ | (refine Below.alloc ?_ (by first | omega | (simp; done) | (simp; omega)) _) | (refine Below.setCell ?_ (by first | omega | (simp; done) | (simp; omega)) _) | (refine Below.drew ?_)))⟩
theorem fits_no0 (kr kc kb kp ks kt mr mc mb mp ms mt : Int) (w : World)  (h0 : ¬ kr ≤ mr) : Calls Tryz.prog 24 #[.agg #[.int .i64 kr, .int .i64 kc, .int .i64 kb, .int .i64 kp, .int .i64 ks, .int .i64 kt], .agg #[.int .i64 mr, .int .i64 mc, .int .i64 mb, .int .i64 mp, .int .i64 ms, .int .i64 mt]] w fun e w' => e = .returned (.bool false) ∧ Below w.heap.size w w' := by
  go_enter Tryz.func24, Tryz.ntmps24
  go_wp2
  go_ret
  exact ⟨rfl, (by repeat (first | exact Below.refl _ _ | (refine Below.alloc ?_ (by first | omega | (simp; done) | (simp; omega)) _) | (refine Below.setCell ?_ (by first | omega | (simp; done) | (simp; omega)) _) | (refine Below.drew ?_)))⟩
theorem fits_no1 (kr kc kb kp ks kt mr mc mb mp ms mt : Int) (w : World) (h0 : kr ≤ mr) (h1 : ¬ kc ≤ mc) : Calls Tryz.prog 24 #[.agg #[.int .i64 kr, .int .i64 kc, .int .i64 kb, .int .i64 kp, .int .i64 ks, .int .i64 kt], .agg #[.int .i64 mr, .int .i64 mc, .int .i64 mb, .int .i64 mp, .int .i64 ms, .int .i64 mt]] w fun e w' => e = .returned (.bool false) ∧ Below w.heap.size w w' := by
  go_enter Tryz.func24, Tryz.ntmps24
  go_wp2
  go_ret
  exact ⟨rfl, (by repeat (first | exact Below.refl _ _ | (refine Below.alloc ?_ (by first | omega | (simp; done) | (simp; omega)) _) | (refine Below.setCell ?_ (by first | omega | (simp; done) | (simp; omega)) _) | (refine Below.drew ?_)))⟩
theorem fits_no2 (kr kc kb kp ks kt mr mc mb mp ms mt : Int) (w : World) (h0 : kr ≤ mr) (h1 : kc ≤ mc) (h2 : ¬ kb ≤ mb) : Calls Tryz.prog 24 #[.agg #[.int .i64 kr, .int .i64 kc, .int .i64 kb, .int .i64 kp, .int .i64 ks, .int .i64 kt], .agg #[.int .i64 mr, .int .i64 mc, .int .i64 mb, .int .i64 mp, .int .i64 ms, .int .i64 mt]] w fun e w' => e = .returned (.bool false) ∧ Below w.heap.size w w' := by
  go_enter Tryz.func24, Tryz.ntmps24
  go_wp2
  go_ret
  exact ⟨rfl, (by repeat (first | exact Below.refl _ _ | (refine Below.alloc ?_ (by first | omega | (simp; done) | (simp; omega)) _) | (refine Below.setCell ?_ (by first | omega | (simp; done) | (simp; omega)) _) | (refine Below.drew ?_)))⟩
theorem fits_no3 (kr kc kb kp ks kt mr mc mb mp ms mt : Int) (w : World) (h0 : kr ≤ mr) (h1 : kc ≤ mc) (h2 : kb ≤ mb) (h3 : ¬ kp ≤ mp) : Calls Tryz.prog 24 #[.agg #[.int .i64 kr, .int .i64 kc, .int .i64 kb, .int .i64 kp, .int .i64 ks, .int .i64 kt], .agg #[.int .i64 mr, .int .i64 mc, .int .i64 mb, .int .i64 mp, .int .i64 ms, .int .i64 mt]] w fun e w' => e = .returned (.bool false) ∧ Below w.heap.size w w' := by
  go_enter Tryz.func24, Tryz.ntmps24
  go_wp2
  go_ret
  exact ⟨rfl, (by repeat (first | exact Below.refl _ _ | (refine Below.alloc ?_ (by first | omega | (simp; done) | (simp; omega)) _) | (refine Below.setCell ?_ (by first | omega | (simp; done) | (simp; omega)) _) | (refine Below.drew ?_)))⟩
theorem fits_no4 (kr kc kb kp ks kt mr mc mb mp ms mt : Int) (w : World) (h0 : kr ≤ mr) (h1 : kc ≤ mc) (h2 : kb ≤ mb) (h3 : kp ≤ mp) (h4 : ¬ ks ≤ ms) : Calls Tryz.prog 24 #[.agg #[.int .i64 kr, .int .i64 kc, .int .i64 kb, .int .i64 kp, .int .i64 ks, .int .i64 kt], .agg #[.int .i64 mr, .int .i64 mc, .int .i64 mb, .int .i64 mp, .int .i64 ms, .int .i64 mt]] w fun e w' => e = .returned (.bool false) ∧ Below w.heap.size w w' := by
  go_enter Tryz.func24, Tryz.ntmps24
  go_wp2
  go_ret
  exact ⟨rfl, (by repeat (first | exact Below.refl _ _ | (refine Below.alloc ?_ (by first | omega | (simp; done) | (simp; omega)) _) | (refine Below.setCell ?_ (by first | omega | (simp; done) | (simp; omega)) _) | (refine Below.drew ?_)))⟩
theorem fits_no5 (kr kc kb kp ks kt mr mc mb mp ms mt : Int) (w : World) (h0 : kr ≤ mr) (h1 : kc ≤ mc) (h2 : kb ≤ mb) (h3 : kp ≤ mp) (h4 : ks ≤ ms) (h5 : ¬ kt ≤ mt) : Calls Tryz.prog 24 #[.agg #[.int .i64 kr, .int .i64 kc, .int .i64 kb, .int .i64 kp, .int .i64 ks, .int .i64 kt], .agg #[.int .i64 mr, .int .i64 mc, .int .i64 mb, .int .i64 mp, .int .i64 ms, .int .i64 mt]] w fun e w' => e = .returned (.bool false) ∧ Below w.heap.size w w' := by
  go_enter Tryz.func24, Tryz.ntmps24
  go_wp2
  go_ret
  exact ⟨rfl, (by repeat (first | exact Below.refl _ _ | (refine Below.alloc ?_ (by first | omega | (simp; done) | (simp; omega)) _) | (refine Below.setCell ?_ (by first | omega | (simp; done) | (simp; omega)) _) | (refine Below.drew ?_)))⟩
theorem fits_no (kr kc kb kp ks kt mr mc mb mp ms mt : Int) (w : World) (h : fitsB kr kc kb kp ks kt mr mc mb mp ms mt = false) : Calls Tryz.prog 24 #[.agg #[.int .i64 kr, .int .i64 kc, .int .i64 kb, .int .i64 kp, .int .i64 ks, .int .i64 kt], .agg #[.int .i64 mr, .int .i64 mc, .int .i64 mb, .int .i64 mp, .int .i64 ms, .int .i64 mt]] w fun e w' => e = .returned (.bool false) ∧ Below w.heap.size w w' := by
  by_cases h0 : kr ≤ mr
  case neg => exact fits_no0 _ _ _ _ _ _ _ _ _ _ _ _ _ h0
  by_cases h1 : kc ≤ mc
  case neg => exact fits_no1 _ _ _ _ _ _ _ _ _ _ _ _ _ h0 h1
  by_cases h2 : kb ≤ mb
  case neg => exact fits_no2 _ _ _ _ _ _ _ _ _ _ _ _ _ h0 h1 h2
  by_cases h3 : kp ≤ mp
  case neg => exact fits_no3 _ _ _ _ _ _ _ _ _ _ _ _ _ h0 h1 h2 h3
  by_cases h4 : ks ≤ ms
  case neg => exact fits_no4 _ _ _ _ _ _ _ _ _ _ _ _ _ h0 h1 h2 h3 h4
  by_cases h5 : kt ≤ mt
  case neg => exact fits_no5 _ _ _ _ _ _ _ _ _ _ _ _ _ h0 h1 h2 h3 h4 h5
  exact absurd ((fitsB_iff _ _ _ _ _ _ _ _ _ _ _ _).2 ⟨h0, h1, h2, h3, h4, h5⟩) (by rw [h]; decide)
end Go.Proofs.YtaehklhbokocbaaGreatDoor
