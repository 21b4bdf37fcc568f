/-
  (Limits).Fits by contract, and the walk of QuotaFits: it answers true for every three limits, and old memory stays; the condition: what errors.errorType holds.
-/
import Derived.Test.YtgicnjpneoedoaaDoorLaws
import Derived.Deep.RegionHeld3
namespace Go.Proofs.YtgicnjpneoedoaaDoor
open Go.RowKit Go.Extern.Stop Go.Stop Go.Extern

/-- An operation that yields its value in every world that meets S is taken first; where its value goes is named. -/
theorem takeH {P : Program} {md : Region.Mode} {ops : Array Oper} {Q : Exit → Act → World → Prop} {S : World → Prop} {i : Nat} {oi : Oper} {d : Option Tmp} {v : Value} {fuel : Nat} {listed : Array Bool} {a : Act} {w : World} (hi : ops[i]? = some oi) (hd : oi.dst = d)
    (hs : Region.noSelect ops = true) (hf : Region.free md ops listed i = true) (hr : (Region.ready md ops listed).contains i = true)
    (hQ : ∀ c a w, Q (.panic c) (a.put d v) w → Q (.panic c) a w) (hy : YieldsIf P ops S oi v a) (hS : S w)
    (h : wpAnyH P md ops Q S fuel (listed.setIfInBounds i true) (a.put d v) w) : wpAnyH P md ops Q S (fuel + 1) listed a w := by
  subst hd
  exact wpAnyH_take hi hs hf hr hQ hy hS h

/-- Is the first nowhere above the second? -/
def fitsB (kr kc kb kp ks kt mr mc mb mp ms mt : Int) : Bool := decide (kr ≤ mr) && decide (kc ≤ mc) && decide (kb ≤ mb) && decide (kp ≤ mp) && decide (ks ≤ ms) && decide (kt ≤ mt)
theorem fitsB_iff (kr kc kb kp ks kt mr mc mb mp ms mt : Int) : fitsB kr kc kb kp ks kt mr mc mb mp ms mt = true ↔ (kr ≤ mr ∧ kc ≤ mc ∧ kb ≤ mb ∧ kp ≤ mp ∧ ks ≤ ms ∧ kt ≤ mt) := by
  simp [fitsB, and_assoc]


theorem fits_yes (kr kc kb kp ks kt mr mc mb mp ms mt : Int) (w : World) (h : fitsB kr kc kb kp ks kt mr mc mb mp ms mt = true) : Calls Tryd.prog 13 #[.agg #[.int .i64 kr, .int .i64 kc, .int .i64 kb, .int .i64 kp, .int .i64 ks, .int .i64 kt], .agg #[.int .i64 mr, .int .i64 mc, .int .i64 mb, .int .i64 mp, .int .i64 ms, .int .i64 mt]] w fun e w' => e = .returned (.bool true) ∧ Below w.heap.size w w' := by
  obtain ⟨h0, h1, h2, h3, h4, h5⟩ := (fitsB_iff _ _ _ _ _ _ _ _ _ _ _ _).1 h
  clear h
  go_enter Tryd.func13, Tryd.ntmps13
  go_wp2
  go_ret
  exact ⟨rfl, (by repeat (first | exact Below.refl _ _ | (refine Below.alloc ?_ (by first | omega | (simp; done) | (simp; omega)) _) | (refine Below.setCell ?_ (by first | omega | (simp; done) | (simp; omega)) _) | (refine Below.drew ?_)))⟩

theorem fits_no0 (kr kc kb kp ks kt mr mc mb mp ms mt : Int) (w : World)  (h0 : ¬ kr ≤ mr) : Calls Tryd.prog 13 #[.agg #[.int .i64 kr, .int .i64 kc, .int .i64 kb, .int .i64 kp, .int .i64 ks, .int .i64 kt], .agg #[.int .i64 mr, .int .i64 mc, .int .i64 mb, .int .i64 mp, .int .i64 ms, .int .i64 mt]] w fun e w' => e = .returned (.bool false) ∧ Below w.heap.size w w' := by
  go_enter Tryd.func13, Tryd.ntmps13
  go_wp2
  go_ret
  exact ⟨rfl, (by repeat (first | exact Below.refl _ _ | (refine Below.alloc ?_ (by first | omega | (simp; done) | (simp; omega)) _) | (refine Below.setCell ?_ (by first | omega | (simp; done) | (simp; omega)) _) | (refine Below.drew ?_)))⟩

theorem fits_no1 (kr kc kb kp ks kt mr mc mb mp ms mt : Int) (w : World) (h0 : kr ≤ mr) (h1 : ¬ kc ≤ mc) : Calls Tryd.prog 13 #[.agg #[.int .i64 kr, .int .i64 kc, .int .i64 kb, .int .i64 kp, .int .i64 ks, .int .i64 kt], .agg #[.int .i64 mr, .int .i64 mc, .int .i64 mb, .int .i64 mp, .int .i64 ms, .int .i64 mt]] w fun e w' => e = .returned (.bool false) ∧ Below w.heap.size w w' := by
  go_enter Tryd.func13, Tryd.ntmps13
  go_wp2
  go_ret
  exact ⟨rfl, (by repeat (first | exact Below.refl _ _ | (refine Below.alloc ?_ (by first | omega | (simp; done) | (simp; omega)) _) | (refine Below.setCell ?_ (by first | omega | (simp; done) | (simp; omega)) _) | (refine Below.drew ?_)))⟩

theorem fits_no2 (kr kc kb kp ks kt mr mc mb mp ms mt : Int) (w : World) (h0 : kr ≤ mr) (h1 : kc ≤ mc) (h2 : ¬ kb ≤ mb) : Calls Tryd.prog 13 #[.agg #[.int .i64 kr, .int .i64 kc, .int .i64 kb, .int .i64 kp, .int .i64 ks, .int .i64 kt], .agg #[.int .i64 mr, .int .i64 mc, .int .i64 mb, .int .i64 mp, .int .i64 ms, .int .i64 mt]] w fun e w' => e = .returned (.bool false) ∧ Below w.heap.size w w' := by
  go_enter Tryd.func13, Tryd.ntmps13
  go_wp2
  go_ret
  exact ⟨rfl, (by repeat (first | exact Below.refl _ _ | (refine Below.alloc ?_ (by first | omega | (simp; done) | (simp; omega)) _) | (refine Below.setCell ?_ (by first | omega | (simp; done) | (simp; omega)) _) | (refine Below.drew ?_)))⟩

theorem fits_no3 (kr kc kb kp ks kt mr mc mb mp ms mt : Int) (w : World) (h0 : kr ≤ mr) (h1 : kc ≤ mc) (h2 : kb ≤ mb) (h3 : ¬ kp ≤ mp) : Calls Tryd.prog 13 #[.agg #[.int .i64 kr, .int .i64 kc, .int .i64 kb, .int .i64 kp, .int .i64 ks, .int .i64 kt], .agg #[.int .i64 mr, .int .i64 mc, .int .i64 mb, .int .i64 mp, .int .i64 ms, .int .i64 mt]] w fun e w' => e = .returned (.bool false) ∧ Below w.heap.size w w' := by
  go_enter Tryd.func13, Tryd.ntmps13
  go_wp2
  go_ret
  exact ⟨rfl, (by repeat (first | exact Below.refl _ _ | (refine Below.alloc ?_ (by first | omega | (simp; done) | (simp; omega)) _) | (refine Below.setCell ?_ (by first | omega | (simp; done) | (simp; omega)) _) | (refine Below.drew ?_)))⟩

theorem fits_no4 (kr kc kb kp ks kt mr mc mb mp ms mt : Int) (w : World) (h0 : kr ≤ mr) (h1 : kc ≤ mc) (h2 : kb ≤ mb) (h3 : kp ≤ mp) (h4 : ¬ ks ≤ ms) : Calls Tryd.prog 13 #[.agg #[.int .i64 kr, .int .i64 kc, .int .i64 kb, .int .i64 kp, .int .i64 ks, .int .i64 kt], .agg #[.int .i64 mr, .int .i64 mc, .int .i64 mb, .int .i64 mp, .int .i64 ms, .int .i64 mt]] w fun e w' => e = .returned (.bool false) ∧ Below w.heap.size w w' := by
  go_enter Tryd.func13, Tryd.ntmps13
  go_wp2
  go_ret
  exact ⟨rfl, (by repeat (first | exact Below.refl _ _ | (refine Below.alloc ?_ (by first | omega | (simp; done) | (simp; omega)) _) | (refine Below.setCell ?_ (by first | omega | (simp; done) | (simp; omega)) _) | (refine Below.drew ?_)))⟩

theorem fits_no5 (kr kc kb kp ks kt mr mc mb mp ms mt : Int) (w : World) (h0 : kr ≤ mr) (h1 : kc ≤ mc) (h2 : kb ≤ mb) (h3 : kp ≤ mp) (h4 : ks ≤ ms) (h5 : ¬ kt ≤ mt) : Calls Tryd.prog 13 #[.agg #[.int .i64 kr, .int .i64 kc, .int .i64 kb, .int .i64 kp, .int .i64 ks, .int .i64 kt], .agg #[.int .i64 mr, .int .i64 mc, .int .i64 mb, .int .i64 mp, .int .i64 ms, .int .i64 mt]] w fun e w' => e = .returned (.bool false) ∧ Below w.heap.size w w' := by
  go_enter Tryd.func13, Tryd.ntmps13
  go_wp2
  go_ret
  exact ⟨rfl, (by repeat (first | exact Below.refl _ _ | (refine Below.alloc ?_ (by first | omega | (simp; done) | (simp; omega)) _) | (refine Below.setCell ?_ (by first | omega | (simp; done) | (simp; omega)) _) | (refine Below.drew ?_)))⟩

theorem fits_no (kr kc kb kp ks kt mr mc mb mp ms mt : Int) (w : World) (h : fitsB kr kc kb kp ks kt mr mc mb mp ms mt = false) : Calls Tryd.prog 13 #[.agg #[.int .i64 kr, .int .i64 kc, .int .i64 kb, .int .i64 kp, .int .i64 ks, .int .i64 kt], .agg #[.int .i64 mr, .int .i64 mc, .int .i64 mb, .int .i64 mp, .int .i64 ms, .int .i64 mt]] w fun e w' => e = .returned (.bool false) ∧ Below w.heap.size w w' := by
  by_cases h0 : kr ≤ mr
  case neg => exact fits_no0 _ _ _ _ _ _ _ _ _ _ _ _ _ h0
  by_cases h1 : kc ≤ mc
  case neg => exact fits_no1 _ _ _ _ _ _ _ _ _ _ _ _ _ h0 h1
  by_cases h2 : kb ≤ mb
  case neg => exact fits_no2 _ _ _ _ _ _ _ _ _ _ _ _ _ h0 h1 h2
  by_cases h3 : kp ≤ mp
  case neg => exact fits_no3 _ _ _ _ _ _ _ _ _ _ _ _ _ h0 h1 h2 h3
  by_cases h4 : ks ≤ ms
  case neg => exact fits_no4 _ _ _ _ _ _ _ _ _ _ _ _ _ h0 h1 h2 h3 h4
  by_cases h5 : kt ≤ mt
  case neg => exact fits_no5 _ _ _ _ _ _ _ _ _ _ _ _ _ h0 h1 h2 h3 h4 h5
  exact absurd ((fitsB_iff _ _ _ _ _ _ _ _ _ _ _ _).2 ⟨h0, h1, h2, h3, h4, h5⟩) (by rw [h]; decide)

/-- The boxes of the two limits hold what they held. -/
abbrev Two (W : World) (p q : Nat) (kr kc kb kp ks kt mr mc mb mp ms mt : Int) : Prop := Lim W p kr kc kb kp ks kt ∧ Lim W q mr mc mb mp ms mt
theorem fits_same (kr kc kb kp ks kt mr mc mb mp ms mt : Int) (h : fitsB kr kc kb kp ks kt mr mc mb mp ms mt = true) (h' : fitsB mr mc mb mp ms mt kr kc kb kp ks kt = true) : kr = mr ∧ kc = mc ∧ kb = mb ∧ kp = mp ∧ ks = ms ∧ kt = mt := by
  obtain ⟨h0, h1, h2, h3, h4, h5⟩ := (fitsB_iff _ _ _ _ _ _ _ _ _ _ _ _).1 h
  obtain ⟨k0, k1, k2, k3, k4, k5⟩ := (fitsB_iff _ _ _ _ _ _ _ _ _ _ _ _).1 h'
  omega
theorem fits_self (kr kc kb kp ks kt : Int) : fitsB kr kc kb kp ks kt kr kc kb kp ks kt = true := (fitsB_iff _ _ _ _ _ _ _ _ _ _ _ _).2 (by omega)
theorem fits_along (kr kc kb kp ks kt mr mc mb mp ms mt nr nc nb np ns nt : Int) (h : fitsB kr kc kb kp ks kt mr mc mb mp ms mt = true) (h' : fitsB mr mc mb mp ms mt nr nc nb np ns nt = true) : fitsB kr kc kb kp ks kt nr nc nb np ns nt = true := by
  obtain ⟨h0, h1, h2, h3, h4, h5⟩ := (fitsB_iff _ _ _ _ _ _ _ _ _ _ _ _).1 h
  obtain ⟨k0, k1, k2, k3, k4, k5⟩ := (fitsB_iff _ _ _ _ _ _ _ _ _ _ _ _).1 h'
  exact (fitsB_iff _ _ _ _ _ _ _ _ _ _ _ _).2 (by omega)

theorem held_step {w0 W W' : World} {p q B : Nat} {kr kc kb kp ks kt mr mc mb mp ms mt : Int} (h : (W.cell? ⟨p, 0, none⟩ = some (.int .i64 kr) ∧ W.cell? ⟨p, 1, none⟩ = some (.int .i64 kc) ∧ W.cell? ⟨p, 2, none⟩ = some (.int .i64 kb) ∧ W.cell? ⟨p, 3, none⟩ = some (.int .i64 kp) ∧ W.cell? ⟨p, 4, none⟩ = some (.int .i64 ks) ∧ W.cell? ⟨p, 5, none⟩ = some (.int .i64 kt) ∧ W.cell? ⟨q, 0, none⟩ = some (.int .i64 mr) ∧ W.cell? ⟨q, 1, none⟩ = some (.int .i64 mc) ∧ W.cell? ⟨q, 2, none⟩ = some (.int .i64 mb) ∧ W.cell? ⟨q, 3, none⟩ = some (.int .i64 mp) ∧ W.cell? ⟨q, 4, none⟩ = some (.int .i64 ms) ∧ W.cell? ⟨q, 5, none⟩ = some (.int .i64 mt) ∧ Below B w0 W ∧ p < W.heap.size ∧ q < W.heap.size ∧ B ≤ W.heap.size)) (hb : Below W.heap.size W W') : (W'.cell? ⟨p, 0, none⟩ = some (.int .i64 kr) ∧ W'.cell? ⟨p, 1, none⟩ = some (.int .i64 kc) ∧ W'.cell? ⟨p, 2, none⟩ = some (.int .i64 kb) ∧ W'.cell? ⟨p, 3, none⟩ = some (.int .i64 kp) ∧ W'.cell? ⟨p, 4, none⟩ = some (.int .i64 ks) ∧ W'.cell? ⟨p, 5, none⟩ = some (.int .i64 kt) ∧ W'.cell? ⟨q, 0, none⟩ = some (.int .i64 mr) ∧ W'.cell? ⟨q, 1, none⟩ = some (.int .i64 mc) ∧ W'.cell? ⟨q, 2, none⟩ = some (.int .i64 mb) ∧ W'.cell? ⟨q, 3, none⟩ = some (.int .i64 mp) ∧ W'.cell? ⟨q, 4, none⟩ = some (.int .i64 ms) ∧ W'.cell? ⟨q, 5, none⟩ = some (.int .i64 mt) ∧ Below B w0 W' ∧ p < W'.heap.size ∧ q < W'.heap.size ∧ B ≤ W'.heap.size) := by
  obtain ⟨h0, h1, h2, h3, h4, h5, h6, h7, h8, h9, h10, h11, hB, hp, hq, hs⟩ := h
  have := hb.size
  refine ⟨?_, ?_, ?_, ?_, ?_, ?_, ?_, ?_, ?_, ?_, ?_, ?_, hB.trans (hb.mono hs), by omega, by omega, by omega⟩
  · exact (hb.cell (p := ⟨p, 0, none⟩) hp).trans h0
  · exact (hb.cell (p := ⟨p, 1, none⟩) hp).trans h1
  · exact (hb.cell (p := ⟨p, 2, none⟩) hp).trans h2
  · exact (hb.cell (p := ⟨p, 3, none⟩) hp).trans h3
  · exact (hb.cell (p := ⟨p, 4, none⟩) hp).trans h4
  · exact (hb.cell (p := ⟨p, 5, none⟩) hp).trans h5
  · exact (hb.cell (p := ⟨q, 0, none⟩) hq).trans h6
  · exact (hb.cell (p := ⟨q, 1, none⟩) hq).trans h7
  · exact (hb.cell (p := ⟨q, 2, none⟩) hq).trans h8
  · exact (hb.cell (p := ⟨q, 3, none⟩) hq).trans h9
  · exact (hb.cell (p := ⟨q, 4, none⟩) hq).trans h10
  · exact (hb.cell (p := ⟨q, 5, none⟩) hq).trans h11
theorem held_drew {w0 W : World} {p q B : Nat} {kr kc kb kp ks kt mr mc mb mp ms mt : Int} (h : (W.cell? ⟨p, 0, none⟩ = some (.int .i64 kr) ∧ W.cell? ⟨p, 1, none⟩ = some (.int .i64 kc) ∧ W.cell? ⟨p, 2, none⟩ = some (.int .i64 kb) ∧ W.cell? ⟨p, 3, none⟩ = some (.int .i64 kp) ∧ W.cell? ⟨p, 4, none⟩ = some (.int .i64 ks) ∧ W.cell? ⟨p, 5, none⟩ = some (.int .i64 kt) ∧ W.cell? ⟨q, 0, none⟩ = some (.int .i64 mr) ∧ W.cell? ⟨q, 1, none⟩ = some (.int .i64 mc) ∧ W.cell? ⟨q, 2, none⟩ = some (.int .i64 mb) ∧ W.cell? ⟨q, 3, none⟩ = some (.int .i64 mp) ∧ W.cell? ⟨q, 4, none⟩ = some (.int .i64 ms) ∧ W.cell? ⟨q, 5, none⟩ = some (.int .i64 mt) ∧ Below B w0 W ∧ p < W.heap.size ∧ q < W.heap.size ∧ B ≤ W.heap.size)) : (W.drew.cell? ⟨p, 0, none⟩ = some (.int .i64 kr) ∧ W.drew.cell? ⟨p, 1, none⟩ = some (.int .i64 kc) ∧ W.drew.cell? ⟨p, 2, none⟩ = some (.int .i64 kb) ∧ W.drew.cell? ⟨p, 3, none⟩ = some (.int .i64 kp) ∧ W.drew.cell? ⟨p, 4, none⟩ = some (.int .i64 ks) ∧ W.drew.cell? ⟨p, 5, none⟩ = some (.int .i64 kt) ∧ W.drew.cell? ⟨q, 0, none⟩ = some (.int .i64 mr) ∧ W.drew.cell? ⟨q, 1, none⟩ = some (.int .i64 mc) ∧ W.drew.cell? ⟨q, 2, none⟩ = some (.int .i64 mb) ∧ W.drew.cell? ⟨q, 3, none⟩ = some (.int .i64 mp) ∧ W.drew.cell? ⟨q, 4, none⟩ = some (.int .i64 ms) ∧ W.drew.cell? ⟨q, 5, none⟩ = some (.int .i64 mt) ∧ Below B w0 W.drew ∧ p < W.drew.heap.size ∧ q < W.drew.heap.size ∧ B ≤ W.drew.heap.size) :=
  held_step h ⟨rfl, rfl, rfl, Nat.le_refl _, fun _ _ => rfl⟩


/-- Two limits held against each other by ==. -/
theorem lim_same (kr kc kb kp ks kt : Int) (W : World) : (binOp .eql 23 (.agg #[.int .i64 kr, .int .i64 kc, .int .i64 kb, .int .i64 kp, .int .i64 ks, .int .i64 kt]) (.agg #[.int .i64 kr, .int .i64 kc, .int .i64 kb, .int .i64 kp, .int .i64 ks, .int .i64 kt])).run Tryd.prog W = .ok (.bool true) W := by
  go_simp
theorem lim_diff0 (kr kc kb kp ks kt mr mc mb mp ms mt : Int) (W : World) (h : (kr == mr) = false) : (binOp .eql 23 (.agg #[.int .i64 kr, .int .i64 kc, .int .i64 kb, .int .i64 kp, .int .i64 ks, .int .i64 kt]) (.agg #[.int .i64 mr, .int .i64 mc, .int .i64 mb, .int .i64 mp, .int .i64 ms, .int .i64 mt])).run Tryd.prog W = .ok (.bool false) W := by
  go_simp
theorem lim_diff1 (kr kc kb kp ks kt mc mb mp ms mt : Int) (W : World) (h : (kc == mc) = false) : (binOp .eql 23 (.agg #[.int .i64 kr, .int .i64 kc, .int .i64 kb, .int .i64 kp, .int .i64 ks, .int .i64 kt]) (.agg #[.int .i64 kr, .int .i64 mc, .int .i64 mb, .int .i64 mp, .int .i64 ms, .int .i64 mt])).run Tryd.prog W = .ok (.bool false) W := by
  go_simp
theorem lim_diff2 (kr kc kb kp ks kt mb mp ms mt : Int) (W : World) (h : (kb == mb) = false) : (binOp .eql 23 (.agg #[.int .i64 kr, .int .i64 kc, .int .i64 kb, .int .i64 kp, .int .i64 ks, .int .i64 kt]) (.agg #[.int .i64 kr, .int .i64 kc, .int .i64 mb, .int .i64 mp, .int .i64 ms, .int .i64 mt])).run Tryd.prog W = .ok (.bool false) W := by
  go_simp
theorem lim_diff3 (kr kc kb kp ks kt mp ms mt : Int) (W : World) (h : (kp == mp) = false) : (binOp .eql 23 (.agg #[.int .i64 kr, .int .i64 kc, .int .i64 kb, .int .i64 kp, .int .i64 ks, .int .i64 kt]) (.agg #[.int .i64 kr, .int .i64 kc, .int .i64 kb, .int .i64 mp, .int .i64 ms, .int .i64 mt])).run Tryd.prog W = .ok (.bool false) W := by
  go_simp
theorem lim_diff4 (kr kc kb kp ks kt ms mt : Int) (W : World) (h : (ks == ms) = false) : (binOp .eql 23 (.agg #[.int .i64 kr, .int .i64 kc, .int .i64 kb, .int .i64 kp, .int .i64 ks, .int .i64 kt]) (.agg #[.int .i64 kr, .int .i64 kc, .int .i64 kb, .int .i64 kp, .int .i64 ms, .int .i64 mt])).run Tryd.prog W = .ok (.bool false) W := by
  go_simp
theorem lim_diff5 (kr kc kb kp ks kt mt : Int) (W : World) (h : (kt == mt) = false) : (binOp .eql 23 (.agg #[.int .i64 kr, .int .i64 kc, .int .i64 kb, .int .i64 kp, .int .i64 ks, .int .i64 kt]) (.agg #[.int .i64 kr, .int .i64 kc, .int .i64 kb, .int .i64 kp, .int .i64 ks, .int .i64 mt])).run Tryd.prog W = .ok (.bool false) W := by
  go_simp
theorem lim_diff (kr kc kb kp ks kt mr mc mb mp ms mt : Int) (W : World) (h : ¬ (kr = mr ∧ kc = mc ∧ kb = mb ∧ kp = mp ∧ ks = ms ∧ kt = mt)) : (binOp .eql 23 (.agg #[.int .i64 kr, .int .i64 kc, .int .i64 kb, .int .i64 kp, .int .i64 ks, .int .i64 kt]) (.agg #[.int .i64 mr, .int .i64 mc, .int .i64 mb, .int .i64 mp, .int .i64 ms, .int .i64 mt])).run Tryd.prog W = .ok (.bool false) W := by
  by_cases h0 : kr = mr
  case neg => exact lim_diff0 _ _ _ _ _ _ _ _ _ _ _ _ W (beq_eq_false_iff_ne.2 h0)
  subst h0
  by_cases h1 : kc = mc
  case neg => exact lim_diff1 _ _ _ _ _ _ _ _ _ _ _ W (beq_eq_false_iff_ne.2 h1)
  subst h1
  by_cases h2 : kb = mb
  case neg => exact lim_diff2 _ _ _ _ _ _ _ _ _ _ W (beq_eq_false_iff_ne.2 h2)
  subst h2
  by_cases h3 : kp = mp
  case neg => exact lim_diff3 _ _ _ _ _ _ _ _ _ W (beq_eq_false_iff_ne.2 h3)
  subst h3
  by_cases h4 : ks = ms
  case neg => exact lim_diff4 _ _ _ _ _ _ _ _ W (beq_eq_false_iff_ne.2 h4)
  subst h4
  by_cases h5 : kt = mt
  case neg => exact lim_diff5 _ _ _ _ _ _ _ W (beq_eq_false_iff_ne.2 h5)
  subst h5
  exact absurd ⟨rfl, rfl, rfl, rfl, rfl, rfl⟩ h

theorem held_below {w0 W : World} {p q B : Nat} {kr kc kb kp ks kt mr mc mb mp ms mt : Int} (h : (W.cell? ⟨p, 0, none⟩ = some (.int .i64 kr) ∧ W.cell? ⟨p, 1, none⟩ = some (.int .i64 kc) ∧ W.cell? ⟨p, 2, none⟩ = some (.int .i64 kb) ∧ W.cell? ⟨p, 3, none⟩ = some (.int .i64 kp) ∧ W.cell? ⟨p, 4, none⟩ = some (.int .i64 ks) ∧ W.cell? ⟨p, 5, none⟩ = some (.int .i64 kt) ∧ W.cell? ⟨q, 0, none⟩ = some (.int .i64 mr) ∧ W.cell? ⟨q, 1, none⟩ = some (.int .i64 mc) ∧ W.cell? ⟨q, 2, none⟩ = some (.int .i64 mb) ∧ W.cell? ⟨q, 3, none⟩ = some (.int .i64 mp) ∧ W.cell? ⟨q, 4, none⟩ = some (.int .i64 ms) ∧ W.cell? ⟨q, 5, none⟩ = some (.int .i64 mt) ∧ Below B w0 W ∧ p < W.heap.size ∧ q < W.heap.size ∧ B ≤ W.heap.size)) : Below B w0 W := h.2.2.2.2.2.2.2.2.2.2.2.2.1


set_option maxHeartbeats 4000000 in
theorem quotaFits_A (kr kc kb kp ks kt mr mc mb mp ms mt nr nc nb np ns nt : Int) (w : World) (hg : Hg w) (hab : fitsB kr kc kb kp ks kt mr mc mb mp ms mt = false) (hne : ¬ (kr = mr ∧ kc = mc ∧ kb = mb ∧ kp = mp ∧ ks = ms ∧ kt = mt)) :
    Calls Tryd.prog 6 #[.agg #[.int .i64 kr, .int .i64 kc, .int .i64 kb, .int .i64 kp, .int .i64 ks, .int .i64 kt], .agg #[.int .i64 mr, .int .i64 mc, .int .i64 mb, .int .i64 mp, .int .i64 ms, .int .i64 mt], .agg #[.int .i64 nr, .int .i64 nc, .int .i64 nb, .int .i64 np, .int .i64 ns, .int .i64 nt]] w (Yes w) := by
  have Hab := Lib.hid hab; clear hab
  have HEQ : Hid (∀ W : World, (binOp .eql 23 (.agg #[.int .i64 kr, .int .i64 kc, .int .i64 kb, .int .i64 kp, .int .i64 ks, .int .i64 kt]) (.agg #[.int .i64 mr, .int .i64 mc, .int .i64 mb, .int .i64 mp, .int .i64 ms, .int .i64 mt])).run Tryd.prog W = .ok (.bool false) W) := fun W => lim_diff _ _ _ _ _ _ _ _ _ _ _ _ W hne
  clear hne
  have hgA := ((hg.alloc (.cells #[.int .i64 kr, .int .i64 kc, .int .i64 kb, .int .i64 kp, .int .i64 ks, .int .i64 kt] 23)).alloc (.cells #[.int .i64 mr, .int .i64 mc, .int .i64 mb, .int .i64 mp, .int .i64 ms, .int .i64 mt] 23)).alloc (.cells #[.int .i64 nr, .int .i64 nc, .int .i64 nb, .int .i64 np, .int .i64 ns, .int .i64 nt] 23)
  have HA0 := Lib.hid (((Lim.new w 23 kr kc kb kp ks kt).alloc (.cells #[.int .i64 mr, .int .i64 mc, .int .i64 mb, .int .i64 mp, .int .i64 ms, .int .i64 mt] 23)).alloc (.cells #[.int .i64 nr, .int .i64 nc, .int .i64 nb, .int .i64 np, .int .i64 ns, .int .i64 nt] 23))
  have hB0 := ((Lim.new (w.alloc (.cells #[.int .i64 kr, .int .i64 kc, .int .i64 kb, .int .i64 kp, .int .i64 ks, .int .i64 kt] 23)) 23 mr mc mb mp ms mt)).alloc (.cells #[.int .i64 nr, .int .i64 nc, .int .i64 nb, .int .i64 np, .int .i64 ns, .int .i64 nt] 23)
  have hC0 := Lim.new ((w.alloc (.cells #[.int .i64 kr, .int .i64 kc, .int .i64 kb, .int .i64 kp, .int .i64 ks, .int .i64 kt] 23)).alloc (.cells #[.int .i64 mr, .int .i64 mc, .int .i64 mb, .int .i64 mp, .int .i64 ms, .int .i64 mt] 23)) 23 nr nc nb np ns nt
  rw [World.size_alloc] at hB0
  rw [World.size_alloc, World.size_alloc] at hC0
  have HB0 := Lib.hid hB0
  have HC0 := Lib.hid hC0
  clear hB0 hC0
  go_enter Tryd.func6, Tryd.ntmps6
  go_wp2_with fail
  refine (awake_any _ hgA).mono ?_
  rintro e w1 ⟨rfl, hb⟩
  have hz1 : w.heap.size + 1 + 1 < w1.heap.size := by have := hb.size; simp at this; omega
  have HA1 := Lib.hid (HA0.out.below hb (by simp <;> omega))
  have HB1 := Lib.hid (HB0.out.below hb (by simp <;> omega))
  have HC1 := Lib.hid (HC0.out.below hb (by simp))
  have HW1 := Lib.hid (((((Below.refl w.heap.size w).alloc (Nat.le_refl _) (.cells #[.int .i64 kr, .int .i64 kc, .int .i64 kb, .int .i64 kp, .int .i64 ks, .int .i64 kt] 23)).alloc (by simp) (.cells #[.int .i64 mr, .int .i64 mc, .int .i64 mb, .int .i64 mp, .int .i64 ms, .int .i64 mt] 23)).alloc (by simp; omega) (.cells #[.int .i64 nr, .int .i64 nc, .int .i64 nb, .int .i64 np, .int .i64 ns, .int .i64 nt] 23)).trans (hb.mono (by simp; omega)))
  clear hb hgA hg
  obtain ⟨a0, a1, a2, a3, a4, a5⟩ := HA1.out
  obtain ⟨b0, b1, b2, b3, b4, b5⟩ := HB1.out
  obtain ⟨c0, c1, c2, c3, c4, c5⟩ := HC1.out
  go_wp2_with fail
  refine (fits_yes kr kc kb kp ks kt kr kc kb kp ks kt _ (fits_self _ _ _ _ _ _)).mono ?_
  rintro e w2 ⟨rfl, hb⟩
  have hz2 : w.heap.size + 1 + 1 < w2.heap.size := by have := hb.size; omega
  have HA2 := Lib.hid (HA1.out.below hb (by omega))
  have HB2 := Lib.hid (HB1.out.below hb (by omega))
  have HC2 := Lib.hid (HC1.out.below hb (by omega))
  have HW2 := Lib.hid (HW1.out.trans (hb.mono (by omega)))
  clear a0 a1 a2 a3 a4 a5 b0 b1 b2 b3 b4 b5 c0 c1 c2 c3 c4 c5 hb
  obtain ⟨a0, a1, a2, a3, a4, a5⟩ := HA2.out
  obtain ⟨b0, b1, b2, b3, b4, b5⟩ := HB2.out
  obtain ⟨c0, c1, c2, c3, c4, c5⟩ := HC2.out
  go_wp2_with fail
  refine (fits_no kr kc kb kp ks kt mr mc mb mp ms mt _ Hab.out).mono ?_
  rintro e w3 ⟨rfl, hb⟩
  have hz3 : w.heap.size + 1 + 1 < w3.heap.size := by have := hb.size; omega
  have HA3 := Lib.hid (HA2.out.below hb (by omega))
  have HB3 := Lib.hid (HB2.out.below hb (by omega))
  have HC3 := Lib.hid (HC2.out.below hb (by omega))
  have HW3 := Lib.hid (HW2.out.trans (hb.mono (by omega)))
  clear a0 a1 a2 a3 a4 a5 b0 b1 b2 b3 b4 b5 c0 c1 c2 c3 c4 c5 hb
  obtain ⟨a0, a1, a2, a3, a4, a5⟩ := HA3.out
  obtain ⟨b0, b1, b2, b3, b4, b5⟩ := HB3.out
  obtain ⟨c0, c1, c2, c3, c4, c5⟩ := HC3.out
  go_wp2_with fail
  have hS : (w3.cell? ⟨w.heap.size, 0, none⟩ = some (.int .i64 kr) ∧ w3.cell? ⟨w.heap.size, 1, none⟩ = some (.int .i64 kc) ∧ w3.cell? ⟨w.heap.size, 2, none⟩ = some (.int .i64 kb) ∧ w3.cell? ⟨w.heap.size, 3, none⟩ = some (.int .i64 kp) ∧ w3.cell? ⟨w.heap.size, 4, none⟩ = some (.int .i64 ks) ∧ w3.cell? ⟨w.heap.size, 5, none⟩ = some (.int .i64 kt) ∧ w3.cell? ⟨w.heap.size + 1, 0, none⟩ = some (.int .i64 mr) ∧ w3.cell? ⟨w.heap.size + 1, 1, none⟩ = some (.int .i64 mc) ∧ w3.cell? ⟨w.heap.size + 1, 2, none⟩ = some (.int .i64 mb) ∧ w3.cell? ⟨w.heap.size + 1, 3, none⟩ = some (.int .i64 mp) ∧ w3.cell? ⟨w.heap.size + 1, 4, none⟩ = some (.int .i64 ms) ∧ w3.cell? ⟨w.heap.size + 1, 5, none⟩ = some (.int .i64 mt) ∧ Below w.heap.size w w3 ∧ w.heap.size < w3.heap.size ∧ w.heap.size + 1 < w3.heap.size ∧ w.heap.size ≤ w3.heap.size) := ⟨a0, a1, a2, a3, a4, a5, b0, b1, b2, b3, b4, b5, HW3.out, by omega, by omega, by omega⟩
  clear a0 a1 a2 a3 a4 a5 b0 b1 b2 b3 b4 b5 c0 c1 c2 c3 c4 c5
  have heq := HEQ.out
  refine wp_region_held_drew (S := fun W => (W.cell? ⟨w.heap.size, 0, none⟩ = some (.int .i64 kr) ∧ W.cell? ⟨w.heap.size, 1, none⟩ = some (.int .i64 kc) ∧ W.cell? ⟨w.heap.size, 2, none⟩ = some (.int .i64 kb) ∧ W.cell? ⟨w.heap.size, 3, none⟩ = some (.int .i64 kp) ∧ W.cell? ⟨w.heap.size, 4, none⟩ = some (.int .i64 ks) ∧ W.cell? ⟨w.heap.size, 5, none⟩ = some (.int .i64 kt) ∧ W.cell? ⟨w.heap.size + 1, 0, none⟩ = some (.int .i64 mr) ∧ W.cell? ⟨w.heap.size + 1, 1, none⟩ = some (.int .i64 mc) ∧ W.cell? ⟨w.heap.size + 1, 2, none⟩ = some (.int .i64 mb) ∧ W.cell? ⟨w.heap.size + 1, 3, none⟩ = some (.int .i64 mp) ∧ W.cell? ⟨w.heap.size + 1, 4, none⟩ = some (.int .i64 ms) ∧ W.cell? ⟨w.heap.size + 1, 5, none⟩ = some (.int .i64 mt) ∧ Below w.heap.size w W ∧ w.heap.size < W.heap.size ∧ w.heap.size + 1 < W.heap.size ∧ w.heap.size ≤ W.heap.size)) (by kernel_rfl) (held_drew hS) (fun hHeld => ?_)
  refine takeH (i := 0) (d := (some 29)) (v := ?_) rfl rfl (by kernel_rfl) (by kernel_rfl) (by kernel_rfl) (fun _ _ _ h => h) (Or.inl ⟨by rfl, ?_⟩) (by assumption) ?_
  rotate_left
  · (intro w hSw; (try dsimp only at hSw); go_simp; (try with_reducible rfl))
  simp only [Act.put, List.setIfInBounds_toArray, List.set_cons_zero, List.set_cons_succ]
  refine takeH (i := 1) (d := (some 30)) (v := ?_) rfl rfl (by kernel_rfl) (by kernel_rfl) (by kernel_rfl) (fun _ _ _ h => h) (Or.inl ⟨by rfl, ?_⟩) (by assumption) ?_
  rotate_left
  · (intro w hSw; (try dsimp only at hSw); go_simp; (try with_reducible rfl))
  simp only [Act.put, List.setIfInBounds_toArray, List.set_cons_zero, List.set_cons_succ]
  refine takeH (i := 8) (d := (some 37)) (v := ?_) rfl rfl (by kernel_rfl) (by kernel_rfl) (by kernel_rfl) (fun _ _ _ h => h) (Or.inl ⟨by rfl, ?_⟩) (by assumption) ?_
  rotate_left
  · (intro w hSw; (try dsimp only at hSw); go_simp; (try with_reducible rfl))
  simp only [Act.put, List.setIfInBounds_toArray, List.set_cons_zero, List.set_cons_succ]
  refine takeH (i := 9) (d := (some 38)) (v := ?_) rfl rfl (by kernel_rfl) (by kernel_rfl) (by kernel_rfl) (fun _ _ _ h => h) (Or.inl ⟨by rfl, ?_⟩) (by assumption) ?_
  rotate_left
  · (intro w hSw; (try dsimp only at hSw); go_simp; (try with_reducible rfl))
  simp only [Act.put, List.setIfInBounds_toArray, List.set_cons_zero, List.set_cons_succ]
  refine takeH (i := 10) (d := (some 39)) (v := ?_) rfl rfl (by kernel_rfl) (by kernel_rfl) (by kernel_rfl) (fun _ _ _ h => h) (Or.inl ⟨by rfl, ?_⟩) (by assumption) ?_
  rotate_left
  · (intro w hSw; (try dsimp only at hSw); go_simp; (try with_reducible rfl))
  simp only [Act.put, List.setIfInBounds_toArray, List.set_cons_zero, List.set_cons_succ]
  refine wpAnyH_ready (rs := [2]) (by kernel_rfl) (by simp) ?_
  refine AllReadyH.cons rfl (fun K hK => ?_) AllReadyH.nil
  go_simp
  refine (fits_no kr kc kb kp ks kt mr mc mb mp ms mt _ Hab.out).mono ?_
  rintro e w9 ⟨rfl, hb⟩
  dsimp only
  refine hK.out _ _ (held_step hHeld hb) (fun hHeld2 => ?_)
  clear hK K hHeld
  rename _ => hHeld
  refine takeH (i := 3) (d := (some 32)) (v := ?_) rfl rfl (by kernel_rfl) (by kernel_rfl) (by kernel_rfl) (fun _ _ _ h => h) (Or.inl ⟨by rfl, ?_⟩) (by assumption) ?_
  rotate_left
  · (intro w hSw; (try dsimp only at hSw); go_simp; (try with_reducible rfl))
  simp only [Act.put, List.setIfInBounds_toArray, List.set_cons_zero, List.set_cons_succ]
  refine takeH (i := 4) (d := (some 33)) (v := undef) rfl rfl (by kernel_rfl) (by kernel_rfl) (by kernel_rfl) (fun _ _ _ h => h) (Or.inr ⟨by rfl, rfl⟩) (by assumption) ?_
  simp only [Act.put, List.setIfInBounds_toArray, List.set_cons_zero, List.set_cons_succ]
  refine takeH (i := 5) (d := (some 34)) (v := undef) rfl rfl (by kernel_rfl) (by kernel_rfl) (by kernel_rfl) (fun _ _ _ h => h) (Or.inr ⟨by rfl, rfl⟩) (by assumption) ?_
  simp only [Act.put, List.setIfInBounds_toArray, List.set_cons_zero, List.set_cons_succ]
  refine takeH (i := 6) (d := (some 35)) (v := undef) rfl rfl (by kernel_rfl) (by kernel_rfl) (by kernel_rfl) (fun _ _ _ h => h) (Or.inr ⟨by rfl, rfl⟩) (by assumption) ?_
  simp only [Act.put, List.setIfInBounds_toArray, List.set_cons_zero, List.set_cons_succ]
  refine takeH (i := 7) (d := (some 36)) (v := ?_) rfl rfl (by kernel_rfl) (by kernel_rfl) (by kernel_rfl) (fun _ _ _ h => h) (Or.inl ⟨by rfl, ?_⟩) (by assumption) ?_
  rotate_left
  · (intro w hSw; (try dsimp only at hSw); go_simp; (try with_reducible rfl))
  simp only [Act.put, List.setIfInBounds_toArray, List.set_cons_zero, List.set_cons_succ]
  refine takeH (i := 11) (d := (some 40)) (v := ?_) rfl rfl (by kernel_rfl) (by kernel_rfl) (by kernel_rfl) (fun _ _ _ h => h) (Or.inl ⟨by rfl, ?_⟩) (by assumption) ?_
  rotate_left
  · (intro w hSw; (try dsimp only at hSw); go_simp; (try with_reducible rfl))
  simp only [Act.put, List.setIfInBounds_toArray, List.set_cons_zero, List.set_cons_succ]
  refine takeH (i := 12) (d := (some 6)) (v := ?_) rfl rfl (by kernel_rfl) (by kernel_rfl) (by kernel_rfl) (fun _ _ _ h => h) (Or.inl ⟨by rfl, ?_⟩) (by assumption) ?_
  rotate_left
  · (intro w hSw; (try dsimp only at hSw); go_simp; (try with_reducible rfl))
  simp only [Act.put, List.setIfInBounds_toArray, List.set_cons_zero, List.set_cons_succ]
  refine wpAnyH_done (by kernel_rfl) ?_ _
  all_goals
    have HBf := Lib.hid (held_below hHeld)
    clear hHeld heq
    go_wp2
    go_ret
    exact ⟨rfl, HBf.out⟩

set_option maxHeartbeats 4000000 in
theorem quotaFits_B2 (kr kc kb kp ks kt mr mc mb mp ms mt nr nc nb np ns nt : Int) (w : World) (hg : Hg w) (hab : fitsB kr kc kb kp ks kt mr mc mb mp ms mt = true) (hbc : fitsB mr mc mb mp ms mt nr nc nb np ns nt = false) (hba : fitsB mr mc mb mp ms mt kr kc kb kp ks kt = false) (hne : ¬ (kr = mr ∧ kc = mc ∧ kb = mb ∧ kp = mp ∧ ks = ms ∧ kt = mt)) :
    Calls Tryd.prog 6 #[.agg #[.int .i64 kr, .int .i64 kc, .int .i64 kb, .int .i64 kp, .int .i64 ks, .int .i64 kt], .agg #[.int .i64 mr, .int .i64 mc, .int .i64 mb, .int .i64 mp, .int .i64 ms, .int .i64 mt], .agg #[.int .i64 nr, .int .i64 nc, .int .i64 nb, .int .i64 np, .int .i64 ns, .int .i64 nt]] w (Yes w) := by
  have Hab := Lib.hid hab; clear hab
  have Hbc := Lib.hid hbc; clear hbc
  have Hba := Lib.hid hba; clear hba
  have HEQ : Hid (∀ W : World, (binOp .eql 23 (.agg #[.int .i64 kr, .int .i64 kc, .int .i64 kb, .int .i64 kp, .int .i64 ks, .int .i64 kt]) (.agg #[.int .i64 mr, .int .i64 mc, .int .i64 mb, .int .i64 mp, .int .i64 ms, .int .i64 mt])).run Tryd.prog W = .ok (.bool false) W) := fun W => lim_diff _ _ _ _ _ _ _ _ _ _ _ _ W hne
  clear hne
  have hgA := ((hg.alloc (.cells #[.int .i64 kr, .int .i64 kc, .int .i64 kb, .int .i64 kp, .int .i64 ks, .int .i64 kt] 23)).alloc (.cells #[.int .i64 mr, .int .i64 mc, .int .i64 mb, .int .i64 mp, .int .i64 ms, .int .i64 mt] 23)).alloc (.cells #[.int .i64 nr, .int .i64 nc, .int .i64 nb, .int .i64 np, .int .i64 ns, .int .i64 nt] 23)
  have HA0 := Lib.hid (((Lim.new w 23 kr kc kb kp ks kt).alloc (.cells #[.int .i64 mr, .int .i64 mc, .int .i64 mb, .int .i64 mp, .int .i64 ms, .int .i64 mt] 23)).alloc (.cells #[.int .i64 nr, .int .i64 nc, .int .i64 nb, .int .i64 np, .int .i64 ns, .int .i64 nt] 23))
  have hB0 := ((Lim.new (w.alloc (.cells #[.int .i64 kr, .int .i64 kc, .int .i64 kb, .int .i64 kp, .int .i64 ks, .int .i64 kt] 23)) 23 mr mc mb mp ms mt)).alloc (.cells #[.int .i64 nr, .int .i64 nc, .int .i64 nb, .int .i64 np, .int .i64 ns, .int .i64 nt] 23)
  have hC0 := Lim.new ((w.alloc (.cells #[.int .i64 kr, .int .i64 kc, .int .i64 kb, .int .i64 kp, .int .i64 ks, .int .i64 kt] 23)).alloc (.cells #[.int .i64 mr, .int .i64 mc, .int .i64 mb, .int .i64 mp, .int .i64 ms, .int .i64 mt] 23)) 23 nr nc nb np ns nt
  rw [World.size_alloc] at hB0
  rw [World.size_alloc, World.size_alloc] at hC0
  have HB0 := Lib.hid hB0
  have HC0 := Lib.hid hC0
  clear hB0 hC0
  go_enter Tryd.func6, Tryd.ntmps6
  go_wp2_with fail
  refine (awake_any _ hgA).mono ?_
  rintro e w1 ⟨rfl, hb⟩
  have hz1 : w.heap.size + 1 + 1 < w1.heap.size := by have := hb.size; simp at this; omega
  have HA1 := Lib.hid (HA0.out.below hb (by simp <;> omega))
  have HB1 := Lib.hid (HB0.out.below hb (by simp <;> omega))
  have HC1 := Lib.hid (HC0.out.below hb (by simp))
  have HW1 := Lib.hid (((((Below.refl w.heap.size w).alloc (Nat.le_refl _) (.cells #[.int .i64 kr, .int .i64 kc, .int .i64 kb, .int .i64 kp, .int .i64 ks, .int .i64 kt] 23)).alloc (by simp) (.cells #[.int .i64 mr, .int .i64 mc, .int .i64 mb, .int .i64 mp, .int .i64 ms, .int .i64 mt] 23)).alloc (by simp; omega) (.cells #[.int .i64 nr, .int .i64 nc, .int .i64 nb, .int .i64 np, .int .i64 ns, .int .i64 nt] 23)).trans (hb.mono (by simp; omega)))
  clear hb hgA hg
  obtain ⟨a0, a1, a2, a3, a4, a5⟩ := HA1.out
  obtain ⟨b0, b1, b2, b3, b4, b5⟩ := HB1.out
  obtain ⟨c0, c1, c2, c3, c4, c5⟩ := HC1.out
  go_wp2_with fail
  refine (fits_yes kr kc kb kp ks kt kr kc kb kp ks kt _ (fits_self _ _ _ _ _ _)).mono ?_
  rintro e w2 ⟨rfl, hb⟩
  have hz2 : w.heap.size + 1 + 1 < w2.heap.size := by have := hb.size; omega
  have HA2 := Lib.hid (HA1.out.below hb (by omega))
  have HB2 := Lib.hid (HB1.out.below hb (by omega))
  have HC2 := Lib.hid (HC1.out.below hb (by omega))
  have HW2 := Lib.hid (HW1.out.trans (hb.mono (by omega)))
  clear a0 a1 a2 a3 a4 a5 b0 b1 b2 b3 b4 b5 c0 c1 c2 c3 c4 c5 hb
  obtain ⟨a0, a1, a2, a3, a4, a5⟩ := HA2.out
  obtain ⟨b0, b1, b2, b3, b4, b5⟩ := HB2.out
  obtain ⟨c0, c1, c2, c3, c4, c5⟩ := HC2.out
  go_wp2_with fail
  refine (fits_yes kr kc kb kp ks kt mr mc mb mp ms mt _ Hab.out).mono ?_
  rintro e w3 ⟨rfl, hb⟩
  have hz3 : w.heap.size + 1 + 1 < w3.heap.size := by have := hb.size; omega
  have HA3 := Lib.hid (HA2.out.below hb (by omega))
  have HB3 := Lib.hid (HB2.out.below hb (by omega))
  have HC3 := Lib.hid (HC2.out.below hb (by omega))
  have HW3 := Lib.hid (HW2.out.trans (hb.mono (by omega)))
  clear a0 a1 a2 a3 a4 a5 b0 b1 b2 b3 b4 b5 c0 c1 c2 c3 c4 c5 hb
  obtain ⟨a0, a1, a2, a3, a4, a5⟩ := HA3.out
  obtain ⟨b0, b1, b2, b3, b4, b5⟩ := HB3.out
  obtain ⟨c0, c1, c2, c3, c4, c5⟩ := HC3.out
  go_wp2_with fail
  refine (fits_no mr mc mb mp ms mt nr nc nb np ns nt _ Hbc.out).mono ?_
  rintro e w4 ⟨rfl, hb⟩
  have hz4 : w.heap.size + 1 + 1 < w4.heap.size := by have := hb.size; omega
  have HA4 := Lib.hid (HA3.out.below hb (by omega))
  have HB4 := Lib.hid (HB3.out.below hb (by omega))
  have HC4 := Lib.hid (HC3.out.below hb (by omega))
  have HW4 := Lib.hid (HW3.out.trans (hb.mono (by omega)))
  clear a0 a1 a2 a3 a4 a5 b0 b1 b2 b3 b4 b5 c0 c1 c2 c3 c4 c5 hb
  obtain ⟨a0, a1, a2, a3, a4, a5⟩ := HA4.out
  obtain ⟨b0, b1, b2, b3, b4, b5⟩ := HB4.out
  obtain ⟨c0, c1, c2, c3, c4, c5⟩ := HC4.out
  go_wp2_with fail
  have hS : (w4.cell? ⟨w.heap.size, 0, none⟩ = some (.int .i64 kr) ∧ w4.cell? ⟨w.heap.size, 1, none⟩ = some (.int .i64 kc) ∧ w4.cell? ⟨w.heap.size, 2, none⟩ = some (.int .i64 kb) ∧ w4.cell? ⟨w.heap.size, 3, none⟩ = some (.int .i64 kp) ∧ w4.cell? ⟨w.heap.size, 4, none⟩ = some (.int .i64 ks) ∧ w4.cell? ⟨w.heap.size, 5, none⟩ = some (.int .i64 kt) ∧ w4.cell? ⟨w.heap.size + 1, 0, none⟩ = some (.int .i64 mr) ∧ w4.cell? ⟨w.heap.size + 1, 1, none⟩ = some (.int .i64 mc) ∧ w4.cell? ⟨w.heap.size + 1, 2, none⟩ = some (.int .i64 mb) ∧ w4.cell? ⟨w.heap.size + 1, 3, none⟩ = some (.int .i64 mp) ∧ w4.cell? ⟨w.heap.size + 1, 4, none⟩ = some (.int .i64 ms) ∧ w4.cell? ⟨w.heap.size + 1, 5, none⟩ = some (.int .i64 mt) ∧ Below w.heap.size w w4 ∧ w.heap.size < w4.heap.size ∧ w.heap.size + 1 < w4.heap.size ∧ w.heap.size ≤ w4.heap.size) := ⟨a0, a1, a2, a3, a4, a5, b0, b1, b2, b3, b4, b5, HW4.out, by omega, by omega, by omega⟩
  clear a0 a1 a2 a3 a4 a5 b0 b1 b2 b3 b4 b5 c0 c1 c2 c3 c4 c5
  have heq := HEQ.out
  refine wp_region_held_drew (S := fun W => (W.cell? ⟨w.heap.size, 0, none⟩ = some (.int .i64 kr) ∧ W.cell? ⟨w.heap.size, 1, none⟩ = some (.int .i64 kc) ∧ W.cell? ⟨w.heap.size, 2, none⟩ = some (.int .i64 kb) ∧ W.cell? ⟨w.heap.size, 3, none⟩ = some (.int .i64 kp) ∧ W.cell? ⟨w.heap.size, 4, none⟩ = some (.int .i64 ks) ∧ W.cell? ⟨w.heap.size, 5, none⟩ = some (.int .i64 kt) ∧ W.cell? ⟨w.heap.size + 1, 0, none⟩ = some (.int .i64 mr) ∧ W.cell? ⟨w.heap.size + 1, 1, none⟩ = some (.int .i64 mc) ∧ W.cell? ⟨w.heap.size + 1, 2, none⟩ = some (.int .i64 mb) ∧ W.cell? ⟨w.heap.size + 1, 3, none⟩ = some (.int .i64 mp) ∧ W.cell? ⟨w.heap.size + 1, 4, none⟩ = some (.int .i64 ms) ∧ W.cell? ⟨w.heap.size + 1, 5, none⟩ = some (.int .i64 mt) ∧ Below w.heap.size w W ∧ w.heap.size < W.heap.size ∧ w.heap.size + 1 < W.heap.size ∧ w.heap.size ≤ W.heap.size)) (by kernel_rfl) (held_drew hS) (fun hHeld => ?_)
  refine takeH (i := 0) (d := (some 29)) (v := ?_) rfl rfl (by kernel_rfl) (by kernel_rfl) (by kernel_rfl) (fun _ _ _ h => h) (Or.inl ⟨by rfl, ?_⟩) (by assumption) ?_
  rotate_left
  · (intro w hSw; (try dsimp only at hSw); go_simp; (try with_reducible rfl))
  simp only [Act.put, List.setIfInBounds_toArray, List.set_cons_zero, List.set_cons_succ]
  refine takeH (i := 1) (d := (some 30)) (v := ?_) rfl rfl (by kernel_rfl) (by kernel_rfl) (by kernel_rfl) (fun _ _ _ h => h) (Or.inl ⟨by rfl, ?_⟩) (by assumption) ?_
  rotate_left
  · (intro w hSw; (try dsimp only at hSw); go_simp; (try with_reducible rfl))
  simp only [Act.put, List.setIfInBounds_toArray, List.set_cons_zero, List.set_cons_succ]
  refine takeH (i := 8) (d := (some 37)) (v := ?_) rfl rfl (by kernel_rfl) (by kernel_rfl) (by kernel_rfl) (fun _ _ _ h => h) (Or.inl ⟨by rfl, ?_⟩) (by assumption) ?_
  rotate_left
  · (intro w hSw; (try dsimp only at hSw); go_simp; (try with_reducible rfl))
  simp only [Act.put, List.setIfInBounds_toArray, List.set_cons_zero, List.set_cons_succ]
  refine takeH (i := 9) (d := (some 38)) (v := ?_) rfl rfl (by kernel_rfl) (by kernel_rfl) (by kernel_rfl) (fun _ _ _ h => h) (Or.inl ⟨by rfl, ?_⟩) (by assumption) ?_
  rotate_left
  · (intro w hSw; (try dsimp only at hSw); go_simp; (try with_reducible rfl))
  simp only [Act.put, List.setIfInBounds_toArray, List.set_cons_zero, List.set_cons_succ]
  refine takeH (i := 10) (d := (some 39)) (v := ?_) rfl rfl (by kernel_rfl) (by kernel_rfl) (by kernel_rfl) (fun _ _ _ h => h) (Or.inl ⟨by rfl, ?_⟩) (by assumption) ?_
  rotate_left
  · (intro w hSw; (try dsimp only at hSw); go_simp; (try with_reducible rfl))
  simp only [Act.put, List.setIfInBounds_toArray, List.set_cons_zero, List.set_cons_succ]
  refine wpAnyH_ready (rs := [2]) (by kernel_rfl) (by simp) ?_
  refine AllReadyH.cons rfl (fun K hK => ?_) AllReadyH.nil
  go_simp
  refine (fits_yes kr kc kb kp ks kt mr mc mb mp ms mt _ Hab.out).mono ?_
  rintro e w9 ⟨rfl, hb⟩
  dsimp only
  refine hK.out _ _ (held_step hHeld hb) (fun hHeld2 => ?_)
  clear hK K hHeld
  rename _ => hHeld
  refine takeH (i := 3) (d := (some 32)) (v := ?_) rfl rfl (by kernel_rfl) (by kernel_rfl) (by kernel_rfl) (fun _ _ _ h => h) (Or.inl ⟨by rfl, ?_⟩) (by assumption) ?_
  rotate_left
  · (intro w hSw; (try dsimp only at hSw); go_simp; (try with_reducible rfl))
  simp only [Act.put, List.setIfInBounds_toArray, List.set_cons_zero, List.set_cons_succ]
  refine takeH (i := 4) (d := (some 33)) (v := ?_) rfl rfl (by kernel_rfl) (by kernel_rfl) (by kernel_rfl) (fun _ _ _ h => h) (Or.inl ⟨by rfl, ?_⟩) (by assumption) ?_
  rotate_left
  · (intro w hSw; (try dsimp only at hSw); go_simp; (try with_reducible rfl))
  simp only [Act.put, List.setIfInBounds_toArray, List.set_cons_zero, List.set_cons_succ]
  refine takeH (i := 5) (d := (some 34)) (v := ?_) rfl rfl (by kernel_rfl) (by kernel_rfl) (by kernel_rfl) (fun _ _ _ h => h) (Or.inl ⟨by rfl, ?_⟩) (by assumption) ?_
  rotate_left
  · (intro w hSw; (try dsimp only at hSw); go_simp; (try with_reducible rfl))
  simp only [Act.put, List.setIfInBounds_toArray, List.set_cons_zero, List.set_cons_succ]
  refine wpAnyH_ready (rs := [6]) (by kernel_rfl) (by simp) ?_
  refine AllReadyH.cons rfl (fun K hK => ?_) AllReadyH.nil
  go_simp
  refine (fits_no mr mc mb mp ms mt kr kc kb kp ks kt _ Hba.out).mono ?_
  rintro e w9 ⟨rfl, hb⟩
  dsimp only
  refine hK.out _ _ (held_step hHeld hb) (fun hHeld2 => ?_)
  clear hK K hHeld
  rename _ => hHeld
  refine takeH (i := 7) (d := (some 36)) (v := ?_) rfl rfl (by kernel_rfl) (by kernel_rfl) (by kernel_rfl) (fun _ _ _ h => h) (Or.inl ⟨by rfl, ?_⟩) (by assumption) ?_
  rotate_left
  · (intro w hSw; (try dsimp only at hSw); go_simp; (try with_reducible rfl))
  simp only [Act.put, List.setIfInBounds_toArray, List.set_cons_zero, List.set_cons_succ]
  refine takeH (i := 11) (d := (some 40)) (v := ?_) rfl rfl (by kernel_rfl) (by kernel_rfl) (by kernel_rfl) (fun _ _ _ h => h) (Or.inl ⟨by rfl, ?_⟩) (by assumption) ?_
  rotate_left
  · (intro w hSw; (try dsimp only at hSw); go_simp; (try with_reducible rfl))
  simp only [Act.put, List.setIfInBounds_toArray, List.set_cons_zero, List.set_cons_succ]
  refine takeH (i := 12) (d := (some 6)) (v := ?_) rfl rfl (by kernel_rfl) (by kernel_rfl) (by kernel_rfl) (fun _ _ _ h => h) (Or.inl ⟨by rfl, ?_⟩) (by assumption) ?_
  rotate_left
  · (intro w hSw; (try dsimp only at hSw); go_simp; (try with_reducible rfl))
  simp only [Act.put, List.setIfInBounds_toArray, List.set_cons_zero, List.set_cons_succ]
  refine wpAnyH_done (by kernel_rfl) ?_ _
  all_goals
    have HBf := Lib.hid (held_below hHeld)
    clear hHeld heq
    go_wp2
    go_ret
    exact ⟨rfl, HBf.out⟩

set_option maxHeartbeats 4000000 in
theorem quotaFits_C2 (kr kc kb kp ks kt mr mc mb mp ms mt nr nc nb np ns nt : Int) (w : World) (hg : Hg w) (hab : fitsB kr kc kb kp ks kt mr mc mb mp ms mt = true) (hbc : fitsB mr mc mb mp ms mt nr nc nb np ns nt = true) (hac : fitsB kr kc kb kp ks kt nr nc nb np ns nt = true) (hba : fitsB mr mc mb mp ms mt kr kc kb kp ks kt = false) (hne : ¬ (kr = mr ∧ kc = mc ∧ kb = mb ∧ kp = mp ∧ ks = ms ∧ kt = mt)) :
    Calls Tryd.prog 6 #[.agg #[.int .i64 kr, .int .i64 kc, .int .i64 kb, .int .i64 kp, .int .i64 ks, .int .i64 kt], .agg #[.int .i64 mr, .int .i64 mc, .int .i64 mb, .int .i64 mp, .int .i64 ms, .int .i64 mt], .agg #[.int .i64 nr, .int .i64 nc, .int .i64 nb, .int .i64 np, .int .i64 ns, .int .i64 nt]] w (Yes w) := by
  have Hab := Lib.hid hab; clear hab
  have Hbc := Lib.hid hbc; clear hbc
  have Hac := Lib.hid hac; clear hac
  have Hba := Lib.hid hba; clear hba
  have HEQ : Hid (∀ W : World, (binOp .eql 23 (.agg #[.int .i64 kr, .int .i64 kc, .int .i64 kb, .int .i64 kp, .int .i64 ks, .int .i64 kt]) (.agg #[.int .i64 mr, .int .i64 mc, .int .i64 mb, .int .i64 mp, .int .i64 ms, .int .i64 mt])).run Tryd.prog W = .ok (.bool false) W) := fun W => lim_diff _ _ _ _ _ _ _ _ _ _ _ _ W hne
  clear hne
  have hgA := ((hg.alloc (.cells #[.int .i64 kr, .int .i64 kc, .int .i64 kb, .int .i64 kp, .int .i64 ks, .int .i64 kt] 23)).alloc (.cells #[.int .i64 mr, .int .i64 mc, .int .i64 mb, .int .i64 mp, .int .i64 ms, .int .i64 mt] 23)).alloc (.cells #[.int .i64 nr, .int .i64 nc, .int .i64 nb, .int .i64 np, .int .i64 ns, .int .i64 nt] 23)
  have HA0 := Lib.hid (((Lim.new w 23 kr kc kb kp ks kt).alloc (.cells #[.int .i64 mr, .int .i64 mc, .int .i64 mb, .int .i64 mp, .int .i64 ms, .int .i64 mt] 23)).alloc (.cells #[.int .i64 nr, .int .i64 nc, .int .i64 nb, .int .i64 np, .int .i64 ns, .int .i64 nt] 23))
  have hB0 := ((Lim.new (w.alloc (.cells #[.int .i64 kr, .int .i64 kc, .int .i64 kb, .int .i64 kp, .int .i64 ks, .int .i64 kt] 23)) 23 mr mc mb mp ms mt)).alloc (.cells #[.int .i64 nr, .int .i64 nc, .int .i64 nb, .int .i64 np, .int .i64 ns, .int .i64 nt] 23)
  have hC0 := Lim.new ((w.alloc (.cells #[.int .i64 kr, .int .i64 kc, .int .i64 kb, .int .i64 kp, .int .i64 ks, .int .i64 kt] 23)).alloc (.cells #[.int .i64 mr, .int .i64 mc, .int .i64 mb, .int .i64 mp, .int .i64 ms, .int .i64 mt] 23)) 23 nr nc nb np ns nt
  rw [World.size_alloc] at hB0
  rw [World.size_alloc, World.size_alloc] at hC0
  have HB0 := Lib.hid hB0
  have HC0 := Lib.hid hC0
  clear hB0 hC0
  go_enter Tryd.func6, Tryd.ntmps6
  go_wp2_with fail
  refine (awake_any _ hgA).mono ?_
  rintro e w1 ⟨rfl, hb⟩
  have hz1 : w.heap.size + 1 + 1 < w1.heap.size := by have := hb.size; simp at this; omega
  have HA1 := Lib.hid (HA0.out.below hb (by simp <;> omega))
  have HB1 := Lib.hid (HB0.out.below hb (by simp <;> omega))
  have HC1 := Lib.hid (HC0.out.below hb (by simp))
  have HW1 := Lib.hid (((((Below.refl w.heap.size w).alloc (Nat.le_refl _) (.cells #[.int .i64 kr, .int .i64 kc, .int .i64 kb, .int .i64 kp, .int .i64 ks, .int .i64 kt] 23)).alloc (by simp) (.cells #[.int .i64 mr, .int .i64 mc, .int .i64 mb, .int .i64 mp, .int .i64 ms, .int .i64 mt] 23)).alloc (by simp; omega) (.cells #[.int .i64 nr, .int .i64 nc, .int .i64 nb, .int .i64 np, .int .i64 ns, .int .i64 nt] 23)).trans (hb.mono (by simp; omega)))
  clear hb hgA hg
  obtain ⟨a0, a1, a2, a3, a4, a5⟩ := HA1.out
  obtain ⟨b0, b1, b2, b3, b4, b5⟩ := HB1.out
  obtain ⟨c0, c1, c2, c3, c4, c5⟩ := HC1.out
  go_wp2_with fail
  refine (fits_yes kr kc kb kp ks kt kr kc kb kp ks kt _ (fits_self _ _ _ _ _ _)).mono ?_
  rintro e w2 ⟨rfl, hb⟩
  have hz2 : w.heap.size + 1 + 1 < w2.heap.size := by have := hb.size; omega
  have HA2 := Lib.hid (HA1.out.below hb (by omega))
  have HB2 := Lib.hid (HB1.out.below hb (by omega))
  have HC2 := Lib.hid (HC1.out.below hb (by omega))
  have HW2 := Lib.hid (HW1.out.trans (hb.mono (by omega)))
  clear a0 a1 a2 a3 a4 a5 b0 b1 b2 b3 b4 b5 c0 c1 c2 c3 c4 c5 hb
  obtain ⟨a0, a1, a2, a3, a4, a5⟩ := HA2.out
  obtain ⟨b0, b1, b2, b3, b4, b5⟩ := HB2.out
  obtain ⟨c0, c1, c2, c3, c4, c5⟩ := HC2.out
  go_wp2_with fail
  refine (fits_yes kr kc kb kp ks kt mr mc mb mp ms mt _ Hab.out).mono ?_
  rintro e w3 ⟨rfl, hb⟩
  have hz3 : w.heap.size + 1 + 1 < w3.heap.size := by have := hb.size; omega
  have HA3 := Lib.hid (HA2.out.below hb (by omega))
  have HB3 := Lib.hid (HB2.out.below hb (by omega))
  have HC3 := Lib.hid (HC2.out.below hb (by omega))
  have HW3 := Lib.hid (HW2.out.trans (hb.mono (by omega)))
  clear a0 a1 a2 a3 a4 a5 b0 b1 b2 b3 b4 b5 c0 c1 c2 c3 c4 c5 hb
  obtain ⟨a0, a1, a2, a3, a4, a5⟩ := HA3.out
  obtain ⟨b0, b1, b2, b3, b4, b5⟩ := HB3.out
  obtain ⟨c0, c1, c2, c3, c4, c5⟩ := HC3.out
  go_wp2_with fail
  refine (fits_yes mr mc mb mp ms mt nr nc nb np ns nt _ Hbc.out).mono ?_
  rintro e w4 ⟨rfl, hb⟩
  have hz4 : w.heap.size + 1 + 1 < w4.heap.size := by have := hb.size; omega
  have HA4 := Lib.hid (HA3.out.below hb (by omega))
  have HB4 := Lib.hid (HB3.out.below hb (by omega))
  have HC4 := Lib.hid (HC3.out.below hb (by omega))
  have HW4 := Lib.hid (HW3.out.trans (hb.mono (by omega)))
  clear a0 a1 a2 a3 a4 a5 b0 b1 b2 b3 b4 b5 c0 c1 c2 c3 c4 c5 hb
  obtain ⟨a0, a1, a2, a3, a4, a5⟩ := HA4.out
  obtain ⟨b0, b1, b2, b3, b4, b5⟩ := HB4.out
  obtain ⟨c0, c1, c2, c3, c4, c5⟩ := HC4.out
  go_wp2_with fail
  refine (fits_yes kr kc kb kp ks kt nr nc nb np ns nt _ Hac.out).mono ?_
  rintro e w5 ⟨rfl, hb⟩
  have hz5 : w.heap.size + 1 + 1 < w5.heap.size := by have := hb.size; omega
  have HA5 := Lib.hid (HA4.out.below hb (by omega))
  have HB5 := Lib.hid (HB4.out.below hb (by omega))
  have HC5 := Lib.hid (HC4.out.below hb (by omega))
  have HW5 := Lib.hid (HW4.out.trans (hb.mono (by omega)))
  clear a0 a1 a2 a3 a4 a5 b0 b1 b2 b3 b4 b5 c0 c1 c2 c3 c4 c5 hb
  obtain ⟨a0, a1, a2, a3, a4, a5⟩ := HA5.out
  obtain ⟨b0, b1, b2, b3, b4, b5⟩ := HB5.out
  obtain ⟨c0, c1, c2, c3, c4, c5⟩ := HC5.out
  go_wp2_with fail
  have hS : (w5.cell? ⟨w.heap.size, 0, none⟩ = some (.int .i64 kr) ∧ w5.cell? ⟨w.heap.size, 1, none⟩ = some (.int .i64 kc) ∧ w5.cell? ⟨w.heap.size, 2, none⟩ = some (.int .i64 kb) ∧ w5.cell? ⟨w.heap.size, 3, none⟩ = some (.int .i64 kp) ∧ w5.cell? ⟨w.heap.size, 4, none⟩ = some (.int .i64 ks) ∧ w5.cell? ⟨w.heap.size, 5, none⟩ = some (.int .i64 kt) ∧ w5.cell? ⟨w.heap.size + 1, 0, none⟩ = some (.int .i64 mr) ∧ w5.cell? ⟨w.heap.size + 1, 1, none⟩ = some (.int .i64 mc) ∧ w5.cell? ⟨w.heap.size + 1, 2, none⟩ = some (.int .i64 mb) ∧ w5.cell? ⟨w.heap.size + 1, 3, none⟩ = some (.int .i64 mp) ∧ w5.cell? ⟨w.heap.size + 1, 4, none⟩ = some (.int .i64 ms) ∧ w5.cell? ⟨w.heap.size + 1, 5, none⟩ = some (.int .i64 mt) ∧ Below w.heap.size w w5 ∧ w.heap.size < w5.heap.size ∧ w.heap.size + 1 < w5.heap.size ∧ w.heap.size ≤ w5.heap.size) := ⟨a0, a1, a2, a3, a4, a5, b0, b1, b2, b3, b4, b5, HW5.out, by omega, by omega, by omega⟩
  clear a0 a1 a2 a3 a4 a5 b0 b1 b2 b3 b4 b5 c0 c1 c2 c3 c4 c5
  have heq := HEQ.out
  refine wp_region_held_drew (S := fun W => (W.cell? ⟨w.heap.size, 0, none⟩ = some (.int .i64 kr) ∧ W.cell? ⟨w.heap.size, 1, none⟩ = some (.int .i64 kc) ∧ W.cell? ⟨w.heap.size, 2, none⟩ = some (.int .i64 kb) ∧ W.cell? ⟨w.heap.size, 3, none⟩ = some (.int .i64 kp) ∧ W.cell? ⟨w.heap.size, 4, none⟩ = some (.int .i64 ks) ∧ W.cell? ⟨w.heap.size, 5, none⟩ = some (.int .i64 kt) ∧ W.cell? ⟨w.heap.size + 1, 0, none⟩ = some (.int .i64 mr) ∧ W.cell? ⟨w.heap.size + 1, 1, none⟩ = some (.int .i64 mc) ∧ W.cell? ⟨w.heap.size + 1, 2, none⟩ = some (.int .i64 mb) ∧ W.cell? ⟨w.heap.size + 1, 3, none⟩ = some (.int .i64 mp) ∧ W.cell? ⟨w.heap.size + 1, 4, none⟩ = some (.int .i64 ms) ∧ W.cell? ⟨w.heap.size + 1, 5, none⟩ = some (.int .i64 mt) ∧ Below w.heap.size w W ∧ w.heap.size < W.heap.size ∧ w.heap.size + 1 < W.heap.size ∧ w.heap.size ≤ W.heap.size)) (by kernel_rfl) (held_drew hS) (fun hHeld => ?_)
  refine takeH (i := 0) (d := (some 29)) (v := ?_) rfl rfl (by kernel_rfl) (by kernel_rfl) (by kernel_rfl) (fun _ _ _ h => h) (Or.inl ⟨by rfl, ?_⟩) (by assumption) ?_
  rotate_left
  · (intro w hSw; (try dsimp only at hSw); go_simp; (try with_reducible rfl))
  simp only [Act.put, List.setIfInBounds_toArray, List.set_cons_zero, List.set_cons_succ]
  refine takeH (i := 1) (d := (some 30)) (v := ?_) rfl rfl (by kernel_rfl) (by kernel_rfl) (by kernel_rfl) (fun _ _ _ h => h) (Or.inl ⟨by rfl, ?_⟩) (by assumption) ?_
  rotate_left
  · (intro w hSw; (try dsimp only at hSw); go_simp; (try with_reducible rfl))
  simp only [Act.put, List.setIfInBounds_toArray, List.set_cons_zero, List.set_cons_succ]
  refine takeH (i := 8) (d := (some 37)) (v := ?_) rfl rfl (by kernel_rfl) (by kernel_rfl) (by kernel_rfl) (fun _ _ _ h => h) (Or.inl ⟨by rfl, ?_⟩) (by assumption) ?_
  rotate_left
  · (intro w hSw; (try dsimp only at hSw); go_simp; (try with_reducible rfl))
  simp only [Act.put, List.setIfInBounds_toArray, List.set_cons_zero, List.set_cons_succ]
  refine takeH (i := 9) (d := (some 38)) (v := ?_) rfl rfl (by kernel_rfl) (by kernel_rfl) (by kernel_rfl) (fun _ _ _ h => h) (Or.inl ⟨by rfl, ?_⟩) (by assumption) ?_
  rotate_left
  · (intro w hSw; (try dsimp only at hSw); go_simp; (try with_reducible rfl))
  simp only [Act.put, List.setIfInBounds_toArray, List.set_cons_zero, List.set_cons_succ]
  refine takeH (i := 10) (d := (some 39)) (v := ?_) rfl rfl (by kernel_rfl) (by kernel_rfl) (by kernel_rfl) (fun _ _ _ h => h) (Or.inl ⟨by rfl, ?_⟩) (by assumption) ?_
  rotate_left
  · (intro w hSw; (try dsimp only at hSw); go_simp; (try with_reducible rfl))
  simp only [Act.put, List.setIfInBounds_toArray, List.set_cons_zero, List.set_cons_succ]
  refine wpAnyH_ready (rs := [2]) (by kernel_rfl) (by simp) ?_
  refine AllReadyH.cons rfl (fun K hK => ?_) AllReadyH.nil
  go_simp
  refine (fits_yes kr kc kb kp ks kt mr mc mb mp ms mt _ Hab.out).mono ?_
  rintro e w9 ⟨rfl, hb⟩
  dsimp only
  refine hK.out _ _ (held_step hHeld hb) (fun hHeld2 => ?_)
  clear hK K hHeld
  rename _ => hHeld
  refine takeH (i := 3) (d := (some 32)) (v := ?_) rfl rfl (by kernel_rfl) (by kernel_rfl) (by kernel_rfl) (fun _ _ _ h => h) (Or.inl ⟨by rfl, ?_⟩) (by assumption) ?_
  rotate_left
  · (intro w hSw; (try dsimp only at hSw); go_simp; (try with_reducible rfl))
  simp only [Act.put, List.setIfInBounds_toArray, List.set_cons_zero, List.set_cons_succ]
  refine takeH (i := 4) (d := (some 33)) (v := ?_) rfl rfl (by kernel_rfl) (by kernel_rfl) (by kernel_rfl) (fun _ _ _ h => h) (Or.inl ⟨by rfl, ?_⟩) (by assumption) ?_
  rotate_left
  · (intro w hSw; (try dsimp only at hSw); go_simp; (try with_reducible rfl))
  simp only [Act.put, List.setIfInBounds_toArray, List.set_cons_zero, List.set_cons_succ]
  refine takeH (i := 5) (d := (some 34)) (v := ?_) rfl rfl (by kernel_rfl) (by kernel_rfl) (by kernel_rfl) (fun _ _ _ h => h) (Or.inl ⟨by rfl, ?_⟩) (by assumption) ?_
  rotate_left
  · (intro w hSw; (try dsimp only at hSw); go_simp; (try with_reducible rfl))
  simp only [Act.put, List.setIfInBounds_toArray, List.set_cons_zero, List.set_cons_succ]
  refine wpAnyH_ready (rs := [6]) (by kernel_rfl) (by simp) ?_
  refine AllReadyH.cons rfl (fun K hK => ?_) AllReadyH.nil
  go_simp
  refine (fits_no mr mc mb mp ms mt kr kc kb kp ks kt _ Hba.out).mono ?_
  rintro e w9 ⟨rfl, hb⟩
  dsimp only
  refine hK.out _ _ (held_step hHeld hb) (fun hHeld2 => ?_)
  clear hK K hHeld
  rename _ => hHeld
  refine takeH (i := 7) (d := (some 36)) (v := ?_) rfl rfl (by kernel_rfl) (by kernel_rfl) (by kernel_rfl) (fun _ _ _ h => h) (Or.inl ⟨by rfl, ?_⟩) (by assumption) ?_
  rotate_left
  · (intro w hSw; (try dsimp only at hSw); go_simp; (try with_reducible rfl))
  simp only [Act.put, List.setIfInBounds_toArray, List.set_cons_zero, List.set_cons_succ]
  refine takeH (i := 11) (d := (some 40)) (v := ?_) rfl rfl (by kernel_rfl) (by kernel_rfl) (by kernel_rfl) (fun _ _ _ h => h) (Or.inl ⟨by rfl, ?_⟩) (by assumption) ?_
  rotate_left
  · (intro w hSw; (try dsimp only at hSw); go_simp; (try with_reducible rfl))
  simp only [Act.put, List.setIfInBounds_toArray, List.set_cons_zero, List.set_cons_succ]
  refine takeH (i := 12) (d := (some 6)) (v := ?_) rfl rfl (by kernel_rfl) (by kernel_rfl) (by kernel_rfl) (fun _ _ _ h => h) (Or.inl ⟨by rfl, ?_⟩) (by assumption) ?_
  rotate_left
  · (intro w hSw; (try dsimp only at hSw); go_simp; (try with_reducible rfl))
  simp only [Act.put, List.setIfInBounds_toArray, List.set_cons_zero, List.set_cons_succ]
  refine wpAnyH_done (by kernel_rfl) ?_ _
  all_goals
    have HBf := Lib.hid (held_below hHeld)
    clear hHeld heq
    go_wp2
    go_ret
    exact ⟨rfl, HBf.out⟩

set_option maxHeartbeats 4000000 in
theorem quotaFits_B1 (kr kc kb kp ks kt nr nc nb np ns nt : Int) (w : World) (hg : Hg w) (hbc : fitsB kr kc kb kp ks kt nr nc nb np ns nt = false) :
    Calls Tryd.prog 6 #[.agg #[.int .i64 kr, .int .i64 kc, .int .i64 kb, .int .i64 kp, .int .i64 ks, .int .i64 kt], .agg #[.int .i64 kr, .int .i64 kc, .int .i64 kb, .int .i64 kp, .int .i64 ks, .int .i64 kt], .agg #[.int .i64 nr, .int .i64 nc, .int .i64 nb, .int .i64 np, .int .i64 ns, .int .i64 nt]] w (Yes w) := by
  have Hbc := Lib.hid hbc; clear hbc
  have HEQ : Hid (∀ W : World, (binOp .eql 23 (.agg #[.int .i64 kr, .int .i64 kc, .int .i64 kb, .int .i64 kp, .int .i64 ks, .int .i64 kt]) (.agg #[.int .i64 kr, .int .i64 kc, .int .i64 kb, .int .i64 kp, .int .i64 ks, .int .i64 kt])).run Tryd.prog W = .ok (.bool true) W) := fun W => lim_same _ _ _ _ _ _ W

  have hgA := ((hg.alloc (.cells #[.int .i64 kr, .int .i64 kc, .int .i64 kb, .int .i64 kp, .int .i64 ks, .int .i64 kt] 23)).alloc (.cells #[.int .i64 kr, .int .i64 kc, .int .i64 kb, .int .i64 kp, .int .i64 ks, .int .i64 kt] 23)).alloc (.cells #[.int .i64 nr, .int .i64 nc, .int .i64 nb, .int .i64 np, .int .i64 ns, .int .i64 nt] 23)
  have HA0 := Lib.hid (((Lim.new w 23 kr kc kb kp ks kt).alloc (.cells #[.int .i64 kr, .int .i64 kc, .int .i64 kb, .int .i64 kp, .int .i64 ks, .int .i64 kt] 23)).alloc (.cells #[.int .i64 nr, .int .i64 nc, .int .i64 nb, .int .i64 np, .int .i64 ns, .int .i64 nt] 23))
  have hB0 := ((Lim.new (w.alloc (.cells #[.int .i64 kr, .int .i64 kc, .int .i64 kb, .int .i64 kp, .int .i64 ks, .int .i64 kt] 23)) 23 kr kc kb kp ks kt)).alloc (.cells #[.int .i64 nr, .int .i64 nc, .int .i64 nb, .int .i64 np, .int .i64 ns, .int .i64 nt] 23)
  have hC0 := Lim.new ((w.alloc (.cells #[.int .i64 kr, .int .i64 kc, .int .i64 kb, .int .i64 kp, .int .i64 ks, .int .i64 kt] 23)).alloc (.cells #[.int .i64 kr, .int .i64 kc, .int .i64 kb, .int .i64 kp, .int .i64 ks, .int .i64 kt] 23)) 23 nr nc nb np ns nt
  rw [World.size_alloc] at hB0
  rw [World.size_alloc, World.size_alloc] at hC0
  have HB0 := Lib.hid hB0
  have HC0 := Lib.hid hC0
  clear hB0 hC0
  go_enter Tryd.func6, Tryd.ntmps6
  go_wp2_with fail
  refine (awake_any _ hgA).mono ?_
  rintro e w1 ⟨rfl, hb⟩
  have hz1 : w.heap.size + 1 + 1 < w1.heap.size := by have := hb.size; simp at this; omega
  have HA1 := Lib.hid (HA0.out.below hb (by simp <;> omega))
  have HB1 := Lib.hid (HB0.out.below hb (by simp <;> omega))
  have HC1 := Lib.hid (HC0.out.below hb (by simp))
  have HW1 := Lib.hid (((((Below.refl w.heap.size w).alloc (Nat.le_refl _) (.cells #[.int .i64 kr, .int .i64 kc, .int .i64 kb, .int .i64 kp, .int .i64 ks, .int .i64 kt] 23)).alloc (by simp) (.cells #[.int .i64 kr, .int .i64 kc, .int .i64 kb, .int .i64 kp, .int .i64 ks, .int .i64 kt] 23)).alloc (by simp; omega) (.cells #[.int .i64 nr, .int .i64 nc, .int .i64 nb, .int .i64 np, .int .i64 ns, .int .i64 nt] 23)).trans (hb.mono (by simp; omega)))
  clear hb hgA hg
  obtain ⟨a0, a1, a2, a3, a4, a5⟩ := HA1.out
  obtain ⟨b0, b1, b2, b3, b4, b5⟩ := HB1.out
  obtain ⟨c0, c1, c2, c3, c4, c5⟩ := HC1.out
  go_wp2_with fail
  refine (fits_yes kr kc kb kp ks kt kr kc kb kp ks kt _ (fits_self _ _ _ _ _ _)).mono ?_
  rintro e w2 ⟨rfl, hb⟩
  have hz2 : w.heap.size + 1 + 1 < w2.heap.size := by have := hb.size; omega
  have HA2 := Lib.hid (HA1.out.below hb (by omega))
  have HB2 := Lib.hid (HB1.out.below hb (by omega))
  have HC2 := Lib.hid (HC1.out.below hb (by omega))
  have HW2 := Lib.hid (HW1.out.trans (hb.mono (by omega)))
  clear a0 a1 a2 a3 a4 a5 b0 b1 b2 b3 b4 b5 c0 c1 c2 c3 c4 c5 hb
  obtain ⟨a0, a1, a2, a3, a4, a5⟩ := HA2.out
  obtain ⟨b0, b1, b2, b3, b4, b5⟩ := HB2.out
  obtain ⟨c0, c1, c2, c3, c4, c5⟩ := HC2.out
  go_wp2_with fail
  refine (fits_yes kr kc kb kp ks kt kr kc kb kp ks kt _ (fits_self _ _ _ _ _ _)).mono ?_
  rintro e w3 ⟨rfl, hb⟩
  have hz3 : w.heap.size + 1 + 1 < w3.heap.size := by have := hb.size; omega
  have HA3 := Lib.hid (HA2.out.below hb (by omega))
  have HB3 := Lib.hid (HB2.out.below hb (by omega))
  have HC3 := Lib.hid (HC2.out.below hb (by omega))
  have HW3 := Lib.hid (HW2.out.trans (hb.mono (by omega)))
  clear a0 a1 a2 a3 a4 a5 b0 b1 b2 b3 b4 b5 c0 c1 c2 c3 c4 c5 hb
  obtain ⟨a0, a1, a2, a3, a4, a5⟩ := HA3.out
  obtain ⟨b0, b1, b2, b3, b4, b5⟩ := HB3.out
  obtain ⟨c0, c1, c2, c3, c4, c5⟩ := HC3.out
  go_wp2_with fail
  refine (fits_no kr kc kb kp ks kt nr nc nb np ns nt _ Hbc.out).mono ?_
  rintro e w4 ⟨rfl, hb⟩
  have hz4 : w.heap.size + 1 + 1 < w4.heap.size := by have := hb.size; omega
  have HA4 := Lib.hid (HA3.out.below hb (by omega))
  have HB4 := Lib.hid (HB3.out.below hb (by omega))
  have HC4 := Lib.hid (HC3.out.below hb (by omega))
  have HW4 := Lib.hid (HW3.out.trans (hb.mono (by omega)))
  clear a0 a1 a2 a3 a4 a5 b0 b1 b2 b3 b4 b5 c0 c1 c2 c3 c4 c5 hb
  obtain ⟨a0, a1, a2, a3, a4, a5⟩ := HA4.out
  obtain ⟨b0, b1, b2, b3, b4, b5⟩ := HB4.out
  obtain ⟨c0, c1, c2, c3, c4, c5⟩ := HC4.out
  go_wp2_with fail
  have hS : (w4.cell? ⟨w.heap.size, 0, none⟩ = some (.int .i64 kr) ∧ w4.cell? ⟨w.heap.size, 1, none⟩ = some (.int .i64 kc) ∧ w4.cell? ⟨w.heap.size, 2, none⟩ = some (.int .i64 kb) ∧ w4.cell? ⟨w.heap.size, 3, none⟩ = some (.int .i64 kp) ∧ w4.cell? ⟨w.heap.size, 4, none⟩ = some (.int .i64 ks) ∧ w4.cell? ⟨w.heap.size, 5, none⟩ = some (.int .i64 kt) ∧ w4.cell? ⟨w.heap.size + 1, 0, none⟩ = some (.int .i64 kr) ∧ w4.cell? ⟨w.heap.size + 1, 1, none⟩ = some (.int .i64 kc) ∧ w4.cell? ⟨w.heap.size + 1, 2, none⟩ = some (.int .i64 kb) ∧ w4.cell? ⟨w.heap.size + 1, 3, none⟩ = some (.int .i64 kp) ∧ w4.cell? ⟨w.heap.size + 1, 4, none⟩ = some (.int .i64 ks) ∧ w4.cell? ⟨w.heap.size + 1, 5, none⟩ = some (.int .i64 kt) ∧ Below w.heap.size w w4 ∧ w.heap.size < w4.heap.size ∧ w.heap.size + 1 < w4.heap.size ∧ w.heap.size ≤ w4.heap.size) := ⟨a0, a1, a2, a3, a4, a5, b0, b1, b2, b3, b4, b5, HW4.out, by omega, by omega, by omega⟩
  clear a0 a1 a2 a3 a4 a5 b0 b1 b2 b3 b4 b5 c0 c1 c2 c3 c4 c5
  have heq := HEQ.out
  refine wp_region_held_drew (S := fun W => (W.cell? ⟨w.heap.size, 0, none⟩ = some (.int .i64 kr) ∧ W.cell? ⟨w.heap.size, 1, none⟩ = some (.int .i64 kc) ∧ W.cell? ⟨w.heap.size, 2, none⟩ = some (.int .i64 kb) ∧ W.cell? ⟨w.heap.size, 3, none⟩ = some (.int .i64 kp) ∧ W.cell? ⟨w.heap.size, 4, none⟩ = some (.int .i64 ks) ∧ W.cell? ⟨w.heap.size, 5, none⟩ = some (.int .i64 kt) ∧ W.cell? ⟨w.heap.size + 1, 0, none⟩ = some (.int .i64 kr) ∧ W.cell? ⟨w.heap.size + 1, 1, none⟩ = some (.int .i64 kc) ∧ W.cell? ⟨w.heap.size + 1, 2, none⟩ = some (.int .i64 kb) ∧ W.cell? ⟨w.heap.size + 1, 3, none⟩ = some (.int .i64 kp) ∧ W.cell? ⟨w.heap.size + 1, 4, none⟩ = some (.int .i64 ks) ∧ W.cell? ⟨w.heap.size + 1, 5, none⟩ = some (.int .i64 kt) ∧ Below w.heap.size w W ∧ w.heap.size < W.heap.size ∧ w.heap.size + 1 < W.heap.size ∧ w.heap.size ≤ W.heap.size)) (by kernel_rfl) (held_drew hS) (fun hHeld => ?_)
  refine takeH (i := 0) (d := (some 29)) (v := ?_) rfl rfl (by kernel_rfl) (by kernel_rfl) (by kernel_rfl) (fun _ _ _ h => h) (Or.inl ⟨by rfl, ?_⟩) (by assumption) ?_
  rotate_left
  · (intro w hSw; (try dsimp only at hSw); go_simp; (try with_reducible rfl))
  simp only [Act.put, List.setIfInBounds_toArray, List.set_cons_zero, List.set_cons_succ]
  refine takeH (i := 1) (d := (some 30)) (v := ?_) rfl rfl (by kernel_rfl) (by kernel_rfl) (by kernel_rfl) (fun _ _ _ h => h) (Or.inl ⟨by rfl, ?_⟩) (by assumption) ?_
  rotate_left
  · (intro w hSw; (try dsimp only at hSw); go_simp; (try with_reducible rfl))
  simp only [Act.put, List.setIfInBounds_toArray, List.set_cons_zero, List.set_cons_succ]
  refine takeH (i := 8) (d := (some 37)) (v := ?_) rfl rfl (by kernel_rfl) (by kernel_rfl) (by kernel_rfl) (fun _ _ _ h => h) (Or.inl ⟨by rfl, ?_⟩) (by assumption) ?_
  rotate_left
  · (intro w hSw; (try dsimp only at hSw); go_simp; (try with_reducible rfl))
  simp only [Act.put, List.setIfInBounds_toArray, List.set_cons_zero, List.set_cons_succ]
  refine takeH (i := 9) (d := (some 38)) (v := ?_) rfl rfl (by kernel_rfl) (by kernel_rfl) (by kernel_rfl) (fun _ _ _ h => h) (Or.inl ⟨by rfl, ?_⟩) (by assumption) ?_
  rotate_left
  · (intro w hSw; (try dsimp only at hSw); go_simp; (try with_reducible rfl))
  simp only [Act.put, List.setIfInBounds_toArray, List.set_cons_zero, List.set_cons_succ]
  refine takeH (i := 10) (d := (some 39)) (v := ?_) rfl rfl (by kernel_rfl) (by kernel_rfl) (by kernel_rfl) (fun _ _ _ h => h) (Or.inl ⟨by rfl, ?_⟩) (by assumption) ?_
  rotate_left
  · (intro w hSw; (try dsimp only at hSw); go_simp; (try with_reducible rfl))
  simp only [Act.put, List.setIfInBounds_toArray, List.set_cons_zero, List.set_cons_succ]
  refine wpAnyH_ready (rs := [2]) (by kernel_rfl) (by simp) ?_
  refine AllReadyH.cons rfl (fun K hK => ?_) AllReadyH.nil
  go_simp
  refine (fits_yes kr kc kb kp ks kt kr kc kb kp ks kt _ (fits_self _ _ _ _ _ _)).mono ?_
  rintro e w9 ⟨rfl, hb⟩
  dsimp only
  refine hK.out _ _ (held_step hHeld hb) (fun hHeld2 => ?_)
  clear hK K hHeld
  rename _ => hHeld
  refine takeH (i := 3) (d := (some 32)) (v := ?_) rfl rfl (by kernel_rfl) (by kernel_rfl) (by kernel_rfl) (fun _ _ _ h => h) (Or.inl ⟨by rfl, ?_⟩) (by assumption) ?_
  rotate_left
  · (intro w hSw; (try dsimp only at hSw); go_simp; (try with_reducible rfl))
  simp only [Act.put, List.setIfInBounds_toArray, List.set_cons_zero, List.set_cons_succ]
  refine takeH (i := 4) (d := (some 33)) (v := ?_) rfl rfl (by kernel_rfl) (by kernel_rfl) (by kernel_rfl) (fun _ _ _ h => h) (Or.inl ⟨by rfl, ?_⟩) (by assumption) ?_
  rotate_left
  · (intro w hSw; (try dsimp only at hSw); go_simp; (try with_reducible rfl))
  simp only [Act.put, List.setIfInBounds_toArray, List.set_cons_zero, List.set_cons_succ]
  refine takeH (i := 5) (d := (some 34)) (v := ?_) rfl rfl (by kernel_rfl) (by kernel_rfl) (by kernel_rfl) (fun _ _ _ h => h) (Or.inl ⟨by rfl, ?_⟩) (by assumption) ?_
  rotate_left
  · (intro w hSw; (try dsimp only at hSw); go_simp; (try with_reducible rfl))
  simp only [Act.put, List.setIfInBounds_toArray, List.set_cons_zero, List.set_cons_succ]
  refine wpAnyH_ready (rs := [6]) (by kernel_rfl) (by simp) ?_
  refine AllReadyH.cons rfl (fun K hK => ?_) AllReadyH.nil
  go_simp
  refine (fits_yes kr kc kb kp ks kt kr kc kb kp ks kt _ (fits_self _ _ _ _ _ _)).mono ?_
  rintro e w9 ⟨rfl, hb⟩
  dsimp only
  refine hK.out _ _ (held_step hHeld hb) (fun hHeld2 => ?_)
  clear hK K hHeld
  rename _ => hHeld
  refine takeH (i := 7) (d := (some 36)) (v := ?_) rfl rfl (by kernel_rfl) (by kernel_rfl) (by kernel_rfl) (fun _ _ _ h => h) (Or.inl ⟨by rfl, ?_⟩) (by assumption) ?_
  rotate_left
  · (intro w hSw; (try dsimp only at hSw); go_simp; (try with_reducible rfl))
  simp only [Act.put, List.setIfInBounds_toArray, List.set_cons_zero, List.set_cons_succ]
  refine takeH (i := 11) (d := (some 40)) (v := ?_) rfl rfl (by kernel_rfl) (by kernel_rfl) (by kernel_rfl) (fun _ _ _ h => h) (Or.inl ⟨by rfl, ?_⟩) (by assumption) ?_
  rotate_left
  · (intro w hSw; (try dsimp only at hSw); go_simp; (try with_reducible rfl))
  simp only [Act.put, List.setIfInBounds_toArray, List.set_cons_zero, List.set_cons_succ]
  refine takeH (i := 12) (d := (some 6)) (v := ?_) rfl rfl (by kernel_rfl) (by kernel_rfl) (by kernel_rfl) (fun _ _ _ h => h) (Or.inl ⟨by rfl, ?_⟩) (by assumption) ?_
  rotate_left
  · (intro w hSw; (try dsimp only at hSw); go_simp; (try with_reducible rfl))
  simp only [Act.put, List.setIfInBounds_toArray, List.set_cons_zero, List.set_cons_succ]
  refine wpAnyH_done (by kernel_rfl) ?_ _
  all_goals
    have HBf := Lib.hid (held_below hHeld)
    clear hHeld heq
    go_wp2
    go_ret
    exact ⟨rfl, HBf.out⟩

set_option maxHeartbeats 4000000 in
theorem quotaFits_C1 (kr kc kb kp ks kt nr nc nb np ns nt : Int) (w : World) (hg : Hg w) (hbc : fitsB kr kc kb kp ks kt nr nc nb np ns nt = true) :
    Calls Tryd.prog 6 #[.agg #[.int .i64 kr, .int .i64 kc, .int .i64 kb, .int .i64 kp, .int .i64 ks, .int .i64 kt], .agg #[.int .i64 kr, .int .i64 kc, .int .i64 kb, .int .i64 kp, .int .i64 ks, .int .i64 kt], .agg #[.int .i64 nr, .int .i64 nc, .int .i64 nb, .int .i64 np, .int .i64 ns, .int .i64 nt]] w (Yes w) := by
  have Hbc := Lib.hid hbc; clear hbc
  have HEQ : Hid (∀ W : World, (binOp .eql 23 (.agg #[.int .i64 kr, .int .i64 kc, .int .i64 kb, .int .i64 kp, .int .i64 ks, .int .i64 kt]) (.agg #[.int .i64 kr, .int .i64 kc, .int .i64 kb, .int .i64 kp, .int .i64 ks, .int .i64 kt])).run Tryd.prog W = .ok (.bool true) W) := fun W => lim_same _ _ _ _ _ _ W

  have hgA := ((hg.alloc (.cells #[.int .i64 kr, .int .i64 kc, .int .i64 kb, .int .i64 kp, .int .i64 ks, .int .i64 kt] 23)).alloc (.cells #[.int .i64 kr, .int .i64 kc, .int .i64 kb, .int .i64 kp, .int .i64 ks, .int .i64 kt] 23)).alloc (.cells #[.int .i64 nr, .int .i64 nc, .int .i64 nb, .int .i64 np, .int .i64 ns, .int .i64 nt] 23)
  have HA0 := Lib.hid (((Lim.new w 23 kr kc kb kp ks kt).alloc (.cells #[.int .i64 kr, .int .i64 kc, .int .i64 kb, .int .i64 kp, .int .i64 ks, .int .i64 kt] 23)).alloc (.cells #[.int .i64 nr, .int .i64 nc, .int .i64 nb, .int .i64 np, .int .i64 ns, .int .i64 nt] 23))
  have hB0 := ((Lim.new (w.alloc (.cells #[.int .i64 kr, .int .i64 kc, .int .i64 kb, .int .i64 kp, .int .i64 ks, .int .i64 kt] 23)) 23 kr kc kb kp ks kt)).alloc (.cells #[.int .i64 nr, .int .i64 nc, .int .i64 nb, .int .i64 np, .int .i64 ns, .int .i64 nt] 23)
  have hC0 := Lim.new ((w.alloc (.cells #[.int .i64 kr, .int .i64 kc, .int .i64 kb, .int .i64 kp, .int .i64 ks, .int .i64 kt] 23)).alloc (.cells #[.int .i64 kr, .int .i64 kc, .int .i64 kb, .int .i64 kp, .int .i64 ks, .int .i64 kt] 23)) 23 nr nc nb np ns nt
  rw [World.size_alloc] at hB0
  rw [World.size_alloc, World.size_alloc] at hC0
  have HB0 := Lib.hid hB0
  have HC0 := Lib.hid hC0
  clear hB0 hC0
  go_enter Tryd.func6, Tryd.ntmps6
  go_wp2_with fail
  refine (awake_any _ hgA).mono ?_
  rintro e w1 ⟨rfl, hb⟩
  have hz1 : w.heap.size + 1 + 1 < w1.heap.size := by have := hb.size; simp at this; omega
  have HA1 := Lib.hid (HA0.out.below hb (by simp <;> omega))
  have HB1 := Lib.hid (HB0.out.below hb (by simp <;> omega))
  have HC1 := Lib.hid (HC0.out.below hb (by simp))
  have HW1 := Lib.hid (((((Below.refl w.heap.size w).alloc (Nat.le_refl _) (.cells #[.int .i64 kr, .int .i64 kc, .int .i64 kb, .int .i64 kp, .int .i64 ks, .int .i64 kt] 23)).alloc (by simp) (.cells #[.int .i64 kr, .int .i64 kc, .int .i64 kb, .int .i64 kp, .int .i64 ks, .int .i64 kt] 23)).alloc (by simp; omega) (.cells #[.int .i64 nr, .int .i64 nc, .int .i64 nb, .int .i64 np, .int .i64 ns, .int .i64 nt] 23)).trans (hb.mono (by simp; omega)))
  clear hb hgA hg
  obtain ⟨a0, a1, a2, a3, a4, a5⟩ := HA1.out
  obtain ⟨b0, b1, b2, b3, b4, b5⟩ := HB1.out
  obtain ⟨c0, c1, c2, c3, c4, c5⟩ := HC1.out
  go_wp2_with fail
  refine (fits_yes kr kc kb kp ks kt kr kc kb kp ks kt _ (fits_self _ _ _ _ _ _)).mono ?_
  rintro e w2 ⟨rfl, hb⟩
  have hz2 : w.heap.size + 1 + 1 < w2.heap.size := by have := hb.size; omega
  have HA2 := Lib.hid (HA1.out.below hb (by omega))
  have HB2 := Lib.hid (HB1.out.below hb (by omega))
  have HC2 := Lib.hid (HC1.out.below hb (by omega))
  have HW2 := Lib.hid (HW1.out.trans (hb.mono (by omega)))
  clear a0 a1 a2 a3 a4 a5 b0 b1 b2 b3 b4 b5 c0 c1 c2 c3 c4 c5 hb
  obtain ⟨a0, a1, a2, a3, a4, a5⟩ := HA2.out
  obtain ⟨b0, b1, b2, b3, b4, b5⟩ := HB2.out
  obtain ⟨c0, c1, c2, c3, c4, c5⟩ := HC2.out
  go_wp2_with fail
  refine (fits_yes kr kc kb kp ks kt kr kc kb kp ks kt _ (fits_self _ _ _ _ _ _)).mono ?_
  rintro e w3 ⟨rfl, hb⟩
  have hz3 : w.heap.size + 1 + 1 < w3.heap.size := by have := hb.size; omega
  have HA3 := Lib.hid (HA2.out.below hb (by omega))
  have HB3 := Lib.hid (HB2.out.below hb (by omega))
  have HC3 := Lib.hid (HC2.out.below hb (by omega))
  have HW3 := Lib.hid (HW2.out.trans (hb.mono (by omega)))
  clear a0 a1 a2 a3 a4 a5 b0 b1 b2 b3 b4 b5 c0 c1 c2 c3 c4 c5 hb
  obtain ⟨a0, a1, a2, a3, a4, a5⟩ := HA3.out
  obtain ⟨b0, b1, b2, b3, b4, b5⟩ := HB3.out
  obtain ⟨c0, c1, c2, c3, c4, c5⟩ := HC3.out
  go_wp2_with fail
  refine (fits_yes kr kc kb kp ks kt nr nc nb np ns nt _ Hbc.out).mono ?_
  rintro e w4 ⟨rfl, hb⟩
  have hz4 : w.heap.size + 1 + 1 < w4.heap.size := by have := hb.size; omega
  have HA4 := Lib.hid (HA3.out.below hb (by omega))
  have HB4 := Lib.hid (HB3.out.below hb (by omega))
  have HC4 := Lib.hid (HC3.out.below hb (by omega))
  have HW4 := Lib.hid (HW3.out.trans (hb.mono (by omega)))
  clear a0 a1 a2 a3 a4 a5 b0 b1 b2 b3 b4 b5 c0 c1 c2 c3 c4 c5 hb
  obtain ⟨a0, a1, a2, a3, a4, a5⟩ := HA4.out
  obtain ⟨b0, b1, b2, b3, b4, b5⟩ := HB4.out
  obtain ⟨c0, c1, c2, c3, c4, c5⟩ := HC4.out
  go_wp2_with fail
  refine (fits_yes kr kc kb kp ks kt nr nc nb np ns nt _ Hbc.out).mono ?_
  rintro e w5 ⟨rfl, hb⟩
  have hz5 : w.heap.size + 1 + 1 < w5.heap.size := by have := hb.size; omega
  have HA5 := Lib.hid (HA4.out.below hb (by omega))
  have HB5 := Lib.hid (HB4.out.below hb (by omega))
  have HC5 := Lib.hid (HC4.out.below hb (by omega))
  have HW5 := Lib.hid (HW4.out.trans (hb.mono (by omega)))
  clear a0 a1 a2 a3 a4 a5 b0 b1 b2 b3 b4 b5 c0 c1 c2 c3 c4 c5 hb
  obtain ⟨a0, a1, a2, a3, a4, a5⟩ := HA5.out
  obtain ⟨b0, b1, b2, b3, b4, b5⟩ := HB5.out
  obtain ⟨c0, c1, c2, c3, c4, c5⟩ := HC5.out
  go_wp2_with fail
  have hS : (w5.cell? ⟨w.heap.size, 0, none⟩ = some (.int .i64 kr) ∧ w5.cell? ⟨w.heap.size, 1, none⟩ = some (.int .i64 kc) ∧ w5.cell? ⟨w.heap.size, 2, none⟩ = some (.int .i64 kb) ∧ w5.cell? ⟨w.heap.size, 3, none⟩ = some (.int .i64 kp) ∧ w5.cell? ⟨w.heap.size, 4, none⟩ = some (.int .i64 ks) ∧ w5.cell? ⟨w.heap.size, 5, none⟩ = some (.int .i64 kt) ∧ w5.cell? ⟨w.heap.size + 1, 0, none⟩ = some (.int .i64 kr) ∧ w5.cell? ⟨w.heap.size + 1, 1, none⟩ = some (.int .i64 kc) ∧ w5.cell? ⟨w.heap.size + 1, 2, none⟩ = some (.int .i64 kb) ∧ w5.cell? ⟨w.heap.size + 1, 3, none⟩ = some (.int .i64 kp) ∧ w5.cell? ⟨w.heap.size + 1, 4, none⟩ = some (.int .i64 ks) ∧ w5.cell? ⟨w.heap.size + 1, 5, none⟩ = some (.int .i64 kt) ∧ Below w.heap.size w w5 ∧ w.heap.size < w5.heap.size ∧ w.heap.size + 1 < w5.heap.size ∧ w.heap.size ≤ w5.heap.size) := ⟨a0, a1, a2, a3, a4, a5, b0, b1, b2, b3, b4, b5, HW5.out, by omega, by omega, by omega⟩
  clear a0 a1 a2 a3 a4 a5 b0 b1 b2 b3 b4 b5 c0 c1 c2 c3 c4 c5
  have heq := HEQ.out
  refine wp_region_held_drew (S := fun W => (W.cell? ⟨w.heap.size, 0, none⟩ = some (.int .i64 kr) ∧ W.cell? ⟨w.heap.size, 1, none⟩ = some (.int .i64 kc) ∧ W.cell? ⟨w.heap.size, 2, none⟩ = some (.int .i64 kb) ∧ W.cell? ⟨w.heap.size, 3, none⟩ = some (.int .i64 kp) ∧ W.cell? ⟨w.heap.size, 4, none⟩ = some (.int .i64 ks) ∧ W.cell? ⟨w.heap.size, 5, none⟩ = some (.int .i64 kt) ∧ W.cell? ⟨w.heap.size + 1, 0, none⟩ = some (.int .i64 kr) ∧ W.cell? ⟨w.heap.size + 1, 1, none⟩ = some (.int .i64 kc) ∧ W.cell? ⟨w.heap.size + 1, 2, none⟩ = some (.int .i64 kb) ∧ W.cell? ⟨w.heap.size + 1, 3, none⟩ = some (.int .i64 kp) ∧ W.cell? ⟨w.heap.size + 1, 4, none⟩ = some (.int .i64 ks) ∧ W.cell? ⟨w.heap.size + 1, 5, none⟩ = some (.int .i64 kt) ∧ Below w.heap.size w W ∧ w.heap.size < W.heap.size ∧ w.heap.size + 1 < W.heap.size ∧ w.heap.size ≤ W.heap.size)) (by kernel_rfl) (held_drew hS) (fun hHeld => ?_)
  refine takeH (i := 0) (d := (some 29)) (v := ?_) rfl rfl (by kernel_rfl) (by kernel_rfl) (by kernel_rfl) (fun _ _ _ h => h) (Or.inl ⟨by rfl, ?_⟩) (by assumption) ?_
  rotate_left
  · (intro w hSw; (try dsimp only at hSw); go_simp; (try with_reducible rfl))
  simp only [Act.put, List.setIfInBounds_toArray, List.set_cons_zero, List.set_cons_succ]
  refine takeH (i := 1) (d := (some 30)) (v := ?_) rfl rfl (by kernel_rfl) (by kernel_rfl) (by kernel_rfl) (fun _ _ _ h => h) (Or.inl ⟨by rfl, ?_⟩) (by assumption) ?_
  rotate_left
  · (intro w hSw; (try dsimp only at hSw); go_simp; (try with_reducible rfl))
  simp only [Act.put, List.setIfInBounds_toArray, List.set_cons_zero, List.set_cons_succ]
  refine takeH (i := 8) (d := (some 37)) (v := ?_) rfl rfl (by kernel_rfl) (by kernel_rfl) (by kernel_rfl) (fun _ _ _ h => h) (Or.inl ⟨by rfl, ?_⟩) (by assumption) ?_
  rotate_left
  · (intro w hSw; (try dsimp only at hSw); go_simp; (try with_reducible rfl))
  simp only [Act.put, List.setIfInBounds_toArray, List.set_cons_zero, List.set_cons_succ]
  refine takeH (i := 9) (d := (some 38)) (v := ?_) rfl rfl (by kernel_rfl) (by kernel_rfl) (by kernel_rfl) (fun _ _ _ h => h) (Or.inl ⟨by rfl, ?_⟩) (by assumption) ?_
  rotate_left
  · (intro w hSw; (try dsimp only at hSw); go_simp; (try with_reducible rfl))
  simp only [Act.put, List.setIfInBounds_toArray, List.set_cons_zero, List.set_cons_succ]
  refine takeH (i := 10) (d := (some 39)) (v := ?_) rfl rfl (by kernel_rfl) (by kernel_rfl) (by kernel_rfl) (fun _ _ _ h => h) (Or.inl ⟨by rfl, ?_⟩) (by assumption) ?_
  rotate_left
  · (intro w hSw; (try dsimp only at hSw); go_simp; (try with_reducible rfl))
  simp only [Act.put, List.setIfInBounds_toArray, List.set_cons_zero, List.set_cons_succ]
  refine wpAnyH_ready (rs := [2]) (by kernel_rfl) (by simp) ?_
  refine AllReadyH.cons rfl (fun K hK => ?_) AllReadyH.nil
  go_simp
  refine (fits_yes kr kc kb kp ks kt kr kc kb kp ks kt _ (fits_self _ _ _ _ _ _)).mono ?_
  rintro e w9 ⟨rfl, hb⟩
  dsimp only
  refine hK.out _ _ (held_step hHeld hb) (fun hHeld2 => ?_)
  clear hK K hHeld
  rename _ => hHeld
  refine takeH (i := 3) (d := (some 32)) (v := ?_) rfl rfl (by kernel_rfl) (by kernel_rfl) (by kernel_rfl) (fun _ _ _ h => h) (Or.inl ⟨by rfl, ?_⟩) (by assumption) ?_
  rotate_left
  · (intro w hSw; (try dsimp only at hSw); go_simp; (try with_reducible rfl))
  simp only [Act.put, List.setIfInBounds_toArray, List.set_cons_zero, List.set_cons_succ]
  refine takeH (i := 4) (d := (some 33)) (v := ?_) rfl rfl (by kernel_rfl) (by kernel_rfl) (by kernel_rfl) (fun _ _ _ h => h) (Or.inl ⟨by rfl, ?_⟩) (by assumption) ?_
  rotate_left
  · (intro w hSw; (try dsimp only at hSw); go_simp; (try with_reducible rfl))
  simp only [Act.put, List.setIfInBounds_toArray, List.set_cons_zero, List.set_cons_succ]
  refine takeH (i := 5) (d := (some 34)) (v := ?_) rfl rfl (by kernel_rfl) (by kernel_rfl) (by kernel_rfl) (fun _ _ _ h => h) (Or.inl ⟨by rfl, ?_⟩) (by assumption) ?_
  rotate_left
  · (intro w hSw; (try dsimp only at hSw); go_simp; (try with_reducible rfl))
  simp only [Act.put, List.setIfInBounds_toArray, List.set_cons_zero, List.set_cons_succ]
  refine wpAnyH_ready (rs := [6]) (by kernel_rfl) (by simp) ?_
  refine AllReadyH.cons rfl (fun K hK => ?_) AllReadyH.nil
  go_simp
  refine (fits_yes kr kc kb kp ks kt kr kc kb kp ks kt _ (fits_self _ _ _ _ _ _)).mono ?_
  rintro e w9 ⟨rfl, hb⟩
  dsimp only
  refine hK.out _ _ (held_step hHeld hb) (fun hHeld2 => ?_)
  clear hK K hHeld
  rename _ => hHeld
  refine takeH (i := 7) (d := (some 36)) (v := ?_) rfl rfl (by kernel_rfl) (by kernel_rfl) (by kernel_rfl) (fun _ _ _ h => h) (Or.inl ⟨by rfl, ?_⟩) (by assumption) ?_
  rotate_left
  · (intro w hSw; (try dsimp only at hSw); go_simp; (try with_reducible rfl))
  simp only [Act.put, List.setIfInBounds_toArray, List.set_cons_zero, List.set_cons_succ]
  refine takeH (i := 11) (d := (some 40)) (v := ?_) rfl rfl (by kernel_rfl) (by kernel_rfl) (by kernel_rfl) (fun _ _ _ h => h) (Or.inl ⟨by rfl, ?_⟩) (by assumption) ?_
  rotate_left
  · (intro w hSw; (try dsimp only at hSw); go_simp; (try with_reducible rfl))
  simp only [Act.put, List.setIfInBounds_toArray, List.set_cons_zero, List.set_cons_succ]
  refine takeH (i := 12) (d := (some 6)) (v := ?_) rfl rfl (by kernel_rfl) (by kernel_rfl) (by kernel_rfl) (fun _ _ _ h => h) (Or.inl ⟨by rfl, ?_⟩) (by assumption) ?_
  rotate_left
  · (intro w hSw; (try dsimp only at hSw); go_simp; (try with_reducible rfl))
  simp only [Act.put, List.setIfInBounds_toArray, List.set_cons_zero, List.set_cons_succ]
  refine wpAnyH_done (by kernel_rfl) ?_ _
  all_goals
    have HBf := Lib.hid (held_below hHeld)
    clear hHeld heq
    go_wp2
    go_ret
    exact ⟨rfl, HBf.out⟩

theorem quotaFits_any (kr kc kb kp ks kt mr mc mb mp ms mt nr nc nb np ns nt : Int) (w : World) (hg : Hg w) :
    Calls Tryd.prog 6 #[.agg #[.int .i64 kr, .int .i64 kc, .int .i64 kb, .int .i64 kp, .int .i64 ks, .int .i64 kt], .agg #[.int .i64 mr, .int .i64 mc, .int .i64 mb, .int .i64 mp, .int .i64 ms, .int .i64 mt], .agg #[.int .i64 nr, .int .i64 nc, .int .i64 nb, .int .i64 np, .int .i64 ns, .int .i64 nt]] w (Yes w) := by
  cases hab : fitsB kr kc kb kp ks kt mr mc mb mp ms mt with
  | false =>
    refine quotaFits_A _ _ _ _ _ _ _ _ _ _ _ _ _ _ _ _ _ _ w hg hab fun h => ?_
    obtain ⟨rfl, rfl, rfl, rfl, rfl, rfl⟩ := h
    rw [fits_self] at hab
    cases hab
  | true =>
    cases hba : fitsB mr mc mb mp ms mt kr kc kb kp ks kt with
    | true =>
      obtain ⟨rfl, rfl, rfl, rfl, rfl, rfl⟩ := fits_same _ _ _ _ _ _ _ _ _ _ _ _ hab hba
      cases hbc : fitsB kr kc kb kp ks kt nr nc nb np ns nt with
      | false => exact quotaFits_B1 _ _ _ _ _ _ _ _ _ _ _ _ w hg hbc
      | true => exact quotaFits_C1 _ _ _ _ _ _ _ _ _ _ _ _ w hg hbc
    | false =>
      have hne : ¬ (kr = mr ∧ kc = mc ∧ kb = mb ∧ kp = mp ∧ ks = ms ∧ kt = mt) := fun h => by
        obtain ⟨rfl, rfl, rfl, rfl, rfl, rfl⟩ := h
        rw [fits_self] at hba
        cases hba
      cases hbc : fitsB mr mc mb mp ms mt nr nc nb np ns nt with
      | false => exact quotaFits_B2 _ _ _ _ _ _ _ _ _ _ _ _ _ _ _ _ _ _ w hg hab hbc hba hne
      | true => exact quotaFits_C2 _ _ _ _ _ _ _ _ _ _ _ _ _ _ _ _ _ _ w hg hab hbc (fits_along _ _ _ _ _ _ _ _ _ _ _ _ _ _ _ _ _ _ hab hbc) hba hne
end Go.Proofs.YtgicnjpneoedoaaDoor
