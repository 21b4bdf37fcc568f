/-
  Contracts of api.Number (and api.Place, api.Wrap, Told of actuarylaw09, where the translation has them) at nil, an Errno, a *Excess, a *Fault round an Errno; the conditions: what errors.errorType holds, and the cells that are read.
  Printed by a program of this repository (wip/err2.py).
-/
import Derived.Test.YtkbopcgijaejjaaDoorErr
import Derived.Deep.QuietTactic
import Derived.BigQuiet
namespace Go.Proofs.YtkbopcgijaejjaaDoor
open Go.RowKit Go.Extern.Stop Go.Stop Go.Extern

theorem asErrno_E_b (n : Int) (tb : Nat) (old : Value) (w : World) (hg0 : Hg w) (ht0 : w.cell? ⟨tb, 0, none⟩ = some old) (hf0 : w.frozen? ⟨tb, 0, none⟩ = false) :
    Calls Tryd.prog 43 #[eE n, .iface 103 (.pointer (some ⟨tb, 0, none⟩))] w fun e w' => e = .returned (.bool true) ∧ Below tb w w' ∧ w'.cell? ⟨tb, 0, none⟩ = some (.int .i64 n) := by
  have hlt : tb < w.heap.size := World.block_lt_of_cell? _ _ ht0
  refine (asErrno_E n ⟨tb, 0, none⟩ old w hg0 ht0 hf0).mono fun e w' ⟨he, hw⟩ => ⟨he, ?_, ?_⟩
  · subst hw; exact (by repeat (first | exact Below.refl _ _ | (refine Below.alloc ?_ (by first | omega | (simp; done) | (simp; omega)) _) | (refine Below.setCell ?_ (by first | omega | (simp; done) | (simp; omega)) _) | (refine Below.drew ?_)))
  · subst hw
    refine World.cell?_setCell_same _ _ _ (u := old) ?_
    rw [World.cell?_alloc_lt _ _ ⟨tb, 0, none⟩ (by simp <;> omega), World.cell?_alloc_lt _ _ ⟨tb, 0, none⟩ (by simp <;> omega), World.cell?_alloc_lt _ _ ⟨tb, 0, none⟩ (by simp <;> omega), World.cell?_alloc_lt _ _ ⟨tb, 0, none⟩ hlt]; exact ht0
theorem asErrno_FE_b (pb : Nat) (n : Int) (tb : Nat) (old : Value) (w : World) (hg0 : Hg w) (ht0 : w.cell? ⟨tb, 0, none⟩ = some old) (hf0 : w.frozen? ⟨tb, 0, none⟩ = false) (hc : w.cell? ⟨pb, 2, none⟩ = some (eE n)) :
    Calls Tryd.prog 43 #[eF pb, .iface 103 (.pointer (some ⟨tb, 0, none⟩))] w fun e w' => e = .returned (.bool true) ∧ Below tb w w' ∧ w'.cell? ⟨tb, 0, none⟩ = some (.int .i64 n) := by
  have hlt : tb < w.heap.size := World.block_lt_of_cell? _ _ ht0
  refine (asErrno_FE pb n ⟨tb, 0, none⟩ old w hg0 ht0 hf0 hc).mono fun e w' ⟨he, hw⟩ => ⟨he, ?_, ?_⟩
  · subst hw; exact (by repeat (first | exact Below.refl _ _ | (refine Below.alloc ?_ (by first | omega | (simp; done) | (simp; omega)) _) | (refine Below.setCell ?_ (by first | omega | (simp; done) | (simp; omega)) _) | (refine Below.drew ?_)))
  · subst hw
    refine World.cell?_setCell_same _ _ _ (u := old) ?_
    rw [World.cell?_alloc_lt _ _ ⟨tb, 0, none⟩ (by simp <;> omega), World.cell?_alloc_lt _ _ ⟨tb, 0, none⟩ (by simp <;> omega), World.cell?_alloc_lt _ _ ⟨tb, 0, none⟩ (by simp <;> omega), World.cell?_alloc_lt _ _ ⟨tb, 0, none⟩ hlt]; exact ht0
theorem asFault_E_b (n : Int) (tb : Nat) (w : World) (hg0 : Hg w) :
    Calls Tryd.prog 43 #[eE n, .iface 102 (.pointer (some ⟨tb, 0, none⟩))] w fun e w' => e = .returned (.bool false) ∧ Below w.heap.size w w' := by
  refine (asFault_E n ⟨tb, 0, none⟩ w hg0).mono fun e w' ⟨he, hw⟩ => ⟨he, ?_⟩
  subst hw; exact (by repeat (first | exact Below.refl _ _ | (refine Below.alloc ?_ (by first | omega | (simp; done) | (simp; omega)) _) | (refine Below.setCell ?_ (by first | omega | (simp; done) | (simp; omega)) _) | (refine Below.drew ?_)))
theorem asFault_FE_b (pb : Nat) (tb : Nat) (old : Value) (w : World) (hg0 : Hg w) (ht0 : w.cell? ⟨tb, 0, none⟩ = some old) (hf0 : w.frozen? ⟨tb, 0, none⟩ = false) :
    Calls Tryd.prog 43 #[eF pb, .iface 102 (.pointer (some ⟨tb, 0, none⟩))] w fun e w' => e = .returned (.bool true) ∧ Below tb w w' ∧ w'.cell? ⟨tb, 0, none⟩ = some (.pointer (some ⟨pb, 0, none⟩)) := by
  have hlt : tb < w.heap.size := World.block_lt_of_cell? _ _ ht0
  refine (asFault_FE pb ⟨tb, 0, none⟩ old w hg0 ht0 hf0).mono fun e w' ⟨he, hw⟩ => ⟨he, ?_, ?_⟩
  · subst hw; exact (by repeat (first | exact Below.refl _ _ | (refine Below.alloc ?_ (by first | omega | (simp; done) | (simp; omega)) _) | (refine Below.setCell ?_ (by first | omega | (simp; done) | (simp; omega)) _) | (refine Below.drew ?_)))
  · subst hw
    refine World.cell?_setCell_same _ _ _ (u := old) ?_
    rw [World.cell?_alloc_lt _ _ ⟨tb, 0, none⟩ (by simp <;> omega), World.cell?_alloc_lt _ _ ⟨tb, 0, none⟩ (by simp <;> omega), World.cell?_alloc_lt _ _ ⟨tb, 0, none⟩ (by simp <;> omega), World.cell?_alloc_lt _ _ ⟨tb, 0, none⟩ hlt]; exact ht0

theorem number_nil (w : World) : Calls Tryd.prog 39 #[.nilIface] w fun e w' => e = .returned (.int .i64 0) ∧ Below w.heap.size w w' := by
  go_enter Tryd.func39, Tryd.ntmps39
  go_wp2
  go_ret
  exact ⟨rfl, (by repeat (first | exact Below.refl _ _ | (refine Below.alloc ?_ (by first | omega | (simp; done) | (simp; omega)) _) | (refine Below.setCell ?_ (by first | omega | (simp; done) | (simp; omega)) _) | (refine Below.drew ?_)))⟩

set_option maxHeartbeats 1000000 in
theorem number_E (n : Int) (w : World) (hg : Hg w) :
    Calls Tryd.prog 39 #[eE n] w fun e w' => e = .returned (.int .i64 n) ∧ Below w.heap.size w w' := by
  have hg1 := hg.alloc (.cells #[.int .i64 0] 52)
  unfold eE
  go_enter Tryd.func39, Tryd.ntmps39
  go_wp2_with fail
  refine (asErrno_E_b n _ (.int .i64 0) _ hg1 (by simp) (by simp)).mono ?_
  rintro e w' ⟨rfl, hb, hc⟩
  go_wp2
  go_ret
  exact ⟨rfl, ((Below.refl _ _).alloc (Nat.le_refl _) _).trans hb⟩

set_option maxHeartbeats 1000000 in
theorem number_F (pb : Nat) (n : Int) (w : World) (hg : Hg w) (hc : w.cell? ⟨pb, 2, none⟩ = some (eE n)) :
    Calls Tryd.prog 39 #[eF pb] w fun e w' => e = .returned (.int .i64 n) ∧ Below w.heap.size w w' := by
  have hg1 := hg.alloc (.cells #[.int .i64 0] 52)
  have hc1 : (w.alloc (.cells #[.int .i64 0] 52)).cell? ⟨pb, 2, none⟩ = some (eE n) := by
    rw [World.cell?_alloc_lt _ _ ⟨pb, 2, none⟩ (World.block_lt_of_cell? _ _ hc)]; exact hc
  have HC1 := Lib.hid hc1; clear hc1 hc
  unfold eF
  go_enter Tryd.func39, Tryd.ntmps39
  go_wp2_with fail
  refine (asErrno_FE_b pb n _ (.int .i64 0) _ hg1 (by simp) (by simp) HC1.out).mono ?_
  rintro e w' ⟨rfl, hb, hc⟩
  go_wp2
  go_ret
  exact ⟨rfl, ((Below.refl _ _).alloc (Nat.le_refl _) _).trans hb⟩

theorem place_nil (w : World) : Calls Tryd.prog 38 #[.nilIface] w fun e w' => e = .returned (.tuple #[.string ⟨#[]⟩, .int .i64 0, .bool false]) ∧ Below w.heap.size w w' := by
  go_enter Tryd.func38, Tryd.ntmps38
  go_wp2
  go_ret3
  exact ⟨rfl, (by repeat (first | exact Below.refl _ _ | (refine Below.alloc ?_ (by first | omega | (simp; done) | (simp; omega)) _) | (refine Below.setCell ?_ (by first | omega | (simp; done) | (simp; omega)) _) | (refine Below.drew ?_)))⟩
set_option maxHeartbeats 1000000 in
theorem place_E (n : Int) (w : World) (hg : Hg w) : Calls Tryd.prog 38 #[eE n] w fun e w' => e = .returned (.tuple #[.string ⟨#[]⟩, .int .i64 0, .bool false]) ∧ Below w.heap.size w w' := by
  have hg1 := hg.alloc (.cells #[.pointer none] 86)
  unfold eE
  go_enter Tryd.func38, Tryd.ntmps38
  go_wp2_with fail
  refine (asFault_E_b n _ _ hg1).mono ?_
  rintro e w' ⟨rfl, hb⟩
  go_wp2
  go_ret3
  exact ⟨rfl, ((Below.refl _ _).alloc (Nat.le_refl _) _).trans (hb.mono (by simp))⟩

/-- The cells of a *Fault: where, at which, the Errno within. -/
def IsF (w : World) (b : Nat) (s : ByteArray) (k n : Int) : Prop :=
  w.cell? ⟨b, 0, none⟩ = some (.string s) ∧ w.cell? ⟨b, 1, none⟩ = some (.int .i64 k) ∧ w.cell? ⟨b, 2, none⟩ = some (eE n)
theorem IsF.below {w w' : World} {b B : Nat} {s : ByteArray} {k n : Int} (h : IsF w b s k n) (hb : Below B w w') (hB : b < B) : IsF w' b s k n := by
  obtain ⟨h0, h1, h2⟩ := h
  exact ⟨(hb.cell (p := ⟨b, 0, none⟩) hB).trans h0, (hb.cell (p := ⟨b, 1, none⟩) hB).trans h1, (hb.cell (p := ⟨b, 2, none⟩) hB).trans h2⟩
theorem IsF.lt {w : World} {b : Nat} {s : ByteArray} {k n : Int} (h : IsF w b s k n) : b < w.heap.size := World.block_lt_of_cell? _ _ h.1

set_option maxHeartbeats 1000000 in
theorem place_F (pb : Nat) (s : ByteArray) (k n : Int) (w : World) (hg : Hg w) (hx : IsF w pb s k n) :
    Calls Tryd.prog 38 #[eF pb] w fun e w' => e = .returned (.tuple #[.string s, .int .i64 k, .bool true]) ∧ Below w.heap.size w w' := by
  have hlt := hx.lt
  have hg1 := hg.alloc (.cells #[.pointer none] 86)
  have HX := Lib.hid hx; clear hx
  unfold eF
  go_enter Tryd.func38, Tryd.ntmps38
  go_wp2_with fail
  refine (asFault_FE_b pb _ (.pointer none) _ hg1 (by simp) (by simp)).mono ?_
  rintro e w1 ⟨rfl, hb, hc⟩
  have hb1 : Below w.heap.size w w1 := ((Below.refl _ _).alloc (Nat.le_refl _) _).trans hb
  obtain ⟨x0, x1, _⟩ := HX.out.below hb1 hlt
  have HB := Lib.hid hb1; clear hb1 hb
  go_wp2_with fail
  go_quiet (fail)
  go_wp2
  go_ret3
  exact ⟨rfl, HB.out.trans ⟨rfl, rfl, rfl, Nat.le_refl _, fun _ _ => rfl⟩⟩

theorem wrap_E (n : Int) (s : ByteArray) (k : Int) (w : World) :
    Calls Tryd.prog 26 #[eE n, .string s, .int .i64 k] w fun e w' => e = .returned (eF w.heap.size) ∧ IsF w' w.heap.size s k n ∧ w' = w.alloc (.cells #[.string s, .int .i64 k, eE n] 88) := by
  unfold eE eF IsF
  go_enter Tryd.func26, Tryd.ntmps26
  go_wp2
  go_ret
  refine ⟨rfl, ⟨?_, ?_, ?_⟩, rfl⟩ <;> simp [eE]
theorem wrap_nil (s : ByteArray) (k : Int) (w : World) :
    Calls Tryd.prog 26 #[.nilIface, .string s, .int .i64 k] w fun e w' => e = .returned .nilIface ∧ w' = w := by
  go_enter Tryd.func26, Tryd.ntmps26
  go_wp2
  go_ret
  exact ⟨rfl, rfl⟩

/-- What Told asks: a plain Errno is told with no place. -/
theorem told_E (n m k : Int) (s : ByteArray) (w : World) (hg : Hg w) (h0 : n = m) (hs : s.toList = []) :
    Calls Tryd.prog 23 #[eE n, .int .i64 m, .string s, .int .i64 k] w fun e w' => e = .returned (.bool true) ∧ Below w.heap.size w w' := by
  subst h0
  have hs1 : s.toList.isEmpty = true := by simp [hs]
  go_enter Tryd.func23, Tryd.ntmps23
  go_wp2_with fail
  refine (place_E n _ hg).mono ?_
  rintro e w1 ⟨rfl, hb⟩
  have hg1 := hg.below hb hg.lt
  have HB := Lib.hid hb; clear hb
  go_wp2_with fail
  refine (number_E n _ hg1).mono ?_
  rintro e w2 ⟨rfl, hb2⟩
  have HB2 := Lib.hid hb2; clear hb2
  go_wp2
  go_ret
  exact ⟨rfl, HB.out.trans (HB2.out.mono HB.out.size)⟩
theorem told_F (pb : Nat) (n m k j : Int) (s t : ByteArray) (w : World) (hg : Hg w) (hx : IsF w pb s k n) (h0 : n = m) (h1 : s = t) (h2 : k = j) (hs : s.toList ≠ []) :
    Calls Tryd.prog 23 #[eF pb, .int .i64 m, .string t, .int .i64 j] w fun e w' => e = .returned (.bool true) ∧ Below w.heap.size w w' := by
  subst h0 h1 h2
  have hs1 : s.toList.isEmpty = false := by simpa using hs
  have hlt := hx.lt
  have HX := Lib.hid hx; clear hx
  go_enter Tryd.func23, Tryd.ntmps23
  go_wp2_with fail
  refine (place_F pb s k n _ hg HX.out).mono ?_
  rintro e w1 ⟨rfl, hb⟩
  have hg1 := hg.below hb hg.lt
  have HX1 := Lib.hid (HX.out.below hb hlt)
  have HB := Lib.hid hb; clear hb
  go_wp2_with fail
  refine (number_F pb n _ hg1 HX1.out.2.2).mono ?_
  rintro e w2 ⟨rfl, hb2⟩
  have HB2 := Lib.hid hb2; clear hb2
  go_wp2
  go_ret
  exact ⟨rfl, HB.out.trans (HB2.out.mono HB.out.size)⟩
end Go.Proofs.YtkbopcgijaejjaaDoor
