/-
  Contracts of api.Number (and api.Place, api.Wrap, Told of actuarylaw09, where the translation has them) at nil, an Errno, a *Excess, a *Fault round an Errno; the conditions: what errors.errorType holds, and the cells that are read.
  Printed by a program of this repository (wip/err2.py).
-/
import Derived.Test.YtgicnjpneoedoaaDoorErr
import Derived.Deep.QuietTactic
import Derived.BigQuiet
namespace Go.Proofs.YtgicnjpneoedoaaDoor
open Go.RowKit Go.Extern.Stop Go.Stop Go.Extern

theorem asErrno_E_b (n : Int) (tb : Nat) (old : Value) (w : World) (hg0 : Hg w) (ht0 : w.cell? ⟨tb, 0, none⟩ = some old) (hf0 : w.frozen? ⟨tb, 0, none⟩ = false) :
    Calls Tryd.prog 12 #[eE n, .iface 61 (.pointer (some ⟨tb, 0, none⟩))] w fun e w' => e = .returned (.bool true) ∧ Below tb w w' ∧ w'.cell? ⟨tb, 0, none⟩ = some (.int .i64 n) := by
  have hlt : tb < w.heap.size := World.block_lt_of_cell? _ _ ht0
  refine (asErrno_E n ⟨tb, 0, none⟩ old w hg0 ht0 hf0).mono fun e w' ⟨he, hw⟩ => ⟨he, ?_, ?_⟩
  · subst hw; exact (by repeat (first | exact Below.refl _ _ | (refine Below.alloc ?_ (by first | omega | (simp; done) | (simp; omega)) _) | (refine Below.setCell ?_ (by first | omega | (simp; done) | (simp; omega)) _) | (refine Below.drew ?_)))
  · subst hw
    refine World.cell?_setCell_same _ _ _ (u := old) ?_
    rw [World.cell?_alloc_lt _ _ ⟨tb, 0, none⟩ (by simp <;> omega), World.cell?_alloc_lt _ _ ⟨tb, 0, none⟩ (by simp <;> omega), World.cell?_alloc_lt _ _ ⟨tb, 0, none⟩ (by simp <;> omega), World.cell?_alloc_lt _ _ ⟨tb, 0, none⟩ hlt]; exact ht0
theorem asErrno_XE_b (p : Addr) (tb : Nat) (old : Value) (w : World) (hg0 : Hg w) (ht0 : w.cell? ⟨tb, 0, none⟩ = some old) (hf0 : w.frozen? ⟨tb, 0, none⟩ = false) :
    Calls Tryd.prog 12 #[eX p, .iface 61 (.pointer (some ⟨tb, 0, none⟩))] w fun e w' => e = .returned (.bool true) ∧ Below tb w w' ∧ w'.cell? ⟨tb, 0, none⟩ = some (.int .i64 240) := by
  have hlt : tb < w.heap.size := World.block_lt_of_cell? _ _ ht0
  refine (asErrno_XE p ⟨tb, 0, none⟩ old w hg0 ht0 hf0).mono fun e w' ⟨he, hw⟩ => ⟨he, ?_, ?_⟩
  · subst hw; exact (by repeat (first | exact Below.refl _ _ | (refine Below.alloc ?_ (by first | omega | (simp; done) | (simp; omega)) _) | (refine Below.setCell ?_ (by first | omega | (simp; done) | (simp; omega)) _) | (refine Below.drew ?_)))
  · subst hw
    refine World.cell?_setCell_same _ _ _ (u := old) ?_
    rw [World.cell?_alloc_lt _ _ ⟨tb, 0, none⟩ (by simp <;> omega), World.cell?_alloc_lt _ _ ⟨tb, 0, none⟩ (by simp <;> omega), World.cell?_alloc_lt _ _ ⟨tb, 0, none⟩ (by simp <;> omega), World.cell?_alloc_lt _ _ ⟨tb, 0, none⟩ hlt]; exact ht0
theorem asExcess_E_b (n : Int) (tb : Nat) (w : World) (hg0 : Hg w) :
    Calls Tryd.prog 12 #[eE n, .iface 39 (.pointer (some ⟨tb, 0, none⟩))] w fun e w' => e = .returned (.bool false) ∧ Below w.heap.size w w' := by
  refine (asExcess_E n ⟨tb, 0, none⟩ w hg0).mono fun e w' ⟨he, hw⟩ => ⟨he, ?_⟩
  subst hw; exact (by repeat (first | exact Below.refl _ _ | (refine Below.alloc ?_ (by first | omega | (simp; done) | (simp; omega)) _) | (refine Below.setCell ?_ (by first | omega | (simp; done) | (simp; omega)) _) | (refine Below.drew ?_)))
theorem asExcess_XE_b (p : Addr) (tb : Nat) (old : Value) (w : World) (hg0 : Hg w) (ht0 : w.cell? ⟨tb, 0, none⟩ = some old) (hf0 : w.frozen? ⟨tb, 0, none⟩ = false) :
    Calls Tryd.prog 12 #[eX p, .iface 39 (.pointer (some ⟨tb, 0, none⟩))] w fun e w' => e = .returned (.bool true) ∧ Below tb w w' ∧ w'.cell? ⟨tb, 0, none⟩ = some (.pointer (some p)) := by
  have hlt : tb < w.heap.size := World.block_lt_of_cell? _ _ ht0
  refine (asExcess_XE p ⟨tb, 0, none⟩ old w hg0 ht0 hf0).mono fun e w' ⟨he, hw⟩ => ⟨he, ?_, ?_⟩
  · subst hw; exact (by repeat (first | exact Below.refl _ _ | (refine Below.alloc ?_ (by first | omega | (simp; done) | (simp; omega)) _) | (refine Below.setCell ?_ (by first | omega | (simp; done) | (simp; omega)) _) | (refine Below.drew ?_)))
  · subst hw
    refine World.cell?_setCell_same _ _ _ (u := old) ?_
    rw [World.cell?_alloc_lt _ _ ⟨tb, 0, none⟩ (by simp <;> omega), World.cell?_alloc_lt _ _ ⟨tb, 0, none⟩ (by simp <;> omega), World.cell?_alloc_lt _ _ ⟨tb, 0, none⟩ (by simp <;> omega), World.cell?_alloc_lt _ _ ⟨tb, 0, none⟩ hlt]; exact ht0

theorem number_nil (w : World) : Calls Tryd.prog 14 #[.nilIface] w fun e w' => e = .returned (.int .i64 0) ∧ Below w.heap.size w w' := by
  go_enter Tryd.func14, Tryd.ntmps14
  go_wp2
  go_ret
  exact ⟨rfl, (by repeat (first | exact Below.refl _ _ | (refine Below.alloc ?_ (by first | omega | (simp; done) | (simp; omega)) _) | (refine Below.setCell ?_ (by first | omega | (simp; done) | (simp; omega)) _) | (refine Below.drew ?_)))⟩

set_option maxHeartbeats 1000000 in
theorem number_E (n : Int) (w : World) (hg : Hg w) :
    Calls Tryd.prog 14 #[eE n] w fun e w' => e = .returned (.int .i64 n) ∧ Below w.heap.size w w' := by
  have hg1 := hg.alloc (.cells #[.int .i64 0] 35)
  unfold eE
  go_enter Tryd.func14, Tryd.ntmps14
  go_wp2_with fail
  refine (asErrno_E_b n _ (.int .i64 0) _ hg1 (by simp) (by simp)).mono ?_
  rintro e w' ⟨rfl, hb, hc⟩
  go_wp2
  go_ret
  exact ⟨rfl, ((Below.refl _ _).alloc (Nat.le_refl _) _).trans hb⟩

set_option maxHeartbeats 1000000 in
theorem number_X (p : Addr) (w : World) (hg : Hg w) :
    Calls Tryd.prog 14 #[eX p] w fun e w' => e = .returned (.int .i64 240) ∧ Below w.heap.size w w' := by
  have hg1 := hg.alloc (.cells #[.int .i64 0] 35)
  unfold eX
  go_enter Tryd.func14, Tryd.ntmps14
  go_wp2_with fail
  refine (asErrno_XE_b p _ (.int .i64 0) _ hg1 (by simp) (by simp)).mono ?_
  rintro e w' ⟨rfl, hb, hc⟩
  go_wp2
  go_ret
  exact ⟨rfl, ((Below.refl _ _).alloc (Nat.le_refl _) _).trans hb⟩
end Go.Proofs.YtgicnjpneoedoaaDoor
