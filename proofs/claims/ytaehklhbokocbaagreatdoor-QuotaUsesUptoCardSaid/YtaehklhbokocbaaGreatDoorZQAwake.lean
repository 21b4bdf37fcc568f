/-
  The walks of the statements on quotas: awake answers true; QuotaChecks and QuotaOne answer true on every way, and old memory stays; the condition: what errors.errorType holds.
-/
import Derived.Test.YtaehklhbokocbaaGreatDoorZQWalks
import Derived.Test.YtaehklhbokocbaaGreatDoorZO
import Derived.Deep.RegionWith
set_option linter.unusedVariables false
set_option linter.unusedSimpArgs false
namespace Go.Proofs.YtaehklhbokocbaaGreatDoor
open Go.RowKit Go.Extern.Stop Go.Stop Go.Extern
set_option maxHeartbeats 2000000 in
theorem qawake_any (w : World) (hg : Hg w) : Calls Tryz.prog 22 #[] w (Yes w) := by
  go_enter Tryz.func22, Tryz.ntmps22
  go_wp2_with fail
  refine (check_cols 2 3 9 0 1 0 2 4 10 _ (by decide) (by decide)).mono ?_
  rintro e w1 ⟨b, rfl, hx, hb⟩
  have hb1 : Below w.heap.size w w1 := ((Below.refl _ _).alloc (Nat.le_refl _) _).trans (hb.mono (by simp))
  have hg1 := hg.below hb1 hg.lt
  have hz : w.heap.size < w1.heap.size := by have := hb.size; simp at this; omega
  have k0 := hb.cell (p := ⟨w.heap.size, 0, none⟩) (by simp)
  have k1 := hb.cell (p := ⟨w.heap.size, 1, none⟩) (by simp)
  have k2 := hb.cell (p := ⟨w.heap.size, 2, none⟩) (by simp)
  have k3 := hb.cell (p := ⟨w.heap.size, 3, none⟩) (by simp)
  have k4 := hb.cell (p := ⟨w.heap.size, 4, none⟩) (by simp)
  have k5 := hb.cell (p := ⟨w.heap.size, 5, none⟩) (by simp)
  simp at k0 k1 k2 k3 k4 k5
  have HX := Lib.hid hx
  have HB := Lib.hid hb1
  clear hx hb hb1
  go_wp2_with fail
  refine (told_X b 2 4 3 _ hg1 HX.out).mono ?_
  rintro e w2 ⟨rfl, hb2⟩
  have hg2 := hg1.below hb2 hg1.lt
  have hz2 : w.heap.size < w2.heap.size := by have := hb2.size; omega
  have k0 := (hb2.cell (p := ⟨w.heap.size, 0, none⟩) hz).trans k0
  have k1 := (hb2.cell (p := ⟨w.heap.size, 1, none⟩) hz).trans k1
  have k2 := (hb2.cell (p := ⟨w.heap.size, 2, none⟩) hz).trans k2
  have k3 := (hb2.cell (p := ⟨w.heap.size, 3, none⟩) hz).trans k3
  have k4 := (hb2.cell (p := ⟨w.heap.size, 4, none⟩) hz).trans k4
  have k5 := (hb2.cell (p := ⟨w.heap.size, 5, none⟩) hz).trans k5
  have HB2 := Lib.hid (HB.out.trans (hb2.mono (by omega)))
  clear hb2
  go_wp2_with fail
  refine (one_ok5 2 3 9 0 1 0 0 _ (by decide) (by decide)).mono ?_
  rintro e w3 ⟨rfl, hb3⟩
  have hg3 := hg2.below hb3 hg2.lt
  have hz3 : w.heap.size < w3.heap.size := by have := hb3.size; omega
  have k0 := (hb3.cell (p := ⟨w.heap.size, 0, none⟩) hz2).trans k0
  have k1 := (hb3.cell (p := ⟨w.heap.size, 1, none⟩) hz2).trans k1
  have k2 := (hb3.cell (p := ⟨w.heap.size, 2, none⟩) hz2).trans k2
  have k3 := (hb3.cell (p := ⟨w.heap.size, 3, none⟩) hz2).trans k3
  have k4 := (hb3.cell (p := ⟨w.heap.size, 4, none⟩) hz2).trans k4
  have k5 := (hb3.cell (p := ⟨w.heap.size, 5, none⟩) hz2).trans k5
  have HB3 := Lib.hid (HB2.out.trans (hb3.mono (by omega)))
  clear hb3
  go_wp2_with fail
  refine (one_full5 2 3 9 0 1 0 1 _ (by decide) (by decide) (by decide)).mono ?_
  rintro e w4 ⟨b4, rfl, hx4, hb4⟩
  have hg4 := hg3.below hb4 hg3.lt
  have HX4 := Lib.hid hx4
  have HB4 := Lib.hid (HB3.out.trans (hb4.mono (by omega)))
  clear hx4 hb4
  go_wp2_with fail
  refine (told_X b4 5 2 1 _ hg4 HX4.out).mono ?_
  rintro e w5 ⟨rfl, hb5⟩
  have HB5 := Lib.hid (HB4.out.trans (hb5.mono (by have := HB4.out.size; omega)))
  clear hb5
  go_wp2
  go_ret
  exact ⟨rfl, HB5.out⟩
end Go.Proofs.YtaehklhbokocbaaGreatDoor
