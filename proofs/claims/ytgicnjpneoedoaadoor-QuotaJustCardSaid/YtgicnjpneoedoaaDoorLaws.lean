/-
  The walks of the statements on quotas: awake answers true; QuotaChecks and QuotaOne answer true on every way, and old memory stays; the condition: what errors.errorType holds.
-/
import Derived.Test.YtgicnjpneoedoaaDoorWalks
import Derived.Test.YtgicnjpneoedoaaDoorKit
import Derived.Deep.RegionWith
namespace Go.Proofs.YtgicnjpneoedoaaDoor
open Go.RowKit Go.Extern.Stop Go.Stop Go.Extern



set_option maxHeartbeats 2000000 in
theorem awake_any (w : World) (hg : Hg w) : Calls Tryd.prog 7 #[] w (Yes w) := by
  go_enter Tryd.func7, Tryd.ntmps7
  go_wp2_with fail
  refine (check_cols 2 3 9 0 1 0 2 4 10 _ (by decide) (by decide)).mono ?_
  rintro e w1 ⟨b, rfl, hx, hb⟩
  have hb1 : Below w.heap.size w w1 := ((Below.refl _ _).alloc (Nat.le_refl _) _).trans (hb.mono (by simp))
  have hg1 := hg.below hb1 hg.lt
  have hz : w.heap.size < w1.heap.size := by have := hb.size; simp at this; omega
  have k0 := hb.cell (p := ⟨w.heap.size, 0, none⟩) (by simp)
  have k1 := hb.cell (p := ⟨w.heap.size, 1, none⟩) (by simp)
  have k2 := hb.cell (p := ⟨w.heap.size, 2, none⟩) (by simp)
  have k3 := hb.cell (p := ⟨w.heap.size, 3, none⟩) (by simp)
  have k4 := hb.cell (p := ⟨w.heap.size, 4, none⟩) (by simp)
  have k5 := hb.cell (p := ⟨w.heap.size, 5, none⟩) (by simp)
  simp at k0 k1 k2 k3 k4 k5
  have HX := Lib.hid hx
  have HB := Lib.hid hb1
  clear hx hb hb1
  go_wp2_with fail
  refine (told_X b 2 4 3 _ hg1 HX.out).mono ?_
  rintro e w2 ⟨rfl, hb2⟩
  have hg2 := hg1.below hb2 hg1.lt
  have hz2 : w.heap.size < w2.heap.size := by have := hb2.size; omega
  have k0 := (hb2.cell (p := ⟨w.heap.size, 0, none⟩) hz).trans k0
  have k1 := (hb2.cell (p := ⟨w.heap.size, 1, none⟩) hz).trans k1
  have k2 := (hb2.cell (p := ⟨w.heap.size, 2, none⟩) hz).trans k2
  have k3 := (hb2.cell (p := ⟨w.heap.size, 3, none⟩) hz).trans k3
  have k4 := (hb2.cell (p := ⟨w.heap.size, 4, none⟩) hz).trans k4
  have k5 := (hb2.cell (p := ⟨w.heap.size, 5, none⟩) hz).trans k5
  have HB2 := Lib.hid (HB.out.trans (hb2.mono (by omega)))
  clear hb2
  go_wp2_with fail
  refine (one_ok5 2 3 9 0 1 0 0 _ (by decide) (by decide)).mono ?_
  rintro e w3 ⟨rfl, hb3⟩
  have hg3 := hg2.below hb3 hg2.lt
  have hz3 : w.heap.size < w3.heap.size := by have := hb3.size; omega
  have k0 := (hb3.cell (p := ⟨w.heap.size, 0, none⟩) hz2).trans k0
  have k1 := (hb3.cell (p := ⟨w.heap.size, 1, none⟩) hz2).trans k1
  have k2 := (hb3.cell (p := ⟨w.heap.size, 2, none⟩) hz2).trans k2
  have k3 := (hb3.cell (p := ⟨w.heap.size, 3, none⟩) hz2).trans k3
  have k4 := (hb3.cell (p := ⟨w.heap.size, 4, none⟩) hz2).trans k4
  have k5 := (hb3.cell (p := ⟨w.heap.size, 5, none⟩) hz2).trans k5
  have HB3 := Lib.hid (HB2.out.trans (hb3.mono (by omega)))
  clear hb3
  go_wp2_with fail
  refine (one_full5 2 3 9 0 1 0 1 _ (by decide) (by decide) (by decide)).mono ?_
  rintro e w4 ⟨b4, rfl, hx4, hb4⟩
  have hg4 := hg3.below hb4 hg3.lt
  have HX4 := Lib.hid hx4
  have HB4 := Lib.hid (HB3.out.trans (hb4.mono (by omega)))
  clear hx4 hb4
  go_wp2_with fail
  refine (told_X b4 5 2 1 _ hg4 HX4.out).mono ?_
  rintro e w5 ⟨rfl, hb5⟩
  have HB5 := Lib.hid (HB4.out.trans (hb5.mono (by have := HB4.out.size; omega)))
  clear hb5
  go_wp2
  go_ret
  exact ⟨rfl, HB5.out⟩


def Lim (w : World) (b : Nat) (lr lc lb lp ls lt : Int) : Prop :=
  w.cell? ⟨b, 0, none⟩ = some (.int .i64 lr) ∧ w.cell? ⟨b, 1, none⟩ = some (.int .i64 lc) ∧ w.cell? ⟨b, 2, none⟩ = some (.int .i64 lb) ∧ w.cell? ⟨b, 3, none⟩ = some (.int .i64 lp) ∧ w.cell? ⟨b, 4, none⟩ = some (.int .i64 ls) ∧ w.cell? ⟨b, 5, none⟩ = some (.int .i64 lt)
theorem Lim.below {w w' : World} {b B : Nat} {c0 c1 c2 c3 c4 c5 : Int} (h : Lim w b c0 c1 c2 c3 c4 c5) (hb : Below B w w') (hB : b < B) : Lim w' b c0 c1 c2 c3 c4 c5 := by
  obtain ⟨h0, h1, h2, h3, h4, h5⟩ := h
  exact ⟨(hb.cell (p := ⟨b, 0, none⟩) hB).trans h0, (hb.cell (p := ⟨b, 1, none⟩) hB).trans h1, (hb.cell (p := ⟨b, 2, none⟩) hB).trans h2, (hb.cell (p := ⟨b, 3, none⟩) hB).trans h3, (hb.cell (p := ⟨b, 4, none⟩) hB).trans h4, (hb.cell (p := ⟨b, 5, none⟩) hB).trans h5⟩
theorem Lim.lt {w : World} {b : Nat} {c0 c1 c2 c3 c4 c5 : Int} (h : Lim w b c0 c1 c2 c3 c4 c5) : b < w.heap.size := World.block_lt_of_cell? _ _ h.1
theorem Lim.new (w : World) (t : TypeId) (c0 c1 c2 c3 c4 c5 : Int) : Lim (w.alloc (.cells #[.int .i64 c0, .int .i64 c1, .int .i64 c2, .int .i64 c3, .int .i64 c4, .int .i64 c5] t)) w.heap.size c0 c1 c2 c3 c4 c5 := by
  unfold Lim; simp
theorem Lim.alloc {w : World} {b : Nat} {c0 c1 c2 c3 c4 c5 : Int} (h : Lim w b c0 c1 c2 c3 c4 c5) (ob : Obj) : Lim (w.alloc ob) b c0 c1 c2 c3 c4 c5 :=
  h.below ((Below.refl w.heap.size w).alloc (Nat.le_refl _) ob) h.lt
theorem IsX.alloc {w : World} {b : Nat} {c0 c1 c2 : Int} (h : IsX w b c0 c1 c2) (ob : Obj) : IsX (w.alloc ob) b c0 c1 c2 :=
  h.below ((Below.refl w.heap.size w).alloc (Nat.le_refl _) ob) h.lt
theorem IsX.new (w : World) (t : TypeId) (c0 c1 c2 : Int) : IsX (w.alloc (.cells #[.int .i64 c0, .int .i64 c1, .int .i64 c2] t)) w.heap.size c0 c1 c2 := by
  unfold IsX; simp


set_option maxHeartbeats 2000000 in
theorem quotaChecks_rows (lr lc lb lp ls lt ur uc ub : Int) (w : World) (hg : Hg w) (h : lr < ur) : Calls Tryd.prog 3 #[.agg #[.int .i64 lr, .int .i64 lc, .int .i64 lb, .int .i64 lp, .int .i64 ls, .int .i64 lt], .agg #[.int .i64 ur, .int .i64 uc, .int .i64 ub]] w (Yes w) := by
  have hgA := (hg.alloc (.cells #[.int .i64 lr, .int .i64 lc, .int .i64 lb, .int .i64 lp, .int .i64 ls, .int .i64 lt] 23)).alloc (.cells #[.int .i64 ur, .int .i64 uc, .int .i64 ub] 25)
  have hL0 := (Lim.new w 23 lr lc lb lp ls lt).alloc (.cells #[.int .i64 ur, .int .i64 uc, .int .i64 ub] 25)
  have hU0 : IsX ((w.alloc (.cells #[.int .i64 lr, .int .i64 lc, .int .i64 lb, .int .i64 lp, .int .i64 ls, .int .i64 lt] 23)).alloc (.cells #[.int .i64 ur, .int .i64 uc, .int .i64 ub] 25)) (w.heap.size + 1) ur uc ub := by have := IsX.new (w.alloc (.cells #[.int .i64 lr, .int .i64 lc, .int .i64 lb, .int .i64 lp, .int .i64 ls, .int .i64 lt] 23)) 25 ur uc ub; simpa using this
  have HL0 := Lib.hid hL0
  have HU0 := Lib.hid hU0
  clear hL0 hU0
  go_enter Tryd.func3, Tryd.ntmps3
  go_wp2_with fail
  refine (awake_any _ hgA).mono ?_
  rintro e w1 ⟨rfl, hb⟩
  have hg1 := hgA.below hb hgA.lt
  have hz1 : w.heap.size + 1 < w1.heap.size := by have := hb.size; simp at this; omega
  have HL1 := Lib.hid (HL0.out.below hb (by simp <;> omega))
  have HU1 := Lib.hid (HU0.out.below hb (by simp))
  have HB1 := Lib.hid ((((Below.refl w.heap.size w).alloc (Nat.le_refl _) (.cells #[.int .i64 lr, .int .i64 lc, .int .i64 lb, .int .i64 lp, .int .i64 ls, .int .i64 lt] 23)).alloc (by simp) (.cells #[.int .i64 ur, .int .i64 uc, .int .i64 ub] 25)).trans (hb.mono (by simp; omega)))
  clear hb hgA
  obtain ⟨l0, l1, l2, l3, l4, l5⟩ := HL1.out
  obtain ⟨u0, u1, u2⟩ := HU1.out
  go_wp2_with fail
  refine (check_rows lr lc lb lp ls lt ur uc ub _ (by omega)).mono ?_
  rintro e w2 ⟨b, rfl, hx, hb⟩
  have HX2 := Lib.hid hx; clear hx
  have hg2 := hg1.below hb hg1.lt
  have hz2 : w.heap.size + 1 < w2.heap.size := by have := hb.size; omega
  have HL2 := Lib.hid (HL1.out.below hb (by omega))
  have HU2 := Lib.hid (HU1.out.below hb (by omega))
  have HB2 := Lib.hid (HB1.out.trans (hb.mono (by omega)))
  clear l0 l1 l2 l3 l4 l5 u0 u1 u2 hb
  obtain ⟨l0, l1, l2, l3, l4, l5⟩ := HL2.out
  obtain ⟨u0, u1, u2⟩ := HU2.out
  go_wp2_with fail
  refine (told_X b 1 ur lr _ hg2 HX2.out).mono ?_
  rintro e w3 ⟨rfl, hb⟩
  have HB3 := Lib.hid (HB2.out.trans (hb.mono (by omega))); clear hb
  go_wp2
  go_ret
  exact ⟨rfl, HB3.out⟩

set_option maxHeartbeats 2000000 in
theorem quotaChecks_cols (lr lc lb lp ls lt ur uc ub : Int) (w : World) (hg : Hg w) (h : ¬ lr < ur) (h1 : lc < uc) : Calls Tryd.prog 3 #[.agg #[.int .i64 lr, .int .i64 lc, .int .i64 lb, .int .i64 lp, .int .i64 ls, .int .i64 lt], .agg #[.int .i64 ur, .int .i64 uc, .int .i64 ub]] w (Yes w) := by
  have hgA := (hg.alloc (.cells #[.int .i64 lr, .int .i64 lc, .int .i64 lb, .int .i64 lp, .int .i64 ls, .int .i64 lt] 23)).alloc (.cells #[.int .i64 ur, .int .i64 uc, .int .i64 ub] 25)
  have hL0 := (Lim.new w 23 lr lc lb lp ls lt).alloc (.cells #[.int .i64 ur, .int .i64 uc, .int .i64 ub] 25)
  have hU0 : IsX ((w.alloc (.cells #[.int .i64 lr, .int .i64 lc, .int .i64 lb, .int .i64 lp, .int .i64 ls, .int .i64 lt] 23)).alloc (.cells #[.int .i64 ur, .int .i64 uc, .int .i64 ub] 25)) (w.heap.size + 1) ur uc ub := by have := IsX.new (w.alloc (.cells #[.int .i64 lr, .int .i64 lc, .int .i64 lb, .int .i64 lp, .int .i64 ls, .int .i64 lt] 23)) 25 ur uc ub; simpa using this
  have HL0 := Lib.hid hL0
  have HU0 := Lib.hid hU0
  clear hL0 hU0
  go_enter Tryd.func3, Tryd.ntmps3
  go_wp2_with fail
  refine (awake_any _ hgA).mono ?_
  rintro e w1 ⟨rfl, hb⟩
  have hg1 := hgA.below hb hgA.lt
  have hz1 : w.heap.size + 1 < w1.heap.size := by have := hb.size; simp at this; omega
  have HL1 := Lib.hid (HL0.out.below hb (by simp <;> omega))
  have HU1 := Lib.hid (HU0.out.below hb (by simp))
  have HB1 := Lib.hid ((((Below.refl w.heap.size w).alloc (Nat.le_refl _) (.cells #[.int .i64 lr, .int .i64 lc, .int .i64 lb, .int .i64 lp, .int .i64 ls, .int .i64 lt] 23)).alloc (by simp) (.cells #[.int .i64 ur, .int .i64 uc, .int .i64 ub] 25)).trans (hb.mono (by simp; omega)))
  clear hb hgA
  obtain ⟨l0, l1, l2, l3, l4, l5⟩ := HL1.out
  obtain ⟨u0, u1, u2⟩ := HU1.out
  go_wp2_with fail
  refine (check_cols lr lc lb lp ls lt ur uc ub _ (by omega) (by omega)).mono ?_
  rintro e w2 ⟨b, rfl, hx, hb⟩
  have HX2 := Lib.hid hx; clear hx
  have hg2 := hg1.below hb hg1.lt
  have hz2 : w.heap.size + 1 < w2.heap.size := by have := hb.size; omega
  have HL2 := Lib.hid (HL1.out.below hb (by omega))
  have HU2 := Lib.hid (HU1.out.below hb (by omega))
  have HB2 := Lib.hid (HB1.out.trans (hb.mono (by omega)))
  clear l0 l1 l2 l3 l4 l5 u0 u1 u2 hb
  obtain ⟨l0, l1, l2, l3, l4, l5⟩ := HL2.out
  obtain ⟨u0, u1, u2⟩ := HU2.out
  go_wp2_with fail
  refine (told_X b 2 uc lc _ hg2 HX2.out).mono ?_
  rintro e w3 ⟨rfl, hb⟩
  have HB3 := Lib.hid (HB2.out.trans (hb.mono (by omega))); clear hb
  go_wp2
  go_ret
  exact ⟨rfl, HB3.out⟩

set_option maxHeartbeats 2000000 in
theorem quotaChecks_bits (lr lc lb lp ls lt ur uc ub : Int) (w : World) (hg : Hg w) (h : ¬ lr < ur) (h1 : ¬ lc < uc) (h2 : lb < ub) : Calls Tryd.prog 3 #[.agg #[.int .i64 lr, .int .i64 lc, .int .i64 lb, .int .i64 lp, .int .i64 ls, .int .i64 lt], .agg #[.int .i64 ur, .int .i64 uc, .int .i64 ub]] w (Yes w) := by
  have hgA := (hg.alloc (.cells #[.int .i64 lr, .int .i64 lc, .int .i64 lb, .int .i64 lp, .int .i64 ls, .int .i64 lt] 23)).alloc (.cells #[.int .i64 ur, .int .i64 uc, .int .i64 ub] 25)
  have hL0 := (Lim.new w 23 lr lc lb lp ls lt).alloc (.cells #[.int .i64 ur, .int .i64 uc, .int .i64 ub] 25)
  have hU0 : IsX ((w.alloc (.cells #[.int .i64 lr, .int .i64 lc, .int .i64 lb, .int .i64 lp, .int .i64 ls, .int .i64 lt] 23)).alloc (.cells #[.int .i64 ur, .int .i64 uc, .int .i64 ub] 25)) (w.heap.size + 1) ur uc ub := by have := IsX.new (w.alloc (.cells #[.int .i64 lr, .int .i64 lc, .int .i64 lb, .int .i64 lp, .int .i64 ls, .int .i64 lt] 23)) 25 ur uc ub; simpa using this
  have HL0 := Lib.hid hL0
  have HU0 := Lib.hid hU0
  clear hL0 hU0
  go_enter Tryd.func3, Tryd.ntmps3
  go_wp2_with fail
  refine (awake_any _ hgA).mono ?_
  rintro e w1 ⟨rfl, hb⟩
  have hg1 := hgA.below hb hgA.lt
  have hz1 : w.heap.size + 1 < w1.heap.size := by have := hb.size; simp at this; omega
  have HL1 := Lib.hid (HL0.out.below hb (by simp <;> omega))
  have HU1 := Lib.hid (HU0.out.below hb (by simp))
  have HB1 := Lib.hid ((((Below.refl w.heap.size w).alloc (Nat.le_refl _) (.cells #[.int .i64 lr, .int .i64 lc, .int .i64 lb, .int .i64 lp, .int .i64 ls, .int .i64 lt] 23)).alloc (by simp) (.cells #[.int .i64 ur, .int .i64 uc, .int .i64 ub] 25)).trans (hb.mono (by simp; omega)))
  clear hb hgA
  obtain ⟨l0, l1, l2, l3, l4, l5⟩ := HL1.out
  obtain ⟨u0, u1, u2⟩ := HU1.out
  go_wp2_with fail
  refine (check_bits lr lc lb lp ls lt ur uc ub _ (by omega) (by omega) (by omega)).mono ?_
  rintro e w2 ⟨b, rfl, hx, hb⟩
  have HX2 := Lib.hid hx; clear hx
  have hg2 := hg1.below hb hg1.lt
  have hz2 : w.heap.size + 1 < w2.heap.size := by have := hb.size; omega
  have HL2 := Lib.hid (HL1.out.below hb (by omega))
  have HU2 := Lib.hid (HU1.out.below hb (by omega))
  have HB2 := Lib.hid (HB1.out.trans (hb.mono (by omega)))
  clear l0 l1 l2 l3 l4 l5 u0 u1 u2 hb
  obtain ⟨l0, l1, l2, l3, l4, l5⟩ := HL2.out
  obtain ⟨u0, u1, u2⟩ := HU2.out
  go_wp2_with fail
  refine (told_X b 3 ub lb _ hg2 HX2.out).mono ?_
  rintro e w3 ⟨rfl, hb⟩
  have HB3 := Lib.hid (HB2.out.trans (hb.mono (by omega))); clear hb
  go_wp2
  go_ret
  exact ⟨rfl, HB3.out⟩

set_option maxHeartbeats 2000000 in
theorem quotaChecks_none (lr lc lb lp ls lt ur uc ub : Int) (w : World) (hg : Hg w) (h : ¬ lr < ur) (h1 : ¬ lc < uc) (h2 : ¬ lb < ub) : Calls Tryd.prog 3 #[.agg #[.int .i64 lr, .int .i64 lc, .int .i64 lb, .int .i64 lp, .int .i64 ls, .int .i64 lt], .agg #[.int .i64 ur, .int .i64 uc, .int .i64 ub]] w (Yes w) := by
  have hgA := (hg.alloc (.cells #[.int .i64 lr, .int .i64 lc, .int .i64 lb, .int .i64 lp, .int .i64 ls, .int .i64 lt] 23)).alloc (.cells #[.int .i64 ur, .int .i64 uc, .int .i64 ub] 25)
  have hL0 := (Lim.new w 23 lr lc lb lp ls lt).alloc (.cells #[.int .i64 ur, .int .i64 uc, .int .i64 ub] 25)
  have hU0 : IsX ((w.alloc (.cells #[.int .i64 lr, .int .i64 lc, .int .i64 lb, .int .i64 lp, .int .i64 ls, .int .i64 lt] 23)).alloc (.cells #[.int .i64 ur, .int .i64 uc, .int .i64 ub] 25)) (w.heap.size + 1) ur uc ub := by have := IsX.new (w.alloc (.cells #[.int .i64 lr, .int .i64 lc, .int .i64 lb, .int .i64 lp, .int .i64 ls, .int .i64 lt] 23)) 25 ur uc ub; simpa using this
  have HL0 := Lib.hid hL0
  have HU0 := Lib.hid hU0
  clear hL0 hU0
  go_enter Tryd.func3, Tryd.ntmps3
  go_wp2_with fail
  refine (awake_any _ hgA).mono ?_
  rintro e w1 ⟨rfl, hb⟩
  have hg1 := hgA.below hb hgA.lt
  have hz1 : w.heap.size + 1 < w1.heap.size := by have := hb.size; simp at this; omega
  have HL1 := Lib.hid (HL0.out.below hb (by simp <;> omega))
  have HU1 := Lib.hid (HU0.out.below hb (by simp))
  have HB1 := Lib.hid ((((Below.refl w.heap.size w).alloc (Nat.le_refl _) (.cells #[.int .i64 lr, .int .i64 lc, .int .i64 lb, .int .i64 lp, .int .i64 ls, .int .i64 lt] 23)).alloc (by simp) (.cells #[.int .i64 ur, .int .i64 uc, .int .i64 ub] 25)).trans (hb.mono (by simp; omega)))
  clear hb hgA
  obtain ⟨l0, l1, l2, l3, l4, l5⟩ := HL1.out
  obtain ⟨u0, u1, u2⟩ := HU1.out
  go_wp2_with fail
  refine (check_none lr lc lb lp ls lt ur uc ub _ (by omega) (by omega) (by omega)).mono ?_
  rintro e w2 ⟨rfl, hb⟩
  have hg2 := hg1.below hb hg1.lt
  have hz2 : w.heap.size + 1 < w2.heap.size := by have := hb.size; omega
  have HL2 := Lib.hid (HL1.out.below hb (by omega))
  have HU2 := Lib.hid (HU1.out.below hb (by omega))
  have HB2 := Lib.hid (HB1.out.trans (hb.mono (by omega)))
  clear l0 l1 l2 l3 l4 l5 u0 u1 u2 hb
  obtain ⟨l0, l1, l2, l3, l4, l5⟩ := HL2.out
  obtain ⟨u0, u1, u2⟩ := HU2.out
  go_wp2
  go_ret
  exact ⟨rfl, HB2.out⟩

theorem quotaChecks_any (lr lc lb lp ls lt ur uc ub : Int) (w : World) (hg : Hg w) : Calls Tryd.prog 3 #[.agg #[.int .i64 lr, .int .i64 lc, .int .i64 lb, .int .i64 lp, .int .i64 ls, .int .i64 lt], .agg #[.int .i64 ur, .int .i64 uc, .int .i64 ub]] w (Yes w) := by
  by_cases h : lr < ur
  · exact quotaChecks_rows _ _ _ _ _ _ _ _ _ w hg h
  · by_cases h1 : lc < uc
    · exact quotaChecks_cols _ _ _ _ _ _ _ _ _ w hg h h1
    · by_cases h2 : lb < ub
      · exact quotaChecks_bits _ _ _ _ _ _ _ _ _ w hg h h1 h2
      · exact quotaChecks_none _ _ _ _ _ _ _ _ _ w hg h h1 h2

set_option maxHeartbeats 2000000 in
theorem quotaOne_other (lr lc lb lp ls lt what have_ : Int) (w : World) (hg : Hg w) (h5 : (what == 5) = false) (h6 : (what == 6) = false) (h5' : (what != 5) = true) (h6' : (what != 6) = true) :
    Calls Tryd.prog 4 #[.agg #[.int .i64 lr, .int .i64 lc, .int .i64 lb, .int .i64 lp, .int .i64 ls, .int .i64 lt], .int .i64 what, .int .i64 have_] w (Yes w) := by
  have hgA := hg.alloc (.cells #[.int .i64 lr, .int .i64 lc, .int .i64 lb, .int .i64 lp, .int .i64 ls, .int .i64 lt] 23)
  have HL0 := Lib.hid (Lim.new w 23 lr lc lb lp ls lt)
  go_enter Tryd.func4, Tryd.ntmps4
  go_wp2_with fail
  refine (awake_any _ hgA).mono ?_
  rintro e w1 ⟨rfl, hb⟩
  have hg1 := hgA.below hb hgA.lt
  have hz1 : w.heap.size < w1.heap.size := by have := hb.size; simp at this; omega
  have HL1 := Lib.hid (HL0.out.below hb (by simp))
  have HB1 := Lib.hid (((Below.refl w.heap.size w).alloc (Nat.le_refl _) (.cells #[.int .i64 lr, .int .i64 lc, .int .i64 lb, .int .i64 lp, .int .i64 ls, .int .i64 lt] 23)).trans (hb.mono (by simp)))
  clear hb hgA
  obtain ⟨l0, l1, l2, l3, l4, l5⟩ := HL1.out
  go_wp2_with fail
  refine (one_other lr lc lb lp ls lt what have_ _ h5 h6).mono ?_
  rintro e w2 ⟨rfl, hb⟩
  have hg2 := hg1.below hb hg1.lt
  have hz2 : w.heap.size < w2.heap.size := by have := hb.size; omega
  have HL2 := Lib.hid (HL1.out.below hb (by omega))
  have HB2 := Lib.hid (HB1.out.trans (hb.mono (by omega)))
  clear l0 l1 l2 l3 l4 l5 hb
  obtain ⟨l0, l1, l2, l3, l4, l5⟩ := HL2.out
  go_wp2_with fail
  refine (isE_same 1 1 w2 (by decide)).mono ?_
  rintro e w3 ⟨rfl, rfl⟩
  go_wp2
  go_ret
  exact ⟨rfl, HB2.out⟩

set_option maxHeartbeats 2000000 in
theorem quotaOne_ok5 (lr lc lb lp ls lt have_ : Int) (w : World) (hg : Hg w) (h0 : 0 ≤ have_) (h1 : have_ < ls) :
    Calls Tryd.prog 4 #[.agg #[.int .i64 lr, .int .i64 lc, .int .i64 lb, .int .i64 lp, .int .i64 ls, .int .i64 lt], .int .i64 5, .int .i64 have_] w (Yes w) := by
  have hgA := hg.alloc (.cells #[.int .i64 lr, .int .i64 lc, .int .i64 lb, .int .i64 lp, .int .i64 ls, .int .i64 lt] 23)
  have HL0 := Lib.hid (Lim.new w 23 lr lc lb lp ls lt)
  go_enter Tryd.func4, Tryd.ntmps4
  go_wp2_with fail
  refine (awake_any _ hgA).mono ?_
  rintro e w1 ⟨rfl, hb⟩
  have hg1 := hgA.below hb hgA.lt
  have hz1 : w.heap.size < w1.heap.size := by have := hb.size; simp at this; omega
  have HL1 := Lib.hid (HL0.out.below hb (by simp))
  have HB1 := Lib.hid (((Below.refl w.heap.size w).alloc (Nat.le_refl _) (.cells #[.int .i64 lr, .int .i64 lc, .int .i64 lb, .int .i64 lp, .int .i64 ls, .int .i64 lt] 23)).trans (hb.mono (by simp)))
  clear hb hgA
  obtain ⟨l0, l1, l2, l3, l4, l5⟩ := HL1.out
  go_wp2_with fail
  refine (one_ok5 lr lc lb lp ls lt have_ _ (by omega) (by omega)).mono ?_
  rintro e w2 ⟨rfl, hb⟩
  have hg2 := hg1.below hb hg1.lt
  have hz2 : w.heap.size < w2.heap.size := by have := hb.size; omega
  have HL2 := Lib.hid (HL1.out.below hb (by omega))
  have HB2 := Lib.hid (HB1.out.trans (hb.mono (by omega)))
  clear l0 l1 l2 l3 l4 l5 hb
  obtain ⟨l0, l1, l2, l3, l4, l5⟩ := HL2.out
  go_wp2
  go_ret
  exact ⟨rfl, HB2.out⟩

set_option maxHeartbeats 2000000 in
theorem quotaOne_neg5 (lr lc lb lp ls lt have_ : Int) (w : World) (hg : Hg w) (h0 : have_ < 0) (hne : (have_ == 9223372036854775807) = false) :
    Calls Tryd.prog 4 #[.agg #[.int .i64 lr, .int .i64 lc, .int .i64 lb, .int .i64 lp, .int .i64 ls, .int .i64 lt], .int .i64 5, .int .i64 have_] w (Yes w) := by
  have hgA := hg.alloc (.cells #[.int .i64 lr, .int .i64 lc, .int .i64 lb, .int .i64 lp, .int .i64 ls, .int .i64 lt] 23)
  have HL0 := Lib.hid (Lim.new w 23 lr lc lb lp ls lt)
  go_enter Tryd.func4, Tryd.ntmps4
  go_wp2_with fail
  refine (awake_any _ hgA).mono ?_
  rintro e w1 ⟨rfl, hb⟩
  have hg1 := hgA.below hb hgA.lt
  have hz1 : w.heap.size < w1.heap.size := by have := hb.size; simp at this; omega
  have HL1 := Lib.hid (HL0.out.below hb (by simp))
  have HB1 := Lib.hid (((Below.refl w.heap.size w).alloc (Nat.le_refl _) (.cells #[.int .i64 lr, .int .i64 lc, .int .i64 lb, .int .i64 lp, .int .i64 ls, .int .i64 lt] 23)).trans (hb.mono (by simp)))
  clear hb hgA
  obtain ⟨l0, l1, l2, l3, l4, l5⟩ := HL1.out
  go_wp2_with fail
  refine (one_neg5 lr lc lb lp ls lt have_ _ (by omega)).mono ?_
  rintro e w2 ⟨b, rfl, hx, hb⟩
  have HX2 := Lib.hid hx; clear hx
  have hg2 := hg1.below hb hg1.lt
  have hz2 : w.heap.size < w2.heap.size := by have := hb.size; omega
  have HL2 := Lib.hid (HL1.out.below hb (by omega))
  have HB2 := Lib.hid (HB1.out.trans (hb.mono (by omega)))
  clear l0 l1 l2 l3 l4 l5 hb
  obtain ⟨l0, l1, l2, l3, l4, l5⟩ := HL2.out
  go_wp2_with fail
  refine (told_X b 5 1 ls _ hg2 HX2.out).mono ?_
  rintro e w3 ⟨rfl, hb⟩
  have HB3 := Lib.hid (HB2.out.trans (hb.mono (by omega))); clear hb
  go_wp2
  go_ret
  exact ⟨rfl, HB3.out⟩

set_option maxHeartbeats 2000000 in
theorem quotaOne_full5 (lr lc lb lp ls lt have_ : Int) (w : World) (hg : Hg w) (h0 : 0 < have_) (h1 : ¬ have_ < ls) (h2 : have_ < 9223372036854775807) (hne : (have_ == 9223372036854775807) = false) :
    Calls Tryd.prog 4 #[.agg #[.int .i64 lr, .int .i64 lc, .int .i64 lb, .int .i64 lp, .int .i64 ls, .int .i64 lt], .int .i64 5, .int .i64 have_] w (Yes w) := by
  have hgA := hg.alloc (.cells #[.int .i64 lr, .int .i64 lc, .int .i64 lb, .int .i64 lp, .int .i64 ls, .int .i64 lt] 23)
  have HL0 := Lib.hid (Lim.new w 23 lr lc lb lp ls lt)
  go_enter Tryd.func4, Tryd.ntmps4
  go_wp2_with fail
  refine (awake_any _ hgA).mono ?_
  rintro e w1 ⟨rfl, hb⟩
  have hg1 := hgA.below hb hgA.lt
  have hz1 : w.heap.size < w1.heap.size := by have := hb.size; simp at this; omega
  have HL1 := Lib.hid (HL0.out.below hb (by simp))
  have HB1 := Lib.hid (((Below.refl w.heap.size w).alloc (Nat.le_refl _) (.cells #[.int .i64 lr, .int .i64 lc, .int .i64 lb, .int .i64 lp, .int .i64 ls, .int .i64 lt] 23)).trans (hb.mono (by simp)))
  clear hb hgA
  obtain ⟨l0, l1, l2, l3, l4, l5⟩ := HL1.out
  go_wp2_with fail
  refine (one_full5 lr lc lb lp ls lt have_ _ (by omega) (by omega) (by omega)).mono ?_
  rintro e w2 ⟨b, rfl, hx, hb⟩
  have HX2 := Lib.hid hx; clear hx
  have hg2 := hg1.below hb hg1.lt
  have hz2 : w.heap.size < w2.heap.size := by have := hb.size; omega
  have HL2 := Lib.hid (HL1.out.below hb (by omega))
  have HB2 := Lib.hid (HB1.out.trans (hb.mono (by omega)))
  clear l0 l1 l2 l3 l4 l5 hb
  obtain ⟨l0, l1, l2, l3, l4, l5⟩ := HL2.out
  go_wp2_with fail
  refine (told_X b 5 (have_ + 1) ls _ hg2 HX2.out).mono ?_
  rintro e w3 ⟨rfl, hb⟩
  have HB3 := Lib.hid (HB2.out.trans (hb.mono (by omega))); clear hb
  go_wp2
  go_ret
  exact ⟨rfl, HB3.out⟩

set_option maxHeartbeats 2000000 in
theorem quotaOne_zero5 (lr lc lb lp ls lt : Int) (w : World) (hg : Hg w) (h1 : ¬ 0 < ls) :
    Calls Tryd.prog 4 #[.agg #[.int .i64 lr, .int .i64 lc, .int .i64 lb, .int .i64 lp, .int .i64 ls, .int .i64 lt], .int .i64 5, .int .i64 0] w (Yes w) := by
  have hgA := hg.alloc (.cells #[.int .i64 lr, .int .i64 lc, .int .i64 lb, .int .i64 lp, .int .i64 ls, .int .i64 lt] 23)
  have HL0 := Lib.hid (Lim.new w 23 lr lc lb lp ls lt)
  go_enter Tryd.func4, Tryd.ntmps4
  go_wp2_with fail
  refine (awake_any _ hgA).mono ?_
  rintro e w1 ⟨rfl, hb⟩
  have hg1 := hgA.below hb hgA.lt
  have hz1 : w.heap.size < w1.heap.size := by have := hb.size; simp at this; omega
  have HL1 := Lib.hid (HL0.out.below hb (by simp))
  have HB1 := Lib.hid (((Below.refl w.heap.size w).alloc (Nat.le_refl _) (.cells #[.int .i64 lr, .int .i64 lc, .int .i64 lb, .int .i64 lp, .int .i64 ls, .int .i64 lt] 23)).trans (hb.mono (by simp)))
  clear hb hgA
  obtain ⟨l0, l1, l2, l3, l4, l5⟩ := HL1.out
  go_wp2_with fail
  refine (one_zero5 lr lc lb lp ls lt  _ (by omega)).mono ?_
  rintro e w2 ⟨b, rfl, hx, hb⟩
  have HX2 := Lib.hid hx; clear hx
  have hg2 := hg1.below hb hg1.lt
  have hz2 : w.heap.size < w2.heap.size := by have := hb.size; omega
  have HL2 := Lib.hid (HL1.out.below hb (by omega))
  have HB2 := Lib.hid (HB1.out.trans (hb.mono (by omega)))
  clear l0 l1 l2 l3 l4 l5 hb
  obtain ⟨l0, l1, l2, l3, l4, l5⟩ := HL2.out
  go_wp2_with fail
  refine (told_X b 5 1 ls _ hg2 HX2.out).mono ?_
  rintro e w3 ⟨rfl, hb⟩
  have HB3 := Lib.hid (HB2.out.trans (hb.mono (by omega))); clear hb
  go_wp2
  go_ret
  exact ⟨rfl, HB3.out⟩

set_option maxHeartbeats 2000000 in
theorem quotaOne_top5 (lr lc lb lp ls lt : Int) (w : World) (hg : Hg w) (h1 : ¬ 9223372036854775807 < ls) :
    Calls Tryd.prog 4 #[.agg #[.int .i64 lr, .int .i64 lc, .int .i64 lb, .int .i64 lp, .int .i64 ls, .int .i64 lt], .int .i64 5, .int .i64 9223372036854775807] w (Yes w) := by
  have hgA := hg.alloc (.cells #[.int .i64 lr, .int .i64 lc, .int .i64 lb, .int .i64 lp, .int .i64 ls, .int .i64 lt] 23)
  have HL0 := Lib.hid (Lim.new w 23 lr lc lb lp ls lt)
  go_enter Tryd.func4, Tryd.ntmps4
  go_wp2_with fail
  refine (awake_any _ hgA).mono ?_
  rintro e w1 ⟨rfl, hb⟩
  have hg1 := hgA.below hb hgA.lt
  have hz1 : w.heap.size < w1.heap.size := by have := hb.size; simp at this; omega
  have HL1 := Lib.hid (HL0.out.below hb (by simp))
  have HB1 := Lib.hid (((Below.refl w.heap.size w).alloc (Nat.le_refl _) (.cells #[.int .i64 lr, .int .i64 lc, .int .i64 lb, .int .i64 lp, .int .i64 ls, .int .i64 lt] 23)).trans (hb.mono (by simp)))
  clear hb hgA
  obtain ⟨l0, l1, l2, l3, l4, l5⟩ := HL1.out
  go_wp2_with fail
  refine (one_top5 lr lc lb lp ls lt 9223372036854775807 _ (by omega) (by omega)).mono ?_
  rintro e w2 ⟨b, rfl, hx, hb⟩
  have HX2 := Lib.hid hx; clear hx
  have hg2 := hg1.below hb hg1.lt
  have hz2 : w.heap.size < w2.heap.size := by have := hb.size; omega
  have HL2 := Lib.hid (HL1.out.below hb (by omega))
  have HB2 := Lib.hid (HB1.out.trans (hb.mono (by omega)))
  clear l0 l1 l2 l3 l4 l5 hb
  obtain ⟨l0, l1, l2, l3, l4, l5⟩ := HL2.out
  go_wp2_with fail
  refine (told_X b 5 9223372036854775807 ls _ hg2 HX2.out).mono ?_
  rintro e w3 ⟨rfl, hb⟩
  have HB3 := Lib.hid (HB2.out.trans (hb.mono (by omega))); clear hb
  go_wp2
  go_ret
  exact ⟨rfl, HB3.out⟩

set_option maxHeartbeats 2000000 in
theorem quotaOne_ok6 (lr lc lb lp ls lt have_ : Int) (w : World) (hg : Hg w) (h0 : 0 ≤ have_) (h1 : have_ < lt) :
    Calls Tryd.prog 4 #[.agg #[.int .i64 lr, .int .i64 lc, .int .i64 lb, .int .i64 lp, .int .i64 ls, .int .i64 lt], .int .i64 6, .int .i64 have_] w (Yes w) := by
  have hgA := hg.alloc (.cells #[.int .i64 lr, .int .i64 lc, .int .i64 lb, .int .i64 lp, .int .i64 ls, .int .i64 lt] 23)
  have HL0 := Lib.hid (Lim.new w 23 lr lc lb lp ls lt)
  go_enter Tryd.func4, Tryd.ntmps4
  go_wp2_with fail
  refine (awake_any _ hgA).mono ?_
  rintro e w1 ⟨rfl, hb⟩
  have hg1 := hgA.below hb hgA.lt
  have hz1 : w.heap.size < w1.heap.size := by have := hb.size; simp at this; omega
  have HL1 := Lib.hid (HL0.out.below hb (by simp))
  have HB1 := Lib.hid (((Below.refl w.heap.size w).alloc (Nat.le_refl _) (.cells #[.int .i64 lr, .int .i64 lc, .int .i64 lb, .int .i64 lp, .int .i64 ls, .int .i64 lt] 23)).trans (hb.mono (by simp)))
  clear hb hgA
  obtain ⟨l0, l1, l2, l3, l4, l5⟩ := HL1.out
  go_wp2_with fail
  refine (one_ok6 lr lc lb lp ls lt have_ _ (by omega) (by omega)).mono ?_
  rintro e w2 ⟨rfl, hb⟩
  have hg2 := hg1.below hb hg1.lt
  have hz2 : w.heap.size < w2.heap.size := by have := hb.size; omega
  have HL2 := Lib.hid (HL1.out.below hb (by omega))
  have HB2 := Lib.hid (HB1.out.trans (hb.mono (by omega)))
  clear l0 l1 l2 l3 l4 l5 hb
  obtain ⟨l0, l1, l2, l3, l4, l5⟩ := HL2.out
  go_wp2
  go_ret
  exact ⟨rfl, HB2.out⟩

set_option maxHeartbeats 2000000 in
theorem quotaOne_neg6 (lr lc lb lp ls lt have_ : Int) (w : World) (hg : Hg w) (h0 : have_ < 0) (hne : (have_ == 9223372036854775807) = false) :
    Calls Tryd.prog 4 #[.agg #[.int .i64 lr, .int .i64 lc, .int .i64 lb, .int .i64 lp, .int .i64 ls, .int .i64 lt], .int .i64 6, .int .i64 have_] w (Yes w) := by
  have hgA := hg.alloc (.cells #[.int .i64 lr, .int .i64 lc, .int .i64 lb, .int .i64 lp, .int .i64 ls, .int .i64 lt] 23)
  have HL0 := Lib.hid (Lim.new w 23 lr lc lb lp ls lt)
  go_enter Tryd.func4, Tryd.ntmps4
  go_wp2_with fail
  refine (awake_any _ hgA).mono ?_
  rintro e w1 ⟨rfl, hb⟩
  have hg1 := hgA.below hb hgA.lt
  have hz1 : w.heap.size < w1.heap.size := by have := hb.size; simp at this; omega
  have HL1 := Lib.hid (HL0.out.below hb (by simp))
  have HB1 := Lib.hid (((Below.refl w.heap.size w).alloc (Nat.le_refl _) (.cells #[.int .i64 lr, .int .i64 lc, .int .i64 lb, .int .i64 lp, .int .i64 ls, .int .i64 lt] 23)).trans (hb.mono (by simp)))
  clear hb hgA
  obtain ⟨l0, l1, l2, l3, l4, l5⟩ := HL1.out
  go_wp2_with fail
  refine (one_neg6 lr lc lb lp ls lt have_ _ (by omega)).mono ?_
  rintro e w2 ⟨b, rfl, hx, hb⟩
  have HX2 := Lib.hid hx; clear hx
  have hg2 := hg1.below hb hg1.lt
  have hz2 : w.heap.size < w2.heap.size := by have := hb.size; omega
  have HL2 := Lib.hid (HL1.out.below hb (by omega))
  have HB2 := Lib.hid (HB1.out.trans (hb.mono (by omega)))
  clear l0 l1 l2 l3 l4 l5 hb
  obtain ⟨l0, l1, l2, l3, l4, l5⟩ := HL2.out
  go_wp2_with fail
  refine (told_X b 6 1 lt _ hg2 HX2.out).mono ?_
  rintro e w3 ⟨rfl, hb⟩
  have HB3 := Lib.hid (HB2.out.trans (hb.mono (by omega))); clear hb
  go_wp2
  go_ret
  exact ⟨rfl, HB3.out⟩

set_option maxHeartbeats 2000000 in
theorem quotaOne_full6 (lr lc lb lp ls lt have_ : Int) (w : World) (hg : Hg w) (h0 : 0 < have_) (h1 : ¬ have_ < lt) (h2 : have_ < 9223372036854775807) (hne : (have_ == 9223372036854775807) = false) :
    Calls Tryd.prog 4 #[.agg #[.int .i64 lr, .int .i64 lc, .int .i64 lb, .int .i64 lp, .int .i64 ls, .int .i64 lt], .int .i64 6, .int .i64 have_] w (Yes w) := by
  have hgA := hg.alloc (.cells #[.int .i64 lr, .int .i64 lc, .int .i64 lb, .int .i64 lp, .int .i64 ls, .int .i64 lt] 23)
  have HL0 := Lib.hid (Lim.new w 23 lr lc lb lp ls lt)
  go_enter Tryd.func4, Tryd.ntmps4
  go_wp2_with fail
  refine (awake_any _ hgA).mono ?_
  rintro e w1 ⟨rfl, hb⟩
  have hg1 := hgA.below hb hgA.lt
  have hz1 : w.heap.size < w1.heap.size := by have := hb.size; simp at this; omega
  have HL1 := Lib.hid (HL0.out.below hb (by simp))
  have HB1 := Lib.hid (((Below.refl w.heap.size w).alloc (Nat.le_refl _) (.cells #[.int .i64 lr, .int .i64 lc, .int .i64 lb, .int .i64 lp, .int .i64 ls, .int .i64 lt] 23)).trans (hb.mono (by simp)))
  clear hb hgA
  obtain ⟨l0, l1, l2, l3, l4, l5⟩ := HL1.out
  go_wp2_with fail
  refine (one_full6 lr lc lb lp ls lt have_ _ (by omega) (by omega) (by omega)).mono ?_
  rintro e w2 ⟨b, rfl, hx, hb⟩
  have HX2 := Lib.hid hx; clear hx
  have hg2 := hg1.below hb hg1.lt
  have hz2 : w.heap.size < w2.heap.size := by have := hb.size; omega
  have HL2 := Lib.hid (HL1.out.below hb (by omega))
  have HB2 := Lib.hid (HB1.out.trans (hb.mono (by omega)))
  clear l0 l1 l2 l3 l4 l5 hb
  obtain ⟨l0, l1, l2, l3, l4, l5⟩ := HL2.out
  go_wp2_with fail
  refine (told_X b 6 (have_ + 1) lt _ hg2 HX2.out).mono ?_
  rintro e w3 ⟨rfl, hb⟩
  have HB3 := Lib.hid (HB2.out.trans (hb.mono (by omega))); clear hb
  go_wp2
  go_ret
  exact ⟨rfl, HB3.out⟩

set_option maxHeartbeats 2000000 in
theorem quotaOne_zero6 (lr lc lb lp ls lt : Int) (w : World) (hg : Hg w) (h1 : ¬ 0 < lt) :
    Calls Tryd.prog 4 #[.agg #[.int .i64 lr, .int .i64 lc, .int .i64 lb, .int .i64 lp, .int .i64 ls, .int .i64 lt], .int .i64 6, .int .i64 0] w (Yes w) := by
  have hgA := hg.alloc (.cells #[.int .i64 lr, .int .i64 lc, .int .i64 lb, .int .i64 lp, .int .i64 ls, .int .i64 lt] 23)
  have HL0 := Lib.hid (Lim.new w 23 lr lc lb lp ls lt)
  go_enter Tryd.func4, Tryd.ntmps4
  go_wp2_with fail
  refine (awake_any _ hgA).mono ?_
  rintro e w1 ⟨rfl, hb⟩
  have hg1 := hgA.below hb hgA.lt
  have hz1 : w.heap.size < w1.heap.size := by have := hb.size; simp at this; omega
  have HL1 := Lib.hid (HL0.out.below hb (by simp))
  have HB1 := Lib.hid (((Below.refl w.heap.size w).alloc (Nat.le_refl _) (.cells #[.int .i64 lr, .int .i64 lc, .int .i64 lb, .int .i64 lp, .int .i64 ls, .int .i64 lt] 23)).trans (hb.mono (by simp)))
  clear hb hgA
  obtain ⟨l0, l1, l2, l3, l4, l5⟩ := HL1.out
  go_wp2_with fail
  refine (one_zero6 lr lc lb lp ls lt  _ (by omega)).mono ?_
  rintro e w2 ⟨b, rfl, hx, hb⟩
  have HX2 := Lib.hid hx; clear hx
  have hg2 := hg1.below hb hg1.lt
  have hz2 : w.heap.size < w2.heap.size := by have := hb.size; omega
  have HL2 := Lib.hid (HL1.out.below hb (by omega))
  have HB2 := Lib.hid (HB1.out.trans (hb.mono (by omega)))
  clear l0 l1 l2 l3 l4 l5 hb
  obtain ⟨l0, l1, l2, l3, l4, l5⟩ := HL2.out
  go_wp2_with fail
  refine (told_X b 6 1 lt _ hg2 HX2.out).mono ?_
  rintro e w3 ⟨rfl, hb⟩
  have HB3 := Lib.hid (HB2.out.trans (hb.mono (by omega))); clear hb
  go_wp2
  go_ret
  exact ⟨rfl, HB3.out⟩

set_option maxHeartbeats 2000000 in
theorem quotaOne_top6 (lr lc lb lp ls lt : Int) (w : World) (hg : Hg w) (h1 : ¬ 9223372036854775807 < lt) :
    Calls Tryd.prog 4 #[.agg #[.int .i64 lr, .int .i64 lc, .int .i64 lb, .int .i64 lp, .int .i64 ls, .int .i64 lt], .int .i64 6, .int .i64 9223372036854775807] w (Yes w) := by
  have hgA := hg.alloc (.cells #[.int .i64 lr, .int .i64 lc, .int .i64 lb, .int .i64 lp, .int .i64 ls, .int .i64 lt] 23)
  have HL0 := Lib.hid (Lim.new w 23 lr lc lb lp ls lt)
  go_enter Tryd.func4, Tryd.ntmps4
  go_wp2_with fail
  refine (awake_any _ hgA).mono ?_
  rintro e w1 ⟨rfl, hb⟩
  have hg1 := hgA.below hb hgA.lt
  have hz1 : w.heap.size < w1.heap.size := by have := hb.size; simp at this; omega
  have HL1 := Lib.hid (HL0.out.below hb (by simp))
  have HB1 := Lib.hid (((Below.refl w.heap.size w).alloc (Nat.le_refl _) (.cells #[.int .i64 lr, .int .i64 lc, .int .i64 lb, .int .i64 lp, .int .i64 ls, .int .i64 lt] 23)).trans (hb.mono (by simp)))
  clear hb hgA
  obtain ⟨l0, l1, l2, l3, l4, l5⟩ := HL1.out
  go_wp2_with fail
  refine (one_top6 lr lc lb lp ls lt 9223372036854775807 _ (by omega) (by omega)).mono ?_
  rintro e w2 ⟨b, rfl, hx, hb⟩
  have HX2 := Lib.hid hx; clear hx
  have hg2 := hg1.below hb hg1.lt
  have hz2 : w.heap.size < w2.heap.size := by have := hb.size; omega
  have HL2 := Lib.hid (HL1.out.below hb (by omega))
  have HB2 := Lib.hid (HB1.out.trans (hb.mono (by omega)))
  clear l0 l1 l2 l3 l4 l5 hb
  obtain ⟨l0, l1, l2, l3, l4, l5⟩ := HL2.out
  go_wp2_with fail
  refine (told_X b 6 9223372036854775807 lt _ hg2 HX2.out).mono ?_
  rintro e w3 ⟨rfl, hb⟩
  have HB3 := Lib.hid (HB2.out.trans (hb.mono (by omega))); clear hb
  go_wp2
  go_ret
  exact ⟨rfl, HB3.out⟩

theorem quotaOne_any (lr lc lb lp ls lt what have_ : Int) (w : World) (hg : Hg w) (hv : have_ ≤ 9223372036854775807) : Calls Tryd.prog 4 #[.agg #[.int .i64 lr, .int .i64 lc, .int .i64 lb, .int .i64 lp, .int .i64 ls, .int .i64 lt], .int .i64 what, .int .i64 have_] w (Yes w) := by
  by_cases h5 : what = 5
  · subst h5
    by_cases h0 : have_ < 0
    · exact quotaOne_neg5 _ _ _ _ _ _ _ w hg h0 (by rw [beq_eq_false_iff_ne]; omega)
    · by_cases h1 : have_ < ls
      · exact quotaOne_ok5 _ _ _ _ _ _ _ w hg (by omega) h1
      · by_cases hz : have_ = 0
        · subst hz; exact quotaOne_zero5 _ _ _ _ _ _ w hg h1
        · by_cases ht : have_ = 9223372036854775807
          · subst ht; exact quotaOne_top5 _ _ _ _ _ _ w hg h1
          · exact quotaOne_full5 _ _ _ _ _ _ _ w hg (by omega) h1 (by omega) (by rw [beq_eq_false_iff_ne]; omega)
  · by_cases h6 : what = 6
    · subst h6
      by_cases h0 : have_ < 0
      · exact quotaOne_neg6 _ _ _ _ _ _ _ w hg h0 (by rw [beq_eq_false_iff_ne]; omega)
      · by_cases h1 : have_ < lt
        · exact quotaOne_ok6 _ _ _ _ _ _ _ w hg (by omega) h1
        · by_cases hz : have_ = 0
          · subst hz; exact quotaOne_zero6 _ _ _ _ _ _ w hg h1
          · by_cases ht : have_ = 9223372036854775807
            · subst ht; exact quotaOne_top6 _ _ _ _ _ _ w hg h1
            · exact quotaOne_full6 _ _ _ _ _ _ _ w hg (by omega) h1 (by omega) (by rw [beq_eq_false_iff_ne]; omega)
    · exact quotaOne_other _ _ _ _ _ _ _ _ w hg (by rw [beq_eq_false_iff_ne]; omega) (by rw [beq_eq_false_iff_ne]; omega) (by rw [bne_iff_ne]; omega) (by rw [bne_iff_ne]; omega)
end Go.Proofs.YtgicnjpneoedoaaDoor
