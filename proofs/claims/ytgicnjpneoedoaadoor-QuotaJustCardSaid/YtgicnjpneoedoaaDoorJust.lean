/-
  The walk of QuotaJust: it answers true for every use and number, and old memory stays; the condition: what errors.errorType holds.
-/
import Derived.Test.YtgicnjpneoedoaaDoorLaws
import Derived.Deep.RegionHeld3
import Derived.IntWalk
namespace Go.Proofs.YtgicnjpneoedoaaDoor
open Go.RowKit Go.Extern.Stop Go.Stop Go.Extern

/-- An operation that yields its value in every world that meets S is taken first; where its value goes is named. -/
theorem takeJ {P : Program} {md : Region.Mode} {ops : Array Oper} {Q : Exit → Act → World → Prop} {S : World → Prop} {i : Nat} {oi : Oper} {d : Option Tmp} {v : Value} {fuel : Nat} {listed : Array Bool} {a : Act} {w : World} (hi : ops[i]? = some oi) (hd : oi.dst = d)
    (hs : Region.noSelect ops = true) (hf : Region.free md ops listed i = true) (hr : (Region.ready md ops listed).contains i = true)
    (hQ : ∀ c a w, Q (.panic c) (a.put d v) w → Q (.panic c) a w) (hy : YieldsIf P ops S oi v a) (hS : S w)
    (h : wpAnyH P md ops Q S fuel (listed.setIfInBounds i true) (a.put d v) w) : wpAnyH P md ops Q S (fuel + 1) listed a w := by
  subst hd
  exact wpAnyH_take hi hs hf hr hQ hy hS h
/-- The condition on the world may be turned into a stronger one on the way. -/
theorem takeJ_switch {P : Program} {md : Region.Mode} {ops : Array Oper} {Q : Exit → Act → World → Prop} {S S' : World → Prop} (hm : ∀ w, S' w → S w) :
    ∀ (fuel : Nat) (listed : Array Bool) (a : Act) (w : World), wpAnyH P md ops Q S' fuel listed a w → wpAnyH P md ops Q S fuel listed a w
  | 0, _, _, _, h => h
  | fuel + 1, _, _, _, h => ⟨h.1, fun i hi => wpOp_mono (fun _ _ ⟨h1, h2⟩ => ⟨hm _ h1, takeJ_switch hm fuel _ _ _ h2⟩) (h.2 i hi)⟩

theorem asExcess_XE_g (p : Addr) (tb : Nat) (old : Value) (w : World) (hg0 : Hg w) (ht0 : w.cell? ⟨tb, 0, none⟩ = some old) (hf0 : w.frozen? ⟨tb, 0, none⟩ = false) :
    Calls Tryd.prog 12 #[eX p, .iface 39 (.pointer (some ⟨tb, 0, none⟩))] w fun e w' => e = .returned (.bool true) ∧ w.grownBy w' (some tb) ∧ w'.cell? ⟨tb, 0, none⟩ = some (.pointer (some p)) := by
  have hlt : tb < w.heap.size := World.block_lt_of_cell? _ _ ht0
  refine (asExcess_XE p ⟨tb, 0, none⟩ old w hg0 ht0 hf0).mono fun e w' ⟨he, hw⟩ => ⟨he, ?_, ?_⟩
  · subst hw
    refine ⟨rfl, rfl, rfl, by simp; omega, fun k hk hne => ?_⟩
    rw [Below.heap_setCell _ _ _ _ (fun ee => hne (by rw [ee])), Below.heap_alloc _ _ _ (by simp; omega), Below.heap_alloc _ _ _ (by simp; omega), Below.heap_alloc _ _ _ (by simp; omega), Below.heap_alloc _ _ _ hk]
  · subst hw
    refine World.cell?_setCell_same _ _ _ (u := old) ?_
    rw [World.cell?_alloc_lt _ _ ⟨tb, 0, none⟩ (by simp <;> omega), World.cell?_alloc_lt _ _ ⟨tb, 0, none⟩ (by simp <;> omega), World.cell?_alloc_lt _ _ ⟨tb, 0, none⟩ (by simp <;> omega), World.cell?_alloc_lt _ _ ⟨tb, 0, none⟩ hlt]; exact ht0


set_option maxHeartbeats 1000000 in
theorem quotaJust_rows (ur uc ub k : Int) (w : World) (hg : Hg w) (h : 4611686018427387904 < ur) : Calls Tryd.prog 5 #[.agg #[.int .i64 ur, .int .i64 uc, .int .i64 ub], .int .u8 k] w (Yes w) := by
  have hgA := hg.alloc (.cells #[.int .i64 ur, .int .i64 uc, .int .i64 ub] 25)
  have HU0 := Lib.hid (IsX.new w 25 ur uc ub)
  go_enter Tryd.func5, Tryd.ntmps5
  go_wp2_with fail
  refine (awake_any _ hgA).mono ?_
  rintro e w1 ⟨rfl, hb⟩
  have hg1 := hgA.below hb hgA.lt
  have hz1 : w.heap.size < w1.heap.size := by have := hb.size; simp at this; omega
  have HU1 := Lib.hid (HU0.out.below hb (by simp))
  have HB1 := Lib.hid (((Below.refl w.heap.size w).alloc (Nat.le_refl _) (.cells #[.int .i64 ur, .int .i64 uc, .int .i64 ub] 25)).trans (hb.mono (by simp)))
  clear hb hgA hg
  obtain ⟨u0, u1, u2⟩ := HU1.out
  go_wp2
  go_ret
  exact ⟨rfl, HB1.out⟩

set_option maxHeartbeats 1000000 in
theorem quotaJust_cols (ur uc ub k : Int) (w : World) (hg : Hg w) (h0 : ur ≤ 4611686018427387904) (h : 4611686018427387904 < uc) : Calls Tryd.prog 5 #[.agg #[.int .i64 ur, .int .i64 uc, .int .i64 ub], .int .u8 k] w (Yes w) := by
  have hgA := hg.alloc (.cells #[.int .i64 ur, .int .i64 uc, .int .i64 ub] 25)
  have HU0 := Lib.hid (IsX.new w 25 ur uc ub)
  go_enter Tryd.func5, Tryd.ntmps5
  go_wp2_with fail
  refine (awake_any _ hgA).mono ?_
  rintro e w1 ⟨rfl, hb⟩
  have hg1 := hgA.below hb hgA.lt
  have hz1 : w.heap.size < w1.heap.size := by have := hb.size; simp at this; omega
  have HU1 := Lib.hid (HU0.out.below hb (by simp))
  have HB1 := Lib.hid (((Below.refl w.heap.size w).alloc (Nat.le_refl _) (.cells #[.int .i64 ur, .int .i64 uc, .int .i64 ub] 25)).trans (hb.mono (by simp)))
  clear hb hgA hg
  obtain ⟨u0, u1, u2⟩ := HU1.out
  go_wp2
  go_ret
  exact ⟨rfl, HB1.out⟩

set_option maxHeartbeats 1000000 in
theorem quotaJust_bits (ur uc ub k : Int) (w : World) (hg : Hg w) (h0 : ur ≤ 4611686018427387904) (h1 : uc ≤ 4611686018427387904) (h : 4611686018427387904 < ub) : Calls Tryd.prog 5 #[.agg #[.int .i64 ur, .int .i64 uc, .int .i64 ub], .int .u8 k] w (Yes w) := by
  have hgA := hg.alloc (.cells #[.int .i64 ur, .int .i64 uc, .int .i64 ub] 25)
  have HU0 := Lib.hid (IsX.new w 25 ur uc ub)
  go_enter Tryd.func5, Tryd.ntmps5
  go_wp2_with fail
  refine (awake_any _ hgA).mono ?_
  rintro e w1 ⟨rfl, hb⟩
  have hg1 := hgA.below hb hgA.lt
  have hz1 : w.heap.size < w1.heap.size := by have := hb.size; simp at this; omega
  have HU1 := Lib.hid (HU0.out.below hb (by simp))
  have HB1 := Lib.hid (((Below.refl w.heap.size w).alloc (Nat.le_refl _) (.cells #[.int .i64 ur, .int .i64 uc, .int .i64 ub] 25)).trans (hb.mono (by simp)))
  clear hb hgA hg
  obtain ⟨u0, u1, u2⟩ := HU1.out
  go_wp2
  go_ret
  exact ⟨rfl, HB1.out⟩

/-- What the last statement's loads find: the limits, the use, the *Excess. -/
abbrev JS (w0 : World) (B pl pu pb : Nat) (ur uc ub what need most : Int) (W : World) : Prop :=
  W.cell? ⟨pl, 0, none⟩ = some (.int .i64 ur) ∧ W.cell? ⟨pl, 1, none⟩ = some (.int .i64 uc) ∧ W.cell? ⟨pl, 2, none⟩ = some (.int .i64 ub) ∧ W.cell? ⟨pl, 3, none⟩ = some (.int .i64 0) ∧ W.cell? ⟨pl, 4, none⟩ = some (.int .i64 0) ∧ W.cell? ⟨pl, 5, none⟩ = some (.int .i64 0) ∧
  W.cell? ⟨pu, 0, none⟩ = some (.int .i64 ur) ∧ W.cell? ⟨pu, 1, none⟩ = some (.int .i64 uc) ∧ W.cell? ⟨pu, 2, none⟩ = some (.int .i64 ub) ∧
  W.cell? ⟨pb, 0, none⟩ = some (.int .i64 what) ∧ W.cell? ⟨pb, 1, none⟩ = some (.int .i64 need) ∧ W.cell? ⟨pb, 2, none⟩ = some (.int .i64 most) ∧ Below B w0 W ∧ pl < W.heap.size ∧ pu < W.heap.size ∧ pb < W.heap.size ∧ B ≤ W.heap.size
theorem JS.grown {w0 W W' : World} {B pl pu pb : Nat} {ur uc ub what need most : Int} {row : Option Nat} (h : JS w0 B pl pu pb ur uc ub what need most W) (hb : W.grownBy W' row) (h1 : some pl ≠ row) (h2 : some pu ≠ row) (h3 : some pb ≠ row) (h4 : ∀ k, row = some k → B ≤ k) :
    JS w0 B pl pu pb ur uc ub what need most W' := by
  obtain ⟨c0, c1, c2, c3, c4, c5, c6, c7, c8, c9, c10, c11, hB, hl, hu, hx, hs⟩ := h
  have := hb.size
  refine ⟨?_, ?_, ?_, ?_, ?_, ?_, ?_, ?_, ?_, ?_, ?_, ?_, hB.grown hb hs h4, by omega, by omega, by omega, by omega⟩
  all_goals (refine (World.cell?_of_block (w := W) (hb.block _ ?_ ?_)).trans ?_ <;> first | assumption | skip)
theorem JS.below {w0 W W' : World} {B pl pu pb : Nat} {ur uc ub what need most : Int} (h : JS w0 B pl pu pb ur uc ub what need most W) (hb : Below W.heap.size W W') :
    JS w0 B pl pu pb ur uc ub what need most W' :=
  h.grown (row := none) ⟨hb.os, hb.tape, hb.output, hb.size, fun k hk _ => hb.block k hk⟩ (by simp) (by simp) (by simp) (fun k h => by cases h)
theorem JS.drew {w0 W : World} {B pl pu pb : Nat} {ur uc ub what need most : Int} (h : JS w0 B pl pu pb ur uc ub what need most W) : JS w0 B pl pu pb ur uc ub what need most W.drew :=
  h.below ⟨rfl, rfl, rfl, Nat.le_refl _, fun _ _ => rfl⟩


set_option maxHeartbeats 4000000 in
theorem quotaJust_r (ur uc ub k : Int) (w : World) (hg : Hg w) (h0 : ur ≤ 4611686018427387904) (h1 : uc ≤ 4611686018427387904) (h2 : ub ≤ 4611686018427387904) (l0 : -9223372036854775808 ≤ ur) (l1 : -9223372036854775808 ≤ uc) (l2 : -9223372036854775808 ≤ ub) (k0 : 0 ≤ k) (k1 : k ≤ 255) (hk : k % 3 = 0) :
    Calls Tryd.prog 5 #[.agg #[.int .i64 ur, .int .i64 uc, .int .i64 ub], .int .u8 k] w (Yes w) := by
  have hgA := hg.alloc (.cells #[.int .i64 ur, .int .i64 uc, .int .i64 ub] 25)
  have HU0 := Lib.hid (IsX.new w 25 ur uc ub)
  go_enter Tryd.func5, Tryd.ntmps5
  go_wp2_with fail
  refine (awake_any _ hgA).mono ?_
  rintro e w1 ⟨rfl, hb⟩
  have hg1 := hgA.below hb hgA.lt
  have hz1 : w.heap.size < w1.heap.size := by have := hb.size; simp at this; omega
  have HU1 := Lib.hid (HU0.out.below hb (by simp))
  have HB1 := Lib.hid (((Below.refl w.heap.size w).alloc (Nat.le_refl _) (.cells #[.int .i64 ur, .int .i64 uc, .int .i64 ub] 25)).trans (hb.mono (by simp)))
  clear hb hgA hg
  obtain ⟨u0, u1, u2⟩ := HU1.out
  have hgx := ((hg1.alloc (.cells #[.int .i64 ur, .int .i64 uc, .int .i64 ub, .int .i64 0, .int .i64 0, .int .i64 0] 23)).alloc (.cells #[.int .i64 (ur + 1), .int .i64 uc, .int .i64 ub] 25)).alloc (.cells #[.pointer none] 37)
  have HL0 := Lib.hid (Lim.new w1 23 ur uc ub 0 0 0)
  go_wp2_with fail
  refine (check_rows ur uc ub 0 0 0 (ur + 1) uc ub _ (by omega)).mono ?_
  rintro e w2 ⟨b, rfl, hx, hb⟩
  have hg2 := hgx.below hb hgx.lt
  have hzx : w1.heap.size + 1 + 1 < w2.heap.size := by have := hb.size; simp at this; omega
  have hx2 : w2.cell? ⟨w1.heap.size + 1 + 1, 0, none⟩ = some (.pointer none) := (hb.cell (p := ⟨w1.heap.size + 1 + 1, 0, none⟩) (by simp)).trans (by rw [World.cell?_alloc_at _ _ _ _ (by simp)]; rfl)
  have hf2 : w2.frozen? ⟨w1.heap.size + 1 + 1, 0, none⟩ = false := (hb.frozen (p := ⟨w1.heap.size + 1 + 1, 0, none⟩) (by simp)).trans (by rw [World.frozen?_alloc_at _ _ _ _ (by simp)])
  have hbx : b ≠ w1.heap.size + 1 + 1 := fun ee => by have h := hx.1; rw [ee, hx2] at h; cases h
  have hl2 := (((HL0.out.alloc (.cells #[.int .i64 (ur + 1), .int .i64 uc, .int .i64 ub] 25)).alloc (.cells #[.pointer none] 37)).below hb (by simp; omega))
  have hb1 : Below w1.heap.size w1 (((w1.alloc (.cells #[.int .i64 ur, .int .i64 uc, .int .i64 ub, .int .i64 0, .int .i64 0, .int .i64 0] 23)).alloc (.cells #[.int .i64 (ur + 1), .int .i64 uc, .int .i64 ub] 25)).alloc (.cells #[.pointer none] 37)) := (by repeat (first | exact Below.refl _ _ | (refine Below.alloc ?_ (by first | omega | (simp; done) | (simp; omega)) _) | (refine Below.setCell ?_ (by first | omega | (simp; done) | (simp; omega)) _) | (refine Below.drew ?_)))
  have hu2 := (HU1.out.below hb1 hz1).below hb (by simp; omega)
  have HS2 : Hid (JS w w.heap.size w1.heap.size w.heap.size b ur uc ub 1 (ur + 1) ur w2) := ⟨hl2.1, hl2.2.1, hl2.2.2.1, hl2.2.2.2.1, hl2.2.2.2.2.1, hl2.2.2.2.2.2, hu2.1, hu2.2.1, hu2.2.2, hx.1, hx.2.1, hx.2.2, (HB1.out.trans (hb1.mono (by omega))).trans (hb.mono (by simp; omega)), by omega, by omega, hx.lt, by omega⟩
  have HX2 := Lib.hid hx2
  have HF2 := Lib.hid hf2
  have HG2 := Lib.hid hg2
  have hS := HS2.out
  clear hx hb hb1 hl2 hu2 u0 u1 u2 hgx hx2 hf2 hg2
  have hw0 : IntKind.i64.wrap (ur + 1) = ur + 1 := IntWalk.i64_in _ (by omega)
  unfold eX
  go_wp2_with fail
  refine wp_region_held_drew (S := fun W => JS w w.heap.size w1.heap.size w.heap.size b ur uc ub 1 (ur + 1) ur W) (by kernel_rfl) (JS.drew hS) (fun hHeld => ?_)
  refine takeJ (i := 0) (d := (some 56)) (v := ?_) rfl rfl (by kernel_rfl) (by kernel_rfl) (by kernel_rfl) (fun _ _ _ h => h) (Or.inl ⟨by rfl, ?_⟩) (by assumption) ?_
  rotate_left
  · (intro w hSw; (try dsimp only at hSw); go_simp; (try with_reducible rfl))
  simp only [Act.put, List.setIfInBounds_toArray, List.set_cons_zero, List.set_cons_succ]
  refine takeJ (i := 1) (d := (some 57)) (v := ?_) rfl rfl (by kernel_rfl) (by kernel_rfl) (by kernel_rfl) (fun _ _ _ h => h) (Or.inl ⟨by rfl, ?_⟩) (by assumption) ?_
  rotate_left
  · (intro w hSw; (try dsimp only at hSw); go_simp; (try with_reducible rfl))
  simp only [Act.put, List.setIfInBounds_toArray, List.set_cons_zero, List.set_cons_succ]
  refine wpAnyH_ready (rs := [2]) (by kernel_rfl) (by simp) ?_
  refine AllReadyH.cons rfl (fun K hK => ?_) AllReadyH.nil
  go_simp
  refine (check_none ur uc ub 0 0 0 ur uc ub _ (by omega) (by omega) (by omega)).mono ?_
  rintro e w3 ⟨rfl, hb⟩
  have HB3 := Lib.hid hb
  dsimp only
  refine hK.out _ _ (JS.below hHeld hb) (fun hHeld2 => ?_)
  clear hK K hHeld
  rename _ => hHeld
  refine takeJ (i := 3) (d := (some 59)) (v := ?_) rfl rfl (by kernel_rfl) (by kernel_rfl) (by kernel_rfl) (fun _ _ _ h => h) (Or.inl ⟨by rfl, ?_⟩) (by assumption) ?_
  rotate_left
  · (intro w hSw; (try dsimp only at hSw); go_simp; (try with_reducible rfl))
  simp only [Act.put, List.setIfInBounds_toArray, List.set_cons_zero, List.set_cons_succ]
  refine takeJ (i := 4) (d := (some 60)) (v := ?_) rfl rfl (by kernel_rfl) (by kernel_rfl) (by kernel_rfl) (fun _ _ _ h => h) (Or.inl ⟨by rfl, ?_⟩) (by assumption) ?_
  rotate_left
  · (intro w hSw; (try dsimp only at hSw); go_simp; (try with_reducible rfl))
  simp only [Act.put, List.setIfInBounds_toArray, List.set_cons_zero, List.set_cons_succ]
  refine takeJ (i := 5) (d := (some 61)) (v := ?_) rfl rfl (by kernel_rfl) (by kernel_rfl) (by kernel_rfl) (fun _ _ _ h => h) (Or.inl ⟨by rfl, ?_⟩) (by assumption) ?_
  rotate_left
  · (intro w hSw; (try dsimp only at hSw); go_simp; (try with_reducible rfl))
  simp only [Act.put, List.setIfInBounds_toArray, List.set_cons_zero, List.set_cons_succ]
  refine takeJ (i := 6) (d := (some 62)) (v := ?_) rfl rfl (by kernel_rfl) (by kernel_rfl) (by kernel_rfl) (fun _ _ _ h => h) (Or.inl ⟨by rfl, ?_⟩) (by assumption) ?_
  rotate_left
  · (intro w hSw; (try dsimp only at hSw); go_simp; (try with_reducible rfl))
  simp only [Act.put, List.setIfInBounds_toArray, List.set_cons_zero, List.set_cons_succ]
  refine takeJ (i := 7) (d := (some 63)) (v := ?_) rfl rfl (by kernel_rfl) (by kernel_rfl) (by kernel_rfl) (fun _ _ _ h => h) (Or.inl ⟨by rfl, ?_⟩) (by assumption) ?_
  rotate_left
  · (intro w hSw; (try dsimp only at hSw); go_simp; (try with_reducible rfl))
  simp only [Act.put, List.setIfInBounds_toArray, List.set_cons_zero, List.set_cons_succ]
  refine takeJ (i := 8) (d := (some 64)) (v := ?_) rfl rfl (by kernel_rfl) (by kernel_rfl) (by kernel_rfl) (fun _ _ _ h => h) (Or.inl ⟨by rfl, ?_⟩) (by assumption) ?_
  rotate_left
  · (intro w hSw; (try dsimp only at hSw); go_simp; (try with_reducible rfl))
  simp only [Act.put, List.setIfInBounds_toArray, List.set_cons_zero, List.set_cons_succ]
  refine takeJ (i := 9) (d := (some 65)) (v := ?_) rfl rfl (by kernel_rfl) (by kernel_rfl) (by kernel_rfl) (fun _ _ _ h => h) (Or.inl ⟨by rfl, ?_⟩) (by assumption) ?_
  rotate_left
  · (intro w hSw; (try dsimp only at hSw); go_simp; (try with_reducible rfl))
  simp only [Act.put, List.setIfInBounds_toArray, List.set_cons_zero, List.set_cons_succ]
  refine takeJ (i := 10) (d := (some 66)) (v := ?_) rfl rfl (by kernel_rfl) (by kernel_rfl) (by kernel_rfl) (fun _ _ _ h => h) (Or.inl ⟨by rfl, ?_⟩) (by assumption) ?_
  rotate_left
  · (intro w hSw; (try dsimp only at hSw); go_simp; (try with_reducible rfl))
  simp only [Act.put, List.setIfInBounds_toArray, List.set_cons_zero, List.set_cons_succ]
  refine wpAnyH_ready (rs := [11]) (by kernel_rfl) (by simp) ?_
  refine AllReadyH.cons rfl (fun K hK => ?_) AllReadyH.nil
  go_simp
  have hg3 := (show Hg w2.drew from HG2.out).below HB3.out (by have := HG2.out.lt; simpa using this)
  have hx3 : w3.cell? ⟨w1.heap.size + 1 + 1, 0, none⟩ = some (.pointer none) := (HB3.out.cell (p := ⟨w1.heap.size + 1 + 1, 0, none⟩) (by simpa using hzx)).trans (by simpa using HX2.out)
  have hf3 : w3.frozen? ⟨w1.heap.size + 1 + 1, 0, none⟩ = false := (HB3.out.frozen (p := ⟨w1.heap.size + 1 + 1, 0, none⟩) (by simpa using hzx)).trans (by simpa using HF2.out)
  refine (asExcess_XE_g ⟨b, 0, none⟩ (w1.heap.size + 1 + 1) (.pointer none) _ hg3 hx3 hf3).mono ?_
  rintro e w4 ⟨rfl, hgr, hx4⟩
  clear hx3 hf3 hg3
  dsimp only
  refine hK.out _ _ (JS.grown hHeld hgr (by simp; omega) (by simp; omega) (by simp; omega) (fun k hk => by simp at hk; omega)) (fun hHeld2 => ?_)
  clear hK K hHeld
  rename _ => hHeld
  refine takeJ_switch (S' := fun W => JS w w.heap.size w1.heap.size w.heap.size b ur uc ub 1 (ur + 1) ur W ∧ W.cell? ⟨w1.heap.size + 1 + 1, 0, none⟩ = some (.pointer (some ⟨b, 0, none⟩))) (fun _ h => h.1) _ _ _ _ ?_
  have hHeld2 := And.intro hHeld hx4
  clear hHeld
  rename _ => hHeld
  refine takeJ (i := 12) (d := (some 68)) (v := ?_) rfl rfl (by kernel_rfl) (by kernel_rfl) (by kernel_rfl) (fun _ _ _ h => h) (Or.inl ⟨by rfl, ?_⟩) (by assumption) ?_
  rotate_left
  · (intro w hSw; (try dsimp only at hSw); go_simp; (try with_reducible rfl))
  simp only [Act.put, List.setIfInBounds_toArray, List.set_cons_zero, List.set_cons_succ]
  refine takeJ (i := 13) (d := (some 69)) (v := ?_) rfl rfl (by kernel_rfl) (by kernel_rfl) (by kernel_rfl) (fun _ _ _ h => h) (Or.inl ⟨by rfl, ?_⟩) (by assumption) ?_
  rotate_left
  · (intro w hSw; (try dsimp only at hSw); go_simp; (try with_reducible rfl))
  simp only [Act.put, List.setIfInBounds_toArray, List.set_cons_zero, List.set_cons_succ]
  refine takeJ (i := 14) (d := (some 70)) (v := ?_) rfl rfl (by kernel_rfl) (by kernel_rfl) (by kernel_rfl) (fun _ _ _ h => h) (Or.inl ⟨by rfl, ?_⟩) (by assumption) ?_
  rotate_left
  · (intro w hSw; (try dsimp only at hSw); go_simp; (try with_reducible rfl))
  simp only [Act.put, List.setIfInBounds_toArray, List.set_cons_zero, List.set_cons_succ]
  refine takeJ (i := 15) (d := (some 71)) (v := ?_) rfl rfl (by kernel_rfl) (by kernel_rfl) (by kernel_rfl) (fun _ _ _ h => h) (Or.inl ⟨by rfl, ?_⟩) (by assumption) ?_
  rotate_left
  · (intro w hSw; (try dsimp only at hSw); go_simp; (try with_reducible rfl))
  simp only [Act.put, List.setIfInBounds_toArray, List.set_cons_zero, List.set_cons_succ]
  refine takeJ (i := 16) (d := (some 72)) (v := ?_) rfl rfl (by kernel_rfl) (by kernel_rfl) (by kernel_rfl) (fun _ _ _ h => h) (Or.inl ⟨by rfl, ?_⟩) (by assumption) ?_
  rotate_left
  · (intro w hSw; (try dsimp only at hSw); go_simp; (try with_reducible rfl))
  simp only [Act.put, List.setIfInBounds_toArray, List.set_cons_zero, List.set_cons_succ]
  refine takeJ (i := 17) (d := (some 73)) (v := ?_) rfl rfl (by kernel_rfl) (by kernel_rfl) (by kernel_rfl) (fun _ _ _ h => h) (Or.inl ⟨by rfl, ?_⟩) (by assumption) ?_
  rotate_left
  · (intro w hSw; (try dsimp only at hSw); go_simp; (try with_reducible rfl))
  simp only [Act.put, List.setIfInBounds_toArray, List.set_cons_zero, List.set_cons_succ]
  refine takeJ (i := 18) (d := (some 74)) (v := ?_) rfl rfl (by kernel_rfl) (by kernel_rfl) (by kernel_rfl) (fun _ _ _ h => h) (Or.inl ⟨by rfl, ?_⟩) (by assumption) ?_
  rotate_left
  · (intro w hSw; (try dsimp only at hSw); go_simp; (try with_reducible rfl))
  simp only [Act.put, List.setIfInBounds_toArray, List.set_cons_zero, List.set_cons_succ]
  refine takeJ (i := 19) (d := (some 75)) (v := ?_) rfl rfl (by kernel_rfl) (by kernel_rfl) (by kernel_rfl) (fun _ _ _ h => h) (Or.inl ⟨by rfl, ?_⟩) (by assumption) ?_
  rotate_left
  · (intro w hSw; (try dsimp only at hSw); go_simp; (try with_reducible rfl))
  simp only [Act.put, List.setIfInBounds_toArray, List.set_cons_zero, List.set_cons_succ]
  refine takeJ (i := 20) (d := (some 76)) (v := ?_) rfl rfl (by kernel_rfl) (by kernel_rfl) (by kernel_rfl) (fun _ _ _ h => h) (Or.inl ⟨by rfl, ?_⟩) (by assumption) ?_
  rotate_left
  · (intro w hSw; (try dsimp only at hSw); go_simp; (try with_reducible rfl))
  simp only [Act.put, List.setIfInBounds_toArray, List.set_cons_zero, List.set_cons_succ]
  refine takeJ (i := 21) (d := (some 77)) (v := ?_) rfl rfl (by kernel_rfl) (by kernel_rfl) (by kernel_rfl) (fun _ _ _ h => h) (Or.inl ⟨by rfl, ?_⟩) (by assumption) ?_
  rotate_left
  · (intro w hSw; (try dsimp only at hSw); go_simp; (try with_reducible rfl))
  simp only [Act.put, List.setIfInBounds_toArray, List.set_cons_zero, List.set_cons_succ]
  refine takeJ (i := 22) (d := (some 78)) (v := ?_) rfl rfl (by kernel_rfl) (by kernel_rfl) (by kernel_rfl) (fun _ _ _ h => h) (Or.inl ⟨by rfl, ?_⟩) (by assumption) ?_
  rotate_left
  · (intro w hSw; (try dsimp only at hSw); go_simp; (try with_reducible rfl))
  simp only [Act.put, List.setIfInBounds_toArray, List.set_cons_zero, List.set_cons_succ]
  refine takeJ (i := 23) (d := (some 79)) (v := ?_) rfl rfl (by kernel_rfl) (by kernel_rfl) (by kernel_rfl) (fun _ _ _ h => h) (Or.inl ⟨by rfl, ?_⟩) (by assumption) ?_
  rotate_left
  · (intro w hSw; (try dsimp only at hSw); go_simp; (try with_reducible rfl))
  simp only [Act.put, List.setIfInBounds_toArray, List.set_cons_zero, List.set_cons_succ]
  refine takeJ (i := 24) (d := (some 80)) (v := ?_) rfl rfl (by kernel_rfl) (by kernel_rfl) (by kernel_rfl) (fun _ _ _ h => h) (Or.inl ⟨by rfl, ?_⟩) (by assumption) ?_
  rotate_left
  · (intro w hSw; (try dsimp only at hSw); go_simp; (try with_reducible rfl))
  simp only [Act.put, List.setIfInBounds_toArray, List.set_cons_zero, List.set_cons_succ]
  refine takeJ (i := 25) (d := (some 81)) (v := ?_) rfl rfl (by kernel_rfl) (by kernel_rfl) (by kernel_rfl) (fun _ _ _ h => h) (Or.inl ⟨by rfl, ?_⟩) (by assumption) ?_
  rotate_left
  · (intro w hSw; (try dsimp only at hSw); go_simp; (try with_reducible rfl))
  simp only [Act.put, List.setIfInBounds_toArray, List.set_cons_zero, List.set_cons_succ]
  refine takeJ (i := 26) (d := (some 82)) (v := ?_) rfl rfl (by kernel_rfl) (by kernel_rfl) (by kernel_rfl) (fun _ _ _ h => h) (Or.inl ⟨by rfl, ?_⟩) (by assumption) ?_
  rotate_left
  · (intro w hSw; (try dsimp only at hSw); go_simp; (try with_reducible rfl))
  simp only [Act.put, List.setIfInBounds_toArray, List.set_cons_zero, List.set_cons_succ]
  refine takeJ (i := 27) (d := (some 83)) (v := ?_) rfl rfl (by kernel_rfl) (by kernel_rfl) (by kernel_rfl) (fun _ _ _ h => h) (Or.inl ⟨by rfl, ?_⟩) (by assumption) ?_
  rotate_left
  · (intro w hSw; (try dsimp only at hSw); go_simp; (try with_reducible rfl))
  simp only [Act.put, List.setIfInBounds_toArray, List.set_cons_zero, List.set_cons_succ]
  refine takeJ (i := 28) (d := (some 84)) (v := ?_) rfl rfl (by kernel_rfl) (by kernel_rfl) (by kernel_rfl) (fun _ _ _ h => h) (Or.inl ⟨by rfl, ?_⟩) (by assumption) ?_
  rotate_left
  · (intro w hSw; (try dsimp only at hSw); go_simp; (try with_reducible rfl))
  simp only [Act.put, List.setIfInBounds_toArray, List.set_cons_zero, List.set_cons_succ]
  refine takeJ (i := 29) (d := (some 85)) (v := ?_) rfl rfl (by kernel_rfl) (by kernel_rfl) (by kernel_rfl) (fun _ _ _ h => h) (Or.inl ⟨by rfl, ?_⟩) (by assumption) ?_
  rotate_left
  · (intro w hSw; (try dsimp only at hSw); go_simp; (try with_reducible rfl))
  simp only [Act.put, List.setIfInBounds_toArray, List.set_cons_zero, List.set_cons_succ]
  refine takeJ (i := 30) (d := (some 86)) (v := ?_) rfl rfl (by kernel_rfl) (by kernel_rfl) (by kernel_rfl) (fun _ _ _ h => h) (Or.inl ⟨by rfl, ?_⟩) (by assumption) ?_
  rotate_left
  · (intro w hSw; (try dsimp only at hSw); go_simp; (try with_reducible rfl))
  simp only [Act.put, List.setIfInBounds_toArray, List.set_cons_zero, List.set_cons_succ]
  refine takeJ (i := 31) (d := (some 87)) (v := ?_) rfl rfl (by kernel_rfl) (by kernel_rfl) (by kernel_rfl) (fun _ _ _ h => h) (Or.inl ⟨by rfl, ?_⟩) (by assumption) ?_
  rotate_left
  · (intro w hSw; (try dsimp only at hSw); go_simp; (try with_reducible rfl))
  simp only [Act.put, List.setIfInBounds_toArray, List.set_cons_zero, List.set_cons_succ]
  refine takeJ (i := 32) (d := (some 88)) (v := ?_) rfl rfl (by kernel_rfl) (by kernel_rfl) (by kernel_rfl) (fun _ _ _ h => h) (Or.inl ⟨by rfl, ?_⟩) (by assumption) ?_
  rotate_left
  · (intro w hSw; (try dsimp only at hSw); go_simp; (try with_reducible rfl))
  simp only [Act.put, List.setIfInBounds_toArray, List.set_cons_zero, List.set_cons_succ]
  refine takeJ (i := 33) (d := (some 89)) (v := ?_) rfl rfl (by kernel_rfl) (by kernel_rfl) (by kernel_rfl) (fun _ _ _ h => h) (Or.inl ⟨by rfl, ?_⟩) (by assumption) ?_
  rotate_left
  · (intro w hSw; (try dsimp only at hSw); go_simp; (try with_reducible rfl))
  simp only [Act.put, List.setIfInBounds_toArray, List.set_cons_zero, List.set_cons_succ]
  refine takeJ (i := 34) (d := (some 90)) (v := ?_) rfl rfl (by kernel_rfl) (by kernel_rfl) (by kernel_rfl) (fun _ _ _ h => h) (Or.inl ⟨by rfl, ?_⟩) (by assumption) ?_
  rotate_left
  · (intro w hSw; (try dsimp only at hSw); go_simp; (try with_reducible rfl))
  simp only [Act.put, List.setIfInBounds_toArray, List.set_cons_zero, List.set_cons_succ]
  refine takeJ (i := 35) (d := (some 91)) (v := ?_) rfl rfl (by kernel_rfl) (by kernel_rfl) (by kernel_rfl) (fun _ _ _ h => h) (Or.inl ⟨by rfl, ?_⟩) (by assumption) ?_
  rotate_left
  · (intro w hSw; (try dsimp only at hSw); go_simp; (try with_reducible rfl))
  simp only [Act.put, List.setIfInBounds_toArray, List.set_cons_zero, List.set_cons_succ]
  refine takeJ (i := 36) (d := (some 92)) (v := ?_) rfl rfl (by kernel_rfl) (by kernel_rfl) (by kernel_rfl) (fun _ _ _ h => h) (Or.inl ⟨by rfl, ?_⟩) (by assumption) ?_
  rotate_left
  · (intro w hSw; (try dsimp only at hSw); go_simp; (try with_reducible rfl))
  simp only [Act.put, List.setIfInBounds_toArray, List.set_cons_zero, List.set_cons_succ]
  refine takeJ (i := 37) (d := (some 4)) (v := ?_) rfl rfl (by kernel_rfl) (by kernel_rfl) (by kernel_rfl) (fun _ _ _ h => h) (Or.inl ⟨by rfl, ?_⟩) (by assumption) ?_
  rotate_left
  · (intro w hSw; (try dsimp only at hSw); go_simp; (try with_reducible rfl))
  simp only [Act.put, List.setIfInBounds_toArray, List.set_cons_zero, List.set_cons_succ]
  refine wpAnyH_done (by kernel_rfl) ?_ _
  have HBf := Lib.hid (hHeld.1.2.2.2.2.2.2.2.2.2.2.2.2.1)
  clear hHeld hx4 hS hb hgr
  go_wp2
  go_ret
  exact ⟨rfl, HBf.out⟩

set_option maxHeartbeats 4000000 in
theorem quotaJust_c (ur uc ub k : Int) (w : World) (hg : Hg w) (h0 : ur ≤ 4611686018427387904) (h1 : uc ≤ 4611686018427387904) (h2 : ub ≤ 4611686018427387904) (l0 : -9223372036854775808 ≤ ur) (l1 : -9223372036854775808 ≤ uc) (l2 : -9223372036854775808 ≤ ub) (k0 : 0 ≤ k) (k1 : k ≤ 255) (hk : k % 3 = 1) :
    Calls Tryd.prog 5 #[.agg #[.int .i64 ur, .int .i64 uc, .int .i64 ub], .int .u8 k] w (Yes w) := by
  have hgA := hg.alloc (.cells #[.int .i64 ur, .int .i64 uc, .int .i64 ub] 25)
  have HU0 := Lib.hid (IsX.new w 25 ur uc ub)
  go_enter Tryd.func5, Tryd.ntmps5
  go_wp2_with fail
  refine (awake_any _ hgA).mono ?_
  rintro e w1 ⟨rfl, hb⟩
  have hg1 := hgA.below hb hgA.lt
  have hz1 : w.heap.size < w1.heap.size := by have := hb.size; simp at this; omega
  have HU1 := Lib.hid (HU0.out.below hb (by simp))
  have HB1 := Lib.hid (((Below.refl w.heap.size w).alloc (Nat.le_refl _) (.cells #[.int .i64 ur, .int .i64 uc, .int .i64 ub] 25)).trans (hb.mono (by simp)))
  clear hb hgA hg
  obtain ⟨u0, u1, u2⟩ := HU1.out
  have hgx := ((hg1.alloc (.cells #[.int .i64 ur, .int .i64 uc, .int .i64 ub, .int .i64 0, .int .i64 0, .int .i64 0] 23)).alloc (.cells #[.int .i64 ur, .int .i64 (uc + 1), .int .i64 ub] 25)).alloc (.cells #[.pointer none] 37)
  have HL0 := Lib.hid (Lim.new w1 23 ur uc ub 0 0 0)
  go_wp2_with fail
  refine (check_cols ur uc ub 0 0 0 ur (uc + 1) ub _ (by omega) (by omega)).mono ?_
  rintro e w2 ⟨b, rfl, hx, hb⟩
  have hg2 := hgx.below hb hgx.lt
  have hzx : w1.heap.size + 1 + 1 < w2.heap.size := by have := hb.size; simp at this; omega
  have hx2 : w2.cell? ⟨w1.heap.size + 1 + 1, 0, none⟩ = some (.pointer none) := (hb.cell (p := ⟨w1.heap.size + 1 + 1, 0, none⟩) (by simp)).trans (by rw [World.cell?_alloc_at _ _ _ _ (by simp)]; rfl)
  have hf2 : w2.frozen? ⟨w1.heap.size + 1 + 1, 0, none⟩ = false := (hb.frozen (p := ⟨w1.heap.size + 1 + 1, 0, none⟩) (by simp)).trans (by rw [World.frozen?_alloc_at _ _ _ _ (by simp)])
  have hbx : b ≠ w1.heap.size + 1 + 1 := fun ee => by have h := hx.1; rw [ee, hx2] at h; cases h
  have hl2 := (((HL0.out.alloc (.cells #[.int .i64 ur, .int .i64 (uc + 1), .int .i64 ub] 25)).alloc (.cells #[.pointer none] 37)).below hb (by simp; omega))
  have hb1 : Below w1.heap.size w1 (((w1.alloc (.cells #[.int .i64 ur, .int .i64 uc, .int .i64 ub, .int .i64 0, .int .i64 0, .int .i64 0] 23)).alloc (.cells #[.int .i64 ur, .int .i64 (uc + 1), .int .i64 ub] 25)).alloc (.cells #[.pointer none] 37)) := (by repeat (first | exact Below.refl _ _ | (refine Below.alloc ?_ (by first | omega | (simp; done) | (simp; omega)) _) | (refine Below.setCell ?_ (by first | omega | (simp; done) | (simp; omega)) _) | (refine Below.drew ?_)))
  have hu2 := (HU1.out.below hb1 hz1).below hb (by simp; omega)
  have HS2 : Hid (JS w w.heap.size w1.heap.size w.heap.size b ur uc ub 2 (uc + 1) uc w2) := ⟨hl2.1, hl2.2.1, hl2.2.2.1, hl2.2.2.2.1, hl2.2.2.2.2.1, hl2.2.2.2.2.2, hu2.1, hu2.2.1, hu2.2.2, hx.1, hx.2.1, hx.2.2, (HB1.out.trans (hb1.mono (by omega))).trans (hb.mono (by simp; omega)), by omega, by omega, hx.lt, by omega⟩
  have HX2 := Lib.hid hx2
  have HF2 := Lib.hid hf2
  have HG2 := Lib.hid hg2
  have hS := HS2.out
  clear hx hb hb1 hl2 hu2 u0 u1 u2 hgx hx2 hf2 hg2
  have hw0 : IntKind.i64.wrap (uc + 1) = uc + 1 := IntWalk.i64_in _ (by omega)
  unfold eX
  go_wp2_with fail
  refine wp_region_held_drew (S := fun W => JS w w.heap.size w1.heap.size w.heap.size b ur uc ub 2 (uc + 1) uc W) (by kernel_rfl) (JS.drew hS) (fun hHeld => ?_)
  refine takeJ (i := 0) (d := (some 56)) (v := ?_) rfl rfl (by kernel_rfl) (by kernel_rfl) (by kernel_rfl) (fun _ _ _ h => h) (Or.inl ⟨by rfl, ?_⟩) (by assumption) ?_
  rotate_left
  · (intro w hSw; (try dsimp only at hSw); go_simp; (try with_reducible rfl))
  simp only [Act.put, List.setIfInBounds_toArray, List.set_cons_zero, List.set_cons_succ]
  refine takeJ (i := 1) (d := (some 57)) (v := ?_) rfl rfl (by kernel_rfl) (by kernel_rfl) (by kernel_rfl) (fun _ _ _ h => h) (Or.inl ⟨by rfl, ?_⟩) (by assumption) ?_
  rotate_left
  · (intro w hSw; (try dsimp only at hSw); go_simp; (try with_reducible rfl))
  simp only [Act.put, List.setIfInBounds_toArray, List.set_cons_zero, List.set_cons_succ]
  refine wpAnyH_ready (rs := [2]) (by kernel_rfl) (by simp) ?_
  refine AllReadyH.cons rfl (fun K hK => ?_) AllReadyH.nil
  go_simp
  refine (check_none ur uc ub 0 0 0 ur uc ub _ (by omega) (by omega) (by omega)).mono ?_
  rintro e w3 ⟨rfl, hb⟩
  have HB3 := Lib.hid hb
  dsimp only
  refine hK.out _ _ (JS.below hHeld hb) (fun hHeld2 => ?_)
  clear hK K hHeld
  rename _ => hHeld
  refine takeJ (i := 3) (d := (some 59)) (v := ?_) rfl rfl (by kernel_rfl) (by kernel_rfl) (by kernel_rfl) (fun _ _ _ h => h) (Or.inl ⟨by rfl, ?_⟩) (by assumption) ?_
  rotate_left
  · (intro w hSw; (try dsimp only at hSw); go_simp; (try with_reducible rfl))
  simp only [Act.put, List.setIfInBounds_toArray, List.set_cons_zero, List.set_cons_succ]
  refine takeJ (i := 4) (d := (some 60)) (v := ?_) rfl rfl (by kernel_rfl) (by kernel_rfl) (by kernel_rfl) (fun _ _ _ h => h) (Or.inl ⟨by rfl, ?_⟩) (by assumption) ?_
  rotate_left
  · (intro w hSw; (try dsimp only at hSw); go_simp; (try with_reducible rfl))
  simp only [Act.put, List.setIfInBounds_toArray, List.set_cons_zero, List.set_cons_succ]
  refine takeJ (i := 5) (d := (some 61)) (v := ?_) rfl rfl (by kernel_rfl) (by kernel_rfl) (by kernel_rfl) (fun _ _ _ h => h) (Or.inl ⟨by rfl, ?_⟩) (by assumption) ?_
  rotate_left
  · (intro w hSw; (try dsimp only at hSw); go_simp; (try with_reducible rfl))
  simp only [Act.put, List.setIfInBounds_toArray, List.set_cons_zero, List.set_cons_succ]
  refine takeJ (i := 6) (d := (some 62)) (v := ?_) rfl rfl (by kernel_rfl) (by kernel_rfl) (by kernel_rfl) (fun _ _ _ h => h) (Or.inl ⟨by rfl, ?_⟩) (by assumption) ?_
  rotate_left
  · (intro w hSw; (try dsimp only at hSw); go_simp; (try with_reducible rfl))
  simp only [Act.put, List.setIfInBounds_toArray, List.set_cons_zero, List.set_cons_succ]
  refine takeJ (i := 7) (d := (some 63)) (v := ?_) rfl rfl (by kernel_rfl) (by kernel_rfl) (by kernel_rfl) (fun _ _ _ h => h) (Or.inl ⟨by rfl, ?_⟩) (by assumption) ?_
  rotate_left
  · (intro w hSw; (try dsimp only at hSw); go_simp; (try with_reducible rfl))
  simp only [Act.put, List.setIfInBounds_toArray, List.set_cons_zero, List.set_cons_succ]
  refine takeJ (i := 8) (d := (some 64)) (v := ?_) rfl rfl (by kernel_rfl) (by kernel_rfl) (by kernel_rfl) (fun _ _ _ h => h) (Or.inl ⟨by rfl, ?_⟩) (by assumption) ?_
  rotate_left
  · (intro w hSw; (try dsimp only at hSw); go_simp; (try with_reducible rfl))
  simp only [Act.put, List.setIfInBounds_toArray, List.set_cons_zero, List.set_cons_succ]
  refine takeJ (i := 9) (d := (some 65)) (v := ?_) rfl rfl (by kernel_rfl) (by kernel_rfl) (by kernel_rfl) (fun _ _ _ h => h) (Or.inl ⟨by rfl, ?_⟩) (by assumption) ?_
  rotate_left
  · (intro w hSw; (try dsimp only at hSw); go_simp; (try with_reducible rfl))
  simp only [Act.put, List.setIfInBounds_toArray, List.set_cons_zero, List.set_cons_succ]
  refine takeJ (i := 10) (d := (some 66)) (v := ?_) rfl rfl (by kernel_rfl) (by kernel_rfl) (by kernel_rfl) (fun _ _ _ h => h) (Or.inl ⟨by rfl, ?_⟩) (by assumption) ?_
  rotate_left
  · (intro w hSw; (try dsimp only at hSw); go_simp; (try with_reducible rfl))
  simp only [Act.put, List.setIfInBounds_toArray, List.set_cons_zero, List.set_cons_succ]
  refine wpAnyH_ready (rs := [11]) (by kernel_rfl) (by simp) ?_
  refine AllReadyH.cons rfl (fun K hK => ?_) AllReadyH.nil
  go_simp
  have hg3 := (show Hg w2.drew from HG2.out).below HB3.out (by have := HG2.out.lt; simpa using this)
  have hx3 : w3.cell? ⟨w1.heap.size + 1 + 1, 0, none⟩ = some (.pointer none) := (HB3.out.cell (p := ⟨w1.heap.size + 1 + 1, 0, none⟩) (by simpa using hzx)).trans (by simpa using HX2.out)
  have hf3 : w3.frozen? ⟨w1.heap.size + 1 + 1, 0, none⟩ = false := (HB3.out.frozen (p := ⟨w1.heap.size + 1 + 1, 0, none⟩) (by simpa using hzx)).trans (by simpa using HF2.out)
  refine (asExcess_XE_g ⟨b, 0, none⟩ (w1.heap.size + 1 + 1) (.pointer none) _ hg3 hx3 hf3).mono ?_
  rintro e w4 ⟨rfl, hgr, hx4⟩
  clear hx3 hf3 hg3
  dsimp only
  refine hK.out _ _ (JS.grown hHeld hgr (by simp; omega) (by simp; omega) (by simp; omega) (fun k hk => by simp at hk; omega)) (fun hHeld2 => ?_)
  clear hK K hHeld
  rename _ => hHeld
  refine takeJ_switch (S' := fun W => JS w w.heap.size w1.heap.size w.heap.size b ur uc ub 2 (uc + 1) uc W ∧ W.cell? ⟨w1.heap.size + 1 + 1, 0, none⟩ = some (.pointer (some ⟨b, 0, none⟩))) (fun _ h => h.1) _ _ _ _ ?_
  have hHeld2 := And.intro hHeld hx4
  clear hHeld
  rename _ => hHeld
  refine takeJ (i := 12) (d := (some 68)) (v := ?_) rfl rfl (by kernel_rfl) (by kernel_rfl) (by kernel_rfl) (fun _ _ _ h => h) (Or.inl ⟨by rfl, ?_⟩) (by assumption) ?_
  rotate_left
  · (intro w hSw; (try dsimp only at hSw); go_simp; (try with_reducible rfl))
  simp only [Act.put, List.setIfInBounds_toArray, List.set_cons_zero, List.set_cons_succ]
  refine takeJ (i := 13) (d := (some 69)) (v := ?_) rfl rfl (by kernel_rfl) (by kernel_rfl) (by kernel_rfl) (fun _ _ _ h => h) (Or.inl ⟨by rfl, ?_⟩) (by assumption) ?_
  rotate_left
  · (intro w hSw; (try dsimp only at hSw); go_simp; (try with_reducible rfl))
  simp only [Act.put, List.setIfInBounds_toArray, List.set_cons_zero, List.set_cons_succ]
  refine takeJ (i := 14) (d := (some 70)) (v := ?_) rfl rfl (by kernel_rfl) (by kernel_rfl) (by kernel_rfl) (fun _ _ _ h => h) (Or.inl ⟨by rfl, ?_⟩) (by assumption) ?_
  rotate_left
  · (intro w hSw; (try dsimp only at hSw); go_simp; (try with_reducible rfl))
  simp only [Act.put, List.setIfInBounds_toArray, List.set_cons_zero, List.set_cons_succ]
  refine takeJ (i := 15) (d := (some 71)) (v := ?_) rfl rfl (by kernel_rfl) (by kernel_rfl) (by kernel_rfl) (fun _ _ _ h => h) (Or.inl ⟨by rfl, ?_⟩) (by assumption) ?_
  rotate_left
  · (intro w hSw; (try dsimp only at hSw); go_simp; (try with_reducible rfl))
  simp only [Act.put, List.setIfInBounds_toArray, List.set_cons_zero, List.set_cons_succ]
  refine takeJ (i := 16) (d := (some 72)) (v := ?_) rfl rfl (by kernel_rfl) (by kernel_rfl) (by kernel_rfl) (fun _ _ _ h => h) (Or.inl ⟨by rfl, ?_⟩) (by assumption) ?_
  rotate_left
  · (intro w hSw; (try dsimp only at hSw); go_simp; (try with_reducible rfl))
  simp only [Act.put, List.setIfInBounds_toArray, List.set_cons_zero, List.set_cons_succ]
  refine takeJ (i := 17) (d := (some 73)) (v := ?_) rfl rfl (by kernel_rfl) (by kernel_rfl) (by kernel_rfl) (fun _ _ _ h => h) (Or.inl ⟨by rfl, ?_⟩) (by assumption) ?_
  rotate_left
  · (intro w hSw; (try dsimp only at hSw); go_simp; (try with_reducible rfl))
  simp only [Act.put, List.setIfInBounds_toArray, List.set_cons_zero, List.set_cons_succ]
  refine takeJ (i := 18) (d := (some 74)) (v := ?_) rfl rfl (by kernel_rfl) (by kernel_rfl) (by kernel_rfl) (fun _ _ _ h => h) (Or.inl ⟨by rfl, ?_⟩) (by assumption) ?_
  rotate_left
  · (intro w hSw; (try dsimp only at hSw); go_simp; (try with_reducible rfl))
  simp only [Act.put, List.setIfInBounds_toArray, List.set_cons_zero, List.set_cons_succ]
  refine takeJ (i := 19) (d := (some 75)) (v := ?_) rfl rfl (by kernel_rfl) (by kernel_rfl) (by kernel_rfl) (fun _ _ _ h => h) (Or.inl ⟨by rfl, ?_⟩) (by assumption) ?_
  rotate_left
  · (intro w hSw; (try dsimp only at hSw); go_simp; (try with_reducible rfl))
  simp only [Act.put, List.setIfInBounds_toArray, List.set_cons_zero, List.set_cons_succ]
  refine takeJ (i := 20) (d := (some 76)) (v := ?_) rfl rfl (by kernel_rfl) (by kernel_rfl) (by kernel_rfl) (fun _ _ _ h => h) (Or.inl ⟨by rfl, ?_⟩) (by assumption) ?_
  rotate_left
  · (intro w hSw; (try dsimp only at hSw); go_simp; (try with_reducible rfl))
  simp only [Act.put, List.setIfInBounds_toArray, List.set_cons_zero, List.set_cons_succ]
  refine takeJ (i := 21) (d := (some 77)) (v := ?_) rfl rfl (by kernel_rfl) (by kernel_rfl) (by kernel_rfl) (fun _ _ _ h => h) (Or.inl ⟨by rfl, ?_⟩) (by assumption) ?_
  rotate_left
  · (intro w hSw; (try dsimp only at hSw); go_simp; (try with_reducible rfl))
  simp only [Act.put, List.setIfInBounds_toArray, List.set_cons_zero, List.set_cons_succ]
  refine takeJ (i := 22) (d := (some 78)) (v := ?_) rfl rfl (by kernel_rfl) (by kernel_rfl) (by kernel_rfl) (fun _ _ _ h => h) (Or.inl ⟨by rfl, ?_⟩) (by assumption) ?_
  rotate_left
  · (intro w hSw; (try dsimp only at hSw); go_simp; (try with_reducible rfl))
  simp only [Act.put, List.setIfInBounds_toArray, List.set_cons_zero, List.set_cons_succ]
  refine takeJ (i := 23) (d := (some 79)) (v := ?_) rfl rfl (by kernel_rfl) (by kernel_rfl) (by kernel_rfl) (fun _ _ _ h => h) (Or.inl ⟨by rfl, ?_⟩) (by assumption) ?_
  rotate_left
  · (intro w hSw; (try dsimp only at hSw); go_simp; (try with_reducible rfl))
  simp only [Act.put, List.setIfInBounds_toArray, List.set_cons_zero, List.set_cons_succ]
  refine takeJ (i := 24) (d := (some 80)) (v := ?_) rfl rfl (by kernel_rfl) (by kernel_rfl) (by kernel_rfl) (fun _ _ _ h => h) (Or.inl ⟨by rfl, ?_⟩) (by assumption) ?_
  rotate_left
  · (intro w hSw; (try dsimp only at hSw); go_simp; (try with_reducible rfl))
  simp only [Act.put, List.setIfInBounds_toArray, List.set_cons_zero, List.set_cons_succ]
  refine takeJ (i := 25) (d := (some 81)) (v := ?_) rfl rfl (by kernel_rfl) (by kernel_rfl) (by kernel_rfl) (fun _ _ _ h => h) (Or.inl ⟨by rfl, ?_⟩) (by assumption) ?_
  rotate_left
  · (intro w hSw; (try dsimp only at hSw); go_simp; (try with_reducible rfl))
  simp only [Act.put, List.setIfInBounds_toArray, List.set_cons_zero, List.set_cons_succ]
  refine takeJ (i := 26) (d := (some 82)) (v := ?_) rfl rfl (by kernel_rfl) (by kernel_rfl) (by kernel_rfl) (fun _ _ _ h => h) (Or.inl ⟨by rfl, ?_⟩) (by assumption) ?_
  rotate_left
  · (intro w hSw; (try dsimp only at hSw); go_simp; (try with_reducible rfl))
  simp only [Act.put, List.setIfInBounds_toArray, List.set_cons_zero, List.set_cons_succ]
  refine takeJ (i := 27) (d := (some 83)) (v := ?_) rfl rfl (by kernel_rfl) (by kernel_rfl) (by kernel_rfl) (fun _ _ _ h => h) (Or.inl ⟨by rfl, ?_⟩) (by assumption) ?_
  rotate_left
  · (intro w hSw; (try dsimp only at hSw); go_simp; (try with_reducible rfl))
  simp only [Act.put, List.setIfInBounds_toArray, List.set_cons_zero, List.set_cons_succ]
  refine takeJ (i := 28) (d := (some 84)) (v := ?_) rfl rfl (by kernel_rfl) (by kernel_rfl) (by kernel_rfl) (fun _ _ _ h => h) (Or.inl ⟨by rfl, ?_⟩) (by assumption) ?_
  rotate_left
  · (intro w hSw; (try dsimp only at hSw); go_simp; (try with_reducible rfl))
  simp only [Act.put, List.setIfInBounds_toArray, List.set_cons_zero, List.set_cons_succ]
  refine takeJ (i := 29) (d := (some 85)) (v := ?_) rfl rfl (by kernel_rfl) (by kernel_rfl) (by kernel_rfl) (fun _ _ _ h => h) (Or.inl ⟨by rfl, ?_⟩) (by assumption) ?_
  rotate_left
  · (intro w hSw; (try dsimp only at hSw); go_simp; (try with_reducible rfl))
  simp only [Act.put, List.setIfInBounds_toArray, List.set_cons_zero, List.set_cons_succ]
  refine takeJ (i := 30) (d := (some 86)) (v := ?_) rfl rfl (by kernel_rfl) (by kernel_rfl) (by kernel_rfl) (fun _ _ _ h => h) (Or.inl ⟨by rfl, ?_⟩) (by assumption) ?_
  rotate_left
  · (intro w hSw; (try dsimp only at hSw); go_simp; (try with_reducible rfl))
  simp only [Act.put, List.setIfInBounds_toArray, List.set_cons_zero, List.set_cons_succ]
  refine takeJ (i := 31) (d := (some 87)) (v := ?_) rfl rfl (by kernel_rfl) (by kernel_rfl) (by kernel_rfl) (fun _ _ _ h => h) (Or.inl ⟨by rfl, ?_⟩) (by assumption) ?_
  rotate_left
  · (intro w hSw; (try dsimp only at hSw); go_simp; (try with_reducible rfl))
  simp only [Act.put, List.setIfInBounds_toArray, List.set_cons_zero, List.set_cons_succ]
  refine takeJ (i := 32) (d := (some 88)) (v := ?_) rfl rfl (by kernel_rfl) (by kernel_rfl) (by kernel_rfl) (fun _ _ _ h => h) (Or.inl ⟨by rfl, ?_⟩) (by assumption) ?_
  rotate_left
  · (intro w hSw; (try dsimp only at hSw); go_simp; (try with_reducible rfl))
  simp only [Act.put, List.setIfInBounds_toArray, List.set_cons_zero, List.set_cons_succ]
  refine takeJ (i := 33) (d := (some 89)) (v := ?_) rfl rfl (by kernel_rfl) (by kernel_rfl) (by kernel_rfl) (fun _ _ _ h => h) (Or.inl ⟨by rfl, ?_⟩) (by assumption) ?_
  rotate_left
  · (intro w hSw; (try dsimp only at hSw); go_simp; (try with_reducible rfl))
  simp only [Act.put, List.setIfInBounds_toArray, List.set_cons_zero, List.set_cons_succ]
  refine takeJ (i := 34) (d := (some 90)) (v := ?_) rfl rfl (by kernel_rfl) (by kernel_rfl) (by kernel_rfl) (fun _ _ _ h => h) (Or.inl ⟨by rfl, ?_⟩) (by assumption) ?_
  rotate_left
  · (intro w hSw; (try dsimp only at hSw); go_simp; (try with_reducible rfl))
  simp only [Act.put, List.setIfInBounds_toArray, List.set_cons_zero, List.set_cons_succ]
  refine takeJ (i := 35) (d := (some 91)) (v := ?_) rfl rfl (by kernel_rfl) (by kernel_rfl) (by kernel_rfl) (fun _ _ _ h => h) (Or.inl ⟨by rfl, ?_⟩) (by assumption) ?_
  rotate_left
  · (intro w hSw; (try dsimp only at hSw); go_simp; (try with_reducible rfl))
  simp only [Act.put, List.setIfInBounds_toArray, List.set_cons_zero, List.set_cons_succ]
  refine takeJ (i := 36) (d := (some 92)) (v := ?_) rfl rfl (by kernel_rfl) (by kernel_rfl) (by kernel_rfl) (fun _ _ _ h => h) (Or.inl ⟨by rfl, ?_⟩) (by assumption) ?_
  rotate_left
  · (intro w hSw; (try dsimp only at hSw); go_simp; (try with_reducible rfl))
  simp only [Act.put, List.setIfInBounds_toArray, List.set_cons_zero, List.set_cons_succ]
  refine takeJ (i := 37) (d := (some 4)) (v := ?_) rfl rfl (by kernel_rfl) (by kernel_rfl) (by kernel_rfl) (fun _ _ _ h => h) (Or.inl ⟨by rfl, ?_⟩) (by assumption) ?_
  rotate_left
  · (intro w hSw; (try dsimp only at hSw); go_simp; (try with_reducible rfl))
  simp only [Act.put, List.setIfInBounds_toArray, List.set_cons_zero, List.set_cons_succ]
  refine wpAnyH_done (by kernel_rfl) ?_ _
  have HBf := Lib.hid (hHeld.1.2.2.2.2.2.2.2.2.2.2.2.2.1)
  clear hHeld hx4 hS hb hgr
  go_wp2
  go_ret
  exact ⟨rfl, HBf.out⟩

set_option maxHeartbeats 4000000 in
theorem quotaJust_b (ur uc ub k : Int) (w : World) (hg : Hg w) (h0 : ur ≤ 4611686018427387904) (h1 : uc ≤ 4611686018427387904) (h2 : ub ≤ 4611686018427387904) (l0 : -9223372036854775808 ≤ ur) (l1 : -9223372036854775808 ≤ uc) (l2 : -9223372036854775808 ≤ ub) (k0 : 0 ≤ k) (k1 : k ≤ 255) (hk : k % 3 = 2) :
    Calls Tryd.prog 5 #[.agg #[.int .i64 ur, .int .i64 uc, .int .i64 ub], .int .u8 k] w (Yes w) := by
  have hgA := hg.alloc (.cells #[.int .i64 ur, .int .i64 uc, .int .i64 ub] 25)
  have HU0 := Lib.hid (IsX.new w 25 ur uc ub)
  go_enter Tryd.func5, Tryd.ntmps5
  go_wp2_with fail
  refine (awake_any _ hgA).mono ?_
  rintro e w1 ⟨rfl, hb⟩
  have hg1 := hgA.below hb hgA.lt
  have hz1 : w.heap.size < w1.heap.size := by have := hb.size; simp at this; omega
  have HU1 := Lib.hid (HU0.out.below hb (by simp))
  have HB1 := Lib.hid (((Below.refl w.heap.size w).alloc (Nat.le_refl _) (.cells #[.int .i64 ur, .int .i64 uc, .int .i64 ub] 25)).trans (hb.mono (by simp)))
  clear hb hgA hg
  obtain ⟨u0, u1, u2⟩ := HU1.out
  have hgx := ((hg1.alloc (.cells #[.int .i64 ur, .int .i64 uc, .int .i64 ub, .int .i64 0, .int .i64 0, .int .i64 0] 23)).alloc (.cells #[.int .i64 ur, .int .i64 uc, .int .i64 (ub + 1)] 25)).alloc (.cells #[.pointer none] 37)
  have HL0 := Lib.hid (Lim.new w1 23 ur uc ub 0 0 0)
  go_wp2_with fail
  refine (check_bits ur uc ub 0 0 0 ur uc (ub + 1) _ (by omega) (by omega) (by omega)).mono ?_
  rintro e w2 ⟨b, rfl, hx, hb⟩
  have hg2 := hgx.below hb hgx.lt
  have hzx : w1.heap.size + 1 + 1 < w2.heap.size := by have := hb.size; simp at this; omega
  have hx2 : w2.cell? ⟨w1.heap.size + 1 + 1, 0, none⟩ = some (.pointer none) := (hb.cell (p := ⟨w1.heap.size + 1 + 1, 0, none⟩) (by simp)).trans (by rw [World.cell?_alloc_at _ _ _ _ (by simp)]; rfl)
  have hf2 : w2.frozen? ⟨w1.heap.size + 1 + 1, 0, none⟩ = false := (hb.frozen (p := ⟨w1.heap.size + 1 + 1, 0, none⟩) (by simp)).trans (by rw [World.frozen?_alloc_at _ _ _ _ (by simp)])
  have hbx : b ≠ w1.heap.size + 1 + 1 := fun ee => by have h := hx.1; rw [ee, hx2] at h; cases h
  have hl2 := (((HL0.out.alloc (.cells #[.int .i64 ur, .int .i64 uc, .int .i64 (ub + 1)] 25)).alloc (.cells #[.pointer none] 37)).below hb (by simp; omega))
  have hb1 : Below w1.heap.size w1 (((w1.alloc (.cells #[.int .i64 ur, .int .i64 uc, .int .i64 ub, .int .i64 0, .int .i64 0, .int .i64 0] 23)).alloc (.cells #[.int .i64 ur, .int .i64 uc, .int .i64 (ub + 1)] 25)).alloc (.cells #[.pointer none] 37)) := (by repeat (first | exact Below.refl _ _ | (refine Below.alloc ?_ (by first | omega | (simp; done) | (simp; omega)) _) | (refine Below.setCell ?_ (by first | omega | (simp; done) | (simp; omega)) _) | (refine Below.drew ?_)))
  have hu2 := (HU1.out.below hb1 hz1).below hb (by simp; omega)
  have HS2 : Hid (JS w w.heap.size w1.heap.size w.heap.size b ur uc ub 3 (ub + 1) ub w2) := ⟨hl2.1, hl2.2.1, hl2.2.2.1, hl2.2.2.2.1, hl2.2.2.2.2.1, hl2.2.2.2.2.2, hu2.1, hu2.2.1, hu2.2.2, hx.1, hx.2.1, hx.2.2, (HB1.out.trans (hb1.mono (by omega))).trans (hb.mono (by simp; omega)), by omega, by omega, hx.lt, by omega⟩
  have HX2 := Lib.hid hx2
  have HF2 := Lib.hid hf2
  have HG2 := Lib.hid hg2
  have hS := HS2.out
  clear hx hb hb1 hl2 hu2 u0 u1 u2 hgx hx2 hf2 hg2
  have hw0 : IntKind.i64.wrap (ub + 1) = ub + 1 := IntWalk.i64_in _ (by omega)
  unfold eX
  go_wp2_with fail
  refine wp_region_held_drew (S := fun W => JS w w.heap.size w1.heap.size w.heap.size b ur uc ub 3 (ub + 1) ub W) (by kernel_rfl) (JS.drew hS) (fun hHeld => ?_)
  refine takeJ (i := 0) (d := (some 56)) (v := ?_) rfl rfl (by kernel_rfl) (by kernel_rfl) (by kernel_rfl) (fun _ _ _ h => h) (Or.inl ⟨by rfl, ?_⟩) (by assumption) ?_
  rotate_left
  · (intro w hSw; (try dsimp only at hSw); go_simp; (try with_reducible rfl))
  simp only [Act.put, List.setIfInBounds_toArray, List.set_cons_zero, List.set_cons_succ]
  refine takeJ (i := 1) (d := (some 57)) (v := ?_) rfl rfl (by kernel_rfl) (by kernel_rfl) (by kernel_rfl) (fun _ _ _ h => h) (Or.inl ⟨by rfl, ?_⟩) (by assumption) ?_
  rotate_left
  · (intro w hSw; (try dsimp only at hSw); go_simp; (try with_reducible rfl))
  simp only [Act.put, List.setIfInBounds_toArray, List.set_cons_zero, List.set_cons_succ]
  refine wpAnyH_ready (rs := [2]) (by kernel_rfl) (by simp) ?_
  refine AllReadyH.cons rfl (fun K hK => ?_) AllReadyH.nil
  go_simp
  refine (check_none ur uc ub 0 0 0 ur uc ub _ (by omega) (by omega) (by omega)).mono ?_
  rintro e w3 ⟨rfl, hb⟩
  have HB3 := Lib.hid hb
  dsimp only
  refine hK.out _ _ (JS.below hHeld hb) (fun hHeld2 => ?_)
  clear hK K hHeld
  rename _ => hHeld
  refine takeJ (i := 3) (d := (some 59)) (v := ?_) rfl rfl (by kernel_rfl) (by kernel_rfl) (by kernel_rfl) (fun _ _ _ h => h) (Or.inl ⟨by rfl, ?_⟩) (by assumption) ?_
  rotate_left
  · (intro w hSw; (try dsimp only at hSw); go_simp; (try with_reducible rfl))
  simp only [Act.put, List.setIfInBounds_toArray, List.set_cons_zero, List.set_cons_succ]
  refine takeJ (i := 4) (d := (some 60)) (v := ?_) rfl rfl (by kernel_rfl) (by kernel_rfl) (by kernel_rfl) (fun _ _ _ h => h) (Or.inl ⟨by rfl, ?_⟩) (by assumption) ?_
  rotate_left
  · (intro w hSw; (try dsimp only at hSw); go_simp; (try with_reducible rfl))
  simp only [Act.put, List.setIfInBounds_toArray, List.set_cons_zero, List.set_cons_succ]
  refine takeJ (i := 5) (d := (some 61)) (v := ?_) rfl rfl (by kernel_rfl) (by kernel_rfl) (by kernel_rfl) (fun _ _ _ h => h) (Or.inl ⟨by rfl, ?_⟩) (by assumption) ?_
  rotate_left
  · (intro w hSw; (try dsimp only at hSw); go_simp; (try with_reducible rfl))
  simp only [Act.put, List.setIfInBounds_toArray, List.set_cons_zero, List.set_cons_succ]
  refine takeJ (i := 6) (d := (some 62)) (v := ?_) rfl rfl (by kernel_rfl) (by kernel_rfl) (by kernel_rfl) (fun _ _ _ h => h) (Or.inl ⟨by rfl, ?_⟩) (by assumption) ?_
  rotate_left
  · (intro w hSw; (try dsimp only at hSw); go_simp; (try with_reducible rfl))
  simp only [Act.put, List.setIfInBounds_toArray, List.set_cons_zero, List.set_cons_succ]
  refine takeJ (i := 7) (d := (some 63)) (v := ?_) rfl rfl (by kernel_rfl) (by kernel_rfl) (by kernel_rfl) (fun _ _ _ h => h) (Or.inl ⟨by rfl, ?_⟩) (by assumption) ?_
  rotate_left
  · (intro w hSw; (try dsimp only at hSw); go_simp; (try with_reducible rfl))
  simp only [Act.put, List.setIfInBounds_toArray, List.set_cons_zero, List.set_cons_succ]
  refine takeJ (i := 8) (d := (some 64)) (v := ?_) rfl rfl (by kernel_rfl) (by kernel_rfl) (by kernel_rfl) (fun _ _ _ h => h) (Or.inl ⟨by rfl, ?_⟩) (by assumption) ?_
  rotate_left
  · (intro w hSw; (try dsimp only at hSw); go_simp; (try with_reducible rfl))
  simp only [Act.put, List.setIfInBounds_toArray, List.set_cons_zero, List.set_cons_succ]
  refine takeJ (i := 9) (d := (some 65)) (v := ?_) rfl rfl (by kernel_rfl) (by kernel_rfl) (by kernel_rfl) (fun _ _ _ h => h) (Or.inl ⟨by rfl, ?_⟩) (by assumption) ?_
  rotate_left
  · (intro w hSw; (try dsimp only at hSw); go_simp; (try with_reducible rfl))
  simp only [Act.put, List.setIfInBounds_toArray, List.set_cons_zero, List.set_cons_succ]
  refine takeJ (i := 10) (d := (some 66)) (v := ?_) rfl rfl (by kernel_rfl) (by kernel_rfl) (by kernel_rfl) (fun _ _ _ h => h) (Or.inl ⟨by rfl, ?_⟩) (by assumption) ?_
  rotate_left
  · (intro w hSw; (try dsimp only at hSw); go_simp; (try with_reducible rfl))
  simp only [Act.put, List.setIfInBounds_toArray, List.set_cons_zero, List.set_cons_succ]
  refine wpAnyH_ready (rs := [11]) (by kernel_rfl) (by simp) ?_
  refine AllReadyH.cons rfl (fun K hK => ?_) AllReadyH.nil
  go_simp
  have hg3 := (show Hg w2.drew from HG2.out).below HB3.out (by have := HG2.out.lt; simpa using this)
  have hx3 : w3.cell? ⟨w1.heap.size + 1 + 1, 0, none⟩ = some (.pointer none) := (HB3.out.cell (p := ⟨w1.heap.size + 1 + 1, 0, none⟩) (by simpa using hzx)).trans (by simpa using HX2.out)
  have hf3 : w3.frozen? ⟨w1.heap.size + 1 + 1, 0, none⟩ = false := (HB3.out.frozen (p := ⟨w1.heap.size + 1 + 1, 0, none⟩) (by simpa using hzx)).trans (by simpa using HF2.out)
  refine (asExcess_XE_g ⟨b, 0, none⟩ (w1.heap.size + 1 + 1) (.pointer none) _ hg3 hx3 hf3).mono ?_
  rintro e w4 ⟨rfl, hgr, hx4⟩
  clear hx3 hf3 hg3
  dsimp only
  refine hK.out _ _ (JS.grown hHeld hgr (by simp; omega) (by simp; omega) (by simp; omega) (fun k hk => by simp at hk; omega)) (fun hHeld2 => ?_)
  clear hK K hHeld
  rename _ => hHeld
  refine takeJ_switch (S' := fun W => JS w w.heap.size w1.heap.size w.heap.size b ur uc ub 3 (ub + 1) ub W ∧ W.cell? ⟨w1.heap.size + 1 + 1, 0, none⟩ = some (.pointer (some ⟨b, 0, none⟩))) (fun _ h => h.1) _ _ _ _ ?_
  have hHeld2 := And.intro hHeld hx4
  clear hHeld
  rename _ => hHeld
  refine takeJ (i := 12) (d := (some 68)) (v := ?_) rfl rfl (by kernel_rfl) (by kernel_rfl) (by kernel_rfl) (fun _ _ _ h => h) (Or.inl ⟨by rfl, ?_⟩) (by assumption) ?_
  rotate_left
  · (intro w hSw; (try dsimp only at hSw); go_simp; (try with_reducible rfl))
  simp only [Act.put, List.setIfInBounds_toArray, List.set_cons_zero, List.set_cons_succ]
  refine takeJ (i := 13) (d := (some 69)) (v := ?_) rfl rfl (by kernel_rfl) (by kernel_rfl) (by kernel_rfl) (fun _ _ _ h => h) (Or.inl ⟨by rfl, ?_⟩) (by assumption) ?_
  rotate_left
  · (intro w hSw; (try dsimp only at hSw); go_simp; (try with_reducible rfl))
  simp only [Act.put, List.setIfInBounds_toArray, List.set_cons_zero, List.set_cons_succ]
  refine takeJ (i := 14) (d := (some 70)) (v := ?_) rfl rfl (by kernel_rfl) (by kernel_rfl) (by kernel_rfl) (fun _ _ _ h => h) (Or.inl ⟨by rfl, ?_⟩) (by assumption) ?_
  rotate_left
  · (intro w hSw; (try dsimp only at hSw); go_simp; (try with_reducible rfl))
  simp only [Act.put, List.setIfInBounds_toArray, List.set_cons_zero, List.set_cons_succ]
  refine takeJ (i := 15) (d := (some 71)) (v := ?_) rfl rfl (by kernel_rfl) (by kernel_rfl) (by kernel_rfl) (fun _ _ _ h => h) (Or.inl ⟨by rfl, ?_⟩) (by assumption) ?_
  rotate_left
  · (intro w hSw; (try dsimp only at hSw); go_simp; (try with_reducible rfl))
  simp only [Act.put, List.setIfInBounds_toArray, List.set_cons_zero, List.set_cons_succ]
  refine takeJ (i := 16) (d := (some 72)) (v := ?_) rfl rfl (by kernel_rfl) (by kernel_rfl) (by kernel_rfl) (fun _ _ _ h => h) (Or.inl ⟨by rfl, ?_⟩) (by assumption) ?_
  rotate_left
  · (intro w hSw; (try dsimp only at hSw); go_simp; (try with_reducible rfl))
  simp only [Act.put, List.setIfInBounds_toArray, List.set_cons_zero, List.set_cons_succ]
  refine takeJ (i := 17) (d := (some 73)) (v := ?_) rfl rfl (by kernel_rfl) (by kernel_rfl) (by kernel_rfl) (fun _ _ _ h => h) (Or.inl ⟨by rfl, ?_⟩) (by assumption) ?_
  rotate_left
  · (intro w hSw; (try dsimp only at hSw); go_simp; (try with_reducible rfl))
  simp only [Act.put, List.setIfInBounds_toArray, List.set_cons_zero, List.set_cons_succ]
  refine takeJ (i := 18) (d := (some 74)) (v := ?_) rfl rfl (by kernel_rfl) (by kernel_rfl) (by kernel_rfl) (fun _ _ _ h => h) (Or.inl ⟨by rfl, ?_⟩) (by assumption) ?_
  rotate_left
  · (intro w hSw; (try dsimp only at hSw); go_simp; (try with_reducible rfl))
  simp only [Act.put, List.setIfInBounds_toArray, List.set_cons_zero, List.set_cons_succ]
  refine takeJ (i := 19) (d := (some 75)) (v := ?_) rfl rfl (by kernel_rfl) (by kernel_rfl) (by kernel_rfl) (fun _ _ _ h => h) (Or.inl ⟨by rfl, ?_⟩) (by assumption) ?_
  rotate_left
  · (intro w hSw; (try dsimp only at hSw); go_simp; (try with_reducible rfl))
  simp only [Act.put, List.setIfInBounds_toArray, List.set_cons_zero, List.set_cons_succ]
  refine takeJ (i := 20) (d := (some 76)) (v := ?_) rfl rfl (by kernel_rfl) (by kernel_rfl) (by kernel_rfl) (fun _ _ _ h => h) (Or.inl ⟨by rfl, ?_⟩) (by assumption) ?_
  rotate_left
  · (intro w hSw; (try dsimp only at hSw); go_simp; (try with_reducible rfl))
  simp only [Act.put, List.setIfInBounds_toArray, List.set_cons_zero, List.set_cons_succ]
  refine takeJ (i := 21) (d := (some 77)) (v := ?_) rfl rfl (by kernel_rfl) (by kernel_rfl) (by kernel_rfl) (fun _ _ _ h => h) (Or.inl ⟨by rfl, ?_⟩) (by assumption) ?_
  rotate_left
  · (intro w hSw; (try dsimp only at hSw); go_simp; (try with_reducible rfl))
  simp only [Act.put, List.setIfInBounds_toArray, List.set_cons_zero, List.set_cons_succ]
  refine takeJ (i := 22) (d := (some 78)) (v := ?_) rfl rfl (by kernel_rfl) (by kernel_rfl) (by kernel_rfl) (fun _ _ _ h => h) (Or.inl ⟨by rfl, ?_⟩) (by assumption) ?_
  rotate_left
  · (intro w hSw; (try dsimp only at hSw); go_simp; (try with_reducible rfl))
  simp only [Act.put, List.setIfInBounds_toArray, List.set_cons_zero, List.set_cons_succ]
  refine takeJ (i := 23) (d := (some 79)) (v := ?_) rfl rfl (by kernel_rfl) (by kernel_rfl) (by kernel_rfl) (fun _ _ _ h => h) (Or.inl ⟨by rfl, ?_⟩) (by assumption) ?_
  rotate_left
  · (intro w hSw; (try dsimp only at hSw); go_simp; (try with_reducible rfl))
  simp only [Act.put, List.setIfInBounds_toArray, List.set_cons_zero, List.set_cons_succ]
  refine takeJ (i := 24) (d := (some 80)) (v := ?_) rfl rfl (by kernel_rfl) (by kernel_rfl) (by kernel_rfl) (fun _ _ _ h => h) (Or.inl ⟨by rfl, ?_⟩) (by assumption) ?_
  rotate_left
  · (intro w hSw; (try dsimp only at hSw); go_simp; (try with_reducible rfl))
  simp only [Act.put, List.setIfInBounds_toArray, List.set_cons_zero, List.set_cons_succ]
  refine takeJ (i := 25) (d := (some 81)) (v := ?_) rfl rfl (by kernel_rfl) (by kernel_rfl) (by kernel_rfl) (fun _ _ _ h => h) (Or.inl ⟨by rfl, ?_⟩) (by assumption) ?_
  rotate_left
  · (intro w hSw; (try dsimp only at hSw); go_simp; (try with_reducible rfl))
  simp only [Act.put, List.setIfInBounds_toArray, List.set_cons_zero, List.set_cons_succ]
  refine takeJ (i := 26) (d := (some 82)) (v := ?_) rfl rfl (by kernel_rfl) (by kernel_rfl) (by kernel_rfl) (fun _ _ _ h => h) (Or.inl ⟨by rfl, ?_⟩) (by assumption) ?_
  rotate_left
  · (intro w hSw; (try dsimp only at hSw); go_simp; (try with_reducible rfl))
  simp only [Act.put, List.setIfInBounds_toArray, List.set_cons_zero, List.set_cons_succ]
  refine takeJ (i := 27) (d := (some 83)) (v := ?_) rfl rfl (by kernel_rfl) (by kernel_rfl) (by kernel_rfl) (fun _ _ _ h => h) (Or.inl ⟨by rfl, ?_⟩) (by assumption) ?_
  rotate_left
  · (intro w hSw; (try dsimp only at hSw); go_simp; (try with_reducible rfl))
  simp only [Act.put, List.setIfInBounds_toArray, List.set_cons_zero, List.set_cons_succ]
  refine takeJ (i := 28) (d := (some 84)) (v := ?_) rfl rfl (by kernel_rfl) (by kernel_rfl) (by kernel_rfl) (fun _ _ _ h => h) (Or.inl ⟨by rfl, ?_⟩) (by assumption) ?_
  rotate_left
  · (intro w hSw; (try dsimp only at hSw); go_simp; (try with_reducible rfl))
  simp only [Act.put, List.setIfInBounds_toArray, List.set_cons_zero, List.set_cons_succ]
  refine takeJ (i := 29) (d := (some 85)) (v := ?_) rfl rfl (by kernel_rfl) (by kernel_rfl) (by kernel_rfl) (fun _ _ _ h => h) (Or.inl ⟨by rfl, ?_⟩) (by assumption) ?_
  rotate_left
  · (intro w hSw; (try dsimp only at hSw); go_simp; (try with_reducible rfl))
  simp only [Act.put, List.setIfInBounds_toArray, List.set_cons_zero, List.set_cons_succ]
  refine takeJ (i := 30) (d := (some 86)) (v := ?_) rfl rfl (by kernel_rfl) (by kernel_rfl) (by kernel_rfl) (fun _ _ _ h => h) (Or.inl ⟨by rfl, ?_⟩) (by assumption) ?_
  rotate_left
  · (intro w hSw; (try dsimp only at hSw); go_simp; (try with_reducible rfl))
  simp only [Act.put, List.setIfInBounds_toArray, List.set_cons_zero, List.set_cons_succ]
  refine takeJ (i := 31) (d := (some 87)) (v := ?_) rfl rfl (by kernel_rfl) (by kernel_rfl) (by kernel_rfl) (fun _ _ _ h => h) (Or.inl ⟨by rfl, ?_⟩) (by assumption) ?_
  rotate_left
  · (intro w hSw; (try dsimp only at hSw); go_simp; (try with_reducible rfl))
  simp only [Act.put, List.setIfInBounds_toArray, List.set_cons_zero, List.set_cons_succ]
  refine takeJ (i := 32) (d := (some 88)) (v := ?_) rfl rfl (by kernel_rfl) (by kernel_rfl) (by kernel_rfl) (fun _ _ _ h => h) (Or.inl ⟨by rfl, ?_⟩) (by assumption) ?_
  rotate_left
  · (intro w hSw; (try dsimp only at hSw); go_simp; (try with_reducible rfl))
  simp only [Act.put, List.setIfInBounds_toArray, List.set_cons_zero, List.set_cons_succ]
  refine takeJ (i := 33) (d := (some 89)) (v := ?_) rfl rfl (by kernel_rfl) (by kernel_rfl) (by kernel_rfl) (fun _ _ _ h => h) (Or.inl ⟨by rfl, ?_⟩) (by assumption) ?_
  rotate_left
  · (intro w hSw; (try dsimp only at hSw); go_simp; (try with_reducible rfl))
  simp only [Act.put, List.setIfInBounds_toArray, List.set_cons_zero, List.set_cons_succ]
  refine takeJ (i := 34) (d := (some 90)) (v := ?_) rfl rfl (by kernel_rfl) (by kernel_rfl) (by kernel_rfl) (fun _ _ _ h => h) (Or.inl ⟨by rfl, ?_⟩) (by assumption) ?_
  rotate_left
  · (intro w hSw; (try dsimp only at hSw); go_simp; (try with_reducible rfl))
  simp only [Act.put, List.setIfInBounds_toArray, List.set_cons_zero, List.set_cons_succ]
  refine takeJ (i := 35) (d := (some 91)) (v := ?_) rfl rfl (by kernel_rfl) (by kernel_rfl) (by kernel_rfl) (fun _ _ _ h => h) (Or.inl ⟨by rfl, ?_⟩) (by assumption) ?_
  rotate_left
  · (intro w hSw; (try dsimp only at hSw); go_simp; (try with_reducible rfl))
  simp only [Act.put, List.setIfInBounds_toArray, List.set_cons_zero, List.set_cons_succ]
  refine takeJ (i := 36) (d := (some 92)) (v := ?_) rfl rfl (by kernel_rfl) (by kernel_rfl) (by kernel_rfl) (fun _ _ _ h => h) (Or.inl ⟨by rfl, ?_⟩) (by assumption) ?_
  rotate_left
  · (intro w hSw; (try dsimp only at hSw); go_simp; (try with_reducible rfl))
  simp only [Act.put, List.setIfInBounds_toArray, List.set_cons_zero, List.set_cons_succ]
  refine takeJ (i := 37) (d := (some 4)) (v := ?_) rfl rfl (by kernel_rfl) (by kernel_rfl) (by kernel_rfl) (fun _ _ _ h => h) (Or.inl ⟨by rfl, ?_⟩) (by assumption) ?_
  rotate_left
  · (intro w hSw; (try dsimp only at hSw); go_simp; (try with_reducible rfl))
  simp only [Act.put, List.setIfInBounds_toArray, List.set_cons_zero, List.set_cons_succ]
  refine wpAnyH_done (by kernel_rfl) ?_ _
  have HBf := Lib.hid (hHeld.1.2.2.2.2.2.2.2.2.2.2.2.2.1)
  clear hHeld hx4 hS hb hgr
  go_wp2
  go_ret
  exact ⟨rfl, HBf.out⟩

theorem quotaJust_any (ur uc ub k : Int) (w : World) (hg : Hg w) (l0 : -9223372036854775808 ≤ ur) (l1 : -9223372036854775808 ≤ uc) (l2 : -9223372036854775808 ≤ ub) (k0 : 0 ≤ k) (k1 : k ≤ 255) :
    Calls Tryd.prog 5 #[.agg #[.int .i64 ur, .int .i64 uc, .int .i64 ub], .int .u8 k] w (Yes w) := by
  by_cases h0 : 4611686018427387904 < ur
  · exact quotaJust_rows ur uc ub k w hg h0
  · by_cases h1 : 4611686018427387904 < uc
    · exact quotaJust_cols ur uc ub k w hg (by omega) h1
    · by_cases h2 : 4611686018427387904 < ub
      · exact quotaJust_bits ur uc ub k w hg (by omega) (by omega) h2
      · by_cases hk : k % 3 = 0
        · exact quotaJust_r ur uc ub k w hg (by omega) (by omega) (by omega) l0 l1 l2 k0 k1 hk
        · by_cases hk1 : k % 3 = 1
          · exact quotaJust_c ur uc ub k w hg (by omega) (by omega) (by omega) l0 l1 l2 k0 k1 hk1
          · exact quotaJust_b ur uc ub k w hg (by omega) (by omega) (by omega) l0 l1 l2 k0 k1 (by omega)
end Go.Proofs.YtgicnjpneoedoaaDoor
