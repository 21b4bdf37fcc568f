/-
  The walk of QuotaUses: it answers true; the conditions: what errors.errorType holds, how long the script is.
  Printed by a program of this repository (wip/law13.py).
-/
import Derived.Test.YtaehklhbokocbaaGreatDoorZM
import Derived.Test.YtaehklhbokocbaaGreatDoorZQFits
import Derived.Deep.RegionHeld3
set_option linter.unusedVariables false
set_option linter.unusedSimpArgs false
namespace Go.Proofs.YtaehklhbokocbaaGreatDoor
open Go.RowKit Go.Extern.Stop Go.Stop Go.Extern
theorem uses_wf (xs : List XA) : WF (AS.new.run xs) := by
  have h := (behind xs xs.length).wf
  rw [List.take_length] at h
  exact h
set_option maxRecDepth 100000 in
set_option maxHeartbeats 4000000 in
theorem qof_any (w : World) (sb : Nat) (G : Nat → Prop) (s : AS) (h : SA w sb G s) (hw : WF s) :
    Calls Tryz.prog 23 #[.pointer (some ⟨sb, 0, none⟩)] w fun e w' => e = .returned (.agg #[.int .i64 s.rids.length, .int .i64 s.cids.length, .int .i64 s.bits]) ∧ Below w.heap.size w w' := by
  obtain ⟨w0, hw0⟩ : ∃ w0, w.alloc (.cells #[.int .i64 0, .int .i64 0, .int .i64 0] 61) = w0 := ⟨_, rfl⟩
  obtain ⟨ub, hub⟩ : ∃ ub, w.heap.size = ub := ⟨_, rfl⟩
  have hb0 : Below w.heap.size w w0 := by rw [← hw0]; exact belowBox w _
  have hul : ub < w0.heap.size := by rw [← hw0, ← hub]; simp
  have q0 : w0.cell? ⟨ub, 0, none⟩ = some (.int .i64 0) := by rw [← hw0, ← hub]; simp
  have q1 : w0.cell? ⟨ub, 1, none⟩ = some (.int .i64 0) := by rw [← hw0, ← hub]; simp
  have q2 : w0.cell? ⟨ub, 2, none⟩ = some (.int .i64 0) := by rw [← hw0, ← hub]; simp
  have qf : ∀ j, w0.frozen? ⟨ub, j, none⟩ = false := by intro j; rw [← hw0, ← hub]; simp
  have HSA := Lib.hid (h.below hb0)
  have HW := Lib.hid hw
  have HB0 := Lib.hid hb0
  have HW0 := Lib.hid hw0
  have HUB := Lib.hid hub
  clear h hw hb0 hw0 hub
  go_enter Tryz.func23, Tryz.ntmps23
  go_upto_region 1 with fail
  (try simp only [HW0.out, HUB.out])
  go_wp2_with fail
  refine (as_rows HSA.out HW.out).mono ?_
  rintro e w1 ⟨a1, c1, rfl, hm, hb1⟩
  obtain ⟨nr, hnr⟩ : ∃ n, s.rids.length = n := ⟨_, rfl⟩
  rw [hnr]
  have HNR := Lib.hid hnr
  have HB1 := Lib.hid hb1
  clear hm hb1 hnr
  go_wp2_with fail
  refine (as_cols (HSA.out.below HB1.out) HW.out).mono ?_
  rintro e w2 ⟨a2, c2, rfl, hm, hb2⟩
  obtain ⟨nc, hnc⟩ : ∃ n, s.cids.length = n := ⟨_, rfl⟩
  rw [hnc]
  have HNC := Lib.hid hnc
  have HB2 := Lib.hid (bthen HB1.out hb2)
  clear hm hb2 hnc
  go_wp2_with fail
  refine (as_bits (HSA.out.below HB2.out) HW.out).mono ?_
  rintro e w3 ⟨rfl, hb3⟩
  have hb := bthen HB2.out hb3
  have r0 := (hb.cell (p := ⟨ub, 0, none⟩) hul).trans q0
  have r1 := (hb.cell (p := ⟨ub, 1, none⟩) hul).trans q1
  have r2 := (hb.cell (p := ⟨ub, 2, none⟩) hul).trans q2
  have f0 := (hb.frozen (p := ⟨ub, 0, none⟩) hul).trans (qf 0)
  have f1 := (hb.frozen (p := ⟨ub, 1, none⟩) hul).trans (qf 1)
  have f2 := (hb.frozen (p := ⟨ub, 2, none⟩) hul).trans (qf 2)
  have HB3 := Lib.hid (bthen HB0.out (hb.mono (Nat.le_refl _)))
  obtain ⟨nb, hnb⟩ : ∃ n, s.bits = n := ⟨_, rfl⟩
  rw [hnb]
  have HNB := Lib.hid hnb
  clear hb3 hb q0 q1 q2 qf hnb
  go_wp2_with fail
  refine bodyPost_ret (v := .agg #[.int .i64 nr, .int .i64 nc, .int .i64 nb]) (by simp [results, Tryz.results23, go_sem, r0, r1, r2]) rfl ?_
  refine ⟨by rw [HNR.out, HNC.out, HNB.out], HB3.out.trans ((set3k w3 ub _ _ _).below HB3.out.size fun k h => ?_)⟩
  rw [h, ← HUB.out]
  exact Nat.le_refl _
theorem check_over (lr lc lb lp ls lt ur uc ub : Int) (w : World) (h : lr < ur ∨ lc < uc ∨ lb < ub) : Calls Tryz.prog 25 #[.agg #[.int .i64 lr, .int .i64 lc, .int .i64 lb, .int .i64 lp, .int .i64 ls, .int .i64 lt], .agg #[.int .i64 ur, .int .i64 uc, .int .i64 ub]] w fun e w' => (∃ T u, e = .returned (.iface T u)) ∧ Below w.heap.size w w' := by
  by_cases h1 : lr < ur
  · exact (check_rows lr lc lb lp ls lt ur uc ub w h1).mono fun e w' ⟨b, h2, _, h3⟩ => ⟨⟨_, _, h2⟩, h3⟩
  · by_cases h2 : lc < uc
    · exact (check_cols lr lc lb lp ls lt ur uc ub w h1 h2).mono fun e w' ⟨b, h2, _, h3⟩ => ⟨⟨_, _, h2⟩, h3⟩
    · exact (check_bits lr lc lb lp ls lt ur uc ub w h1 h2 (by omega)).mono fun e w' ⟨b, h2, _, h3⟩ => ⟨⟨_, _, h2⟩, h3⟩
set_option maxRecDepth 100000 in
set_option maxHeartbeats 32000000 in
theorem quotaUses_any (a : Option Addr) (c : Nat) (zs : List ZA) (kr kc kb kp ks kt nr nc nb np ns nt : Int) (w : World) (hg : Hg w) (hs : Scr w (.slice a zs.length c) zs) (hB : load (acts zs) ≤ 1048576) :
    Calls Tryz.prog 5 #[.slice a zs.length c, .agg #[.int .i64 kr, .int .i64 kc, .int .i64 kb, .int .i64 kp, .int .i64 ks, .int .i64 kt], .agg #[.int .i64 nr, .int .i64 nc, .int .i64 nb, .int .i64 np, .int .i64 ns, .int .i64 nt]] w fun e w' => e = .returned (.bool true) ∧ Below w.heap.size w w' := by
  obtain ⟨w1, hw1⟩ : ∃ w1, (w.alloc (.cells #[.int .i64 kr, .int .i64 kc, .int .i64 kb, .int .i64 kp, .int .i64 ks, .int .i64 kt] 59)).alloc (.cells #[.int .i64 nr, .int .i64 nc, .int .i64 nb, .int .i64 np, .int .i64 ns, .int .i64 nt] 59) = w1 := ⟨_, rfl⟩
  obtain ⟨pb, hpb⟩ : ∃ pb, w.heap.size = pb := ⟨_, rfl⟩
  have hb1 : Below w.heap.size w w1 := by rw [← hw1]; exact bthen (belowBox w (.cells #[.int .i64 kr, .int .i64 kc, .int .i64 kb, .int .i64 kp, .int .i64 ks, .int .i64 kt] 59)) (belowBox _ (.cells #[.int .i64 nr, .int .i64 nc, .int .i64 nb, .int .i64 np, .int .i64 ns, .int .i64 nt] 59))
  have hpl : pb + 1 < w1.heap.size := by rw [← hw1, ← hpb]; simp
  have a0 : w1.cell? ⟨pb, 0, none⟩ = some (.int .i64 kr) := by rw [← hw1, ← hpb]; simp
  have a1 : w1.cell? ⟨pb, 1, none⟩ = some (.int .i64 kc) := by rw [← hw1, ← hpb]; simp
  have a2 : w1.cell? ⟨pb, 2, none⟩ = some (.int .i64 kb) := by rw [← hw1, ← hpb]; simp
  have a3 : w1.cell? ⟨pb, 3, none⟩ = some (.int .i64 kp) := by rw [← hw1, ← hpb]; simp
  have a4 : w1.cell? ⟨pb, 4, none⟩ = some (.int .i64 ks) := by rw [← hw1, ← hpb]; simp
  have a5 : w1.cell? ⟨pb, 5, none⟩ = some (.int .i64 kt) := by rw [← hw1, ← hpb]; simp
  have b0 : w1.cell? ⟨pb + 1, 0, none⟩ = some (.int .i64 nr) := by rw [← hw1, ← hpb]; simp
  have b1 : w1.cell? ⟨pb + 1, 1, none⟩ = some (.int .i64 nc) := by rw [← hw1, ← hpb]; simp
  have b2 : w1.cell? ⟨pb + 1, 2, none⟩ = some (.int .i64 nb) := by rw [← hw1, ← hpb]; simp
  have b3 : w1.cell? ⟨pb + 1, 3, none⟩ = some (.int .i64 np) := by rw [← hw1, ← hpb]; simp
  have b4 : w1.cell? ⟨pb + 1, 4, none⟩ = some (.int .i64 ns) := by rw [← hw1, ← hpb]; simp
  have b5 : w1.cell? ⟨pb + 1, 5, none⟩ = some (.int .i64 nt) := by rw [← hw1, ← hpb]; simp
  have hwf := uses_wf (acts zs)
  have HAW := Lib.hid (qawake_any w1 (hg.below hb1 hg.lt))
  have HPL := Lib.hid (fun (W : World) (hb : Below w.heap.size w W) => played_any a c zs W (hs.below hb) (hg.below hb hg.lt) hB)
  obtain ⟨S, hS⟩ : ∃ S, AS.new.run (acts zs) = S := ⟨_, rfl⟩
  rw [hS] at hwf HPL
  have HWF := Lib.hid hwf
  have HB1 := Lib.hid hb1
  have HW1 := Lib.hid hw1
  have HPB := Lib.hid hpb
  clear hs hg hB hwf hb1 hw1 hpb hS
  go_enter Tryz.func5, Tryz.ntmps5
  go_upto_region 1 with fail
  (try simp only [HW1.out, HPB.out])
  clear HW1
  go_wp2_with fail
  refine HAW.out.mono ?_
  rintro e w2 ⟨rfl, hb2⟩
  have HB2 := Lib.hid (HB1.out.trans (hb2.mono HB1.out.size))
  have HB12 := Lib.hid hb2
  clear hb2 HAW
  go_wp2_with fail
  refine (HPL.out _ HB2.out).mono ?_
  rintro e w3 ⟨sb, G, rfl, hsa, hG, hb3⟩
  have HSA3 := Lib.hid hsa
  have HB13 := Lib.hid (HB12.out.trans (hb3.mono HB12.out.size) |> fun h => (h : Below w1.heap.size w1 w3))
  clear hsa hG hb3 HPL
  go_wp2_with fail
  refine (qof_any w3 sb G S HSA3.out HWF.out).mono ?_
  rintro e w4 ⟨rfl, hb4⟩
  obtain ⟨ur, hur⟩ : ∃ n, S.rids.length = n := ⟨_, rfl⟩
  obtain ⟨uc, huc⟩ : ∃ n, S.cids.length = n := ⟨_, rfl⟩
  obtain ⟨uq, huq⟩ : ∃ n, S.bits = n := ⟨_, rfl⟩
  rw [hur, huc, huq]
  obtain ⟨w5, hw5⟩ : ∃ w5, w4.alloc (.cells #[.int .i64 ur, .int .i64 uc, .int .i64 uq] 61) = w5 := ⟨_, rfl⟩
  obtain ⟨ub, hub⟩ : ∃ ub, w4.heap.size = ub := ⟨_, rfl⟩
  have hb5 : Below w4.heap.size w4 w5 := by rw [← hw5]; exact belowBox w4 (.cells #[.int .i64 ur, .int .i64 uc, .int .i64 uq] 61)
  have u0 : w5.cell? ⟨ub, 0, none⟩ = some (.int .i64 ur) := by rw [← hw5, ← hub]; simp
  have u1 : w5.cell? ⟨ub, 1, none⟩ = some (.int .i64 uc) := by rw [← hw5, ← hub]; simp
  have u2 : w5.cell? ⟨ub, 2, none⟩ = some (.int .i64 uq) := by rw [← hw5, ← hub]; simp
  have h15 : Below w1.heap.size w1 w5 := HB13.out.trans ((bthen hb4 hb5).mono HB13.out.size)
  have x0 := (h15.cell (p := ⟨pb, 0, none⟩) (show pb < w1.heap.size by omega)).trans a0
  have x1 := (h15.cell (p := ⟨pb, 1, none⟩) (show pb < w1.heap.size by omega)).trans a1
  have x2 := (h15.cell (p := ⟨pb, 2, none⟩) (show pb < w1.heap.size by omega)).trans a2
  have x3 := (h15.cell (p := ⟨pb, 3, none⟩) (show pb < w1.heap.size by omega)).trans a3
  have x4 := (h15.cell (p := ⟨pb, 4, none⟩) (show pb < w1.heap.size by omega)).trans a4
  have x5 := (h15.cell (p := ⟨pb, 5, none⟩) (show pb < w1.heap.size by omega)).trans a5
  have y0 := (h15.cell (p := ⟨pb + 1, 0, none⟩) hpl).trans b0
  have y1 := (h15.cell (p := ⟨pb + 1, 1, none⟩) hpl).trans b1
  have y2 := (h15.cell (p := ⟨pb + 1, 2, none⟩) hpl).trans b2
  have y3 := (h15.cell (p := ⟨pb + 1, 3, none⟩) hpl).trans b3
  have y4 := (h15.cell (p := ⟨pb + 1, 4, none⟩) hpl).trans b4
  have y5 := (h15.cell (p := ⟨pb + 1, 5, none⟩) hpl).trans b5
  have hp5 : pb + 1 < w5.heap.size := Nat.lt_of_lt_of_le hpl h15.size
  have HBW := Lib.hid (HB1.out.trans (h15.mono HB1.out.size))
  have HSA := Lib.hid (((HSA3.out.below hb4).below hb5).below (Below.drawn w5 1))
  have HB := Lib.hid (Below.drawn w5 1)
  have HNR := Lib.hid hur
  have HNC := Lib.hid huc
  have HNB := Lib.hid huq
  have HW5 := Lib.hid hw5
  have HUB := Lib.hid hub
  clear hb4 hur huc huq hw5 hub hb5 h15 a0 b0 a1 b1 a2 b2 a3 b3 a4 b4 a5 b5 hpl HB13 HB12 HSA3
  go_upto_region 7 with fail
  (try simp only [HW5.out, HUB.out])
  clear HW5 HUB
  go_cut [37] (fun v37 wx => v37 = .bool false ∧ Below w5.heap.size w5 wx)
  case first =>
    refine wp_region_held_drew (S := fun W => W.cell? ⟨ub, 0, none⟩ = some (.int .i64 ur) ∧ W.cell? ⟨ub, 1, none⟩ = some (.int .i64 uc) ∧ W.cell? ⟨ub, 2, none⟩ = some (.int .i64 uq)) (by kernel_rfl) (⟨u0, u1, u2⟩) (fun hHeld => ?_)
    refine tk 0 (some 17) (v := ?_) rfl rfl ?_ ?_
    rotate_left
    · (intro w _; go_simp; (try with_reducible rfl))
    simp only [Act.put, stB, stZ, stS]
    refine tk 1 (some 18) (v := ?_) rfl rfl ?_ ?_
    rotate_left
    · (intro w hSw; (try dsimp only at hSw); ((try obtain ⟨hS0, hS1, hS2⟩ := hSw); go_simp); (try with_reducible rfl))
    simp only [Act.put, stB, stZ, stS]
    refine tk 2 (some 19) (v := ?_) rfl rfl ?_ ?_
    rotate_left
    · (intro w _; go_simp; (try with_reducible rfl))
    simp only [Act.put, stB, stZ, stS]
    refine wpAnyH_ready (rs := [3]) (by kernel_rfl) (by simp) ?_
    refine (AllReadyH.cons (o := { dst := some 20, op := Op.call { callee := Callee.value (Operand.func 13), args := #[Operand.tmp 19], argTypes := #[24] }, type := 27, pos := "law.go:81", after := #[{ on := 2, ground := Ground.data }], guard := none }) rfl (fun K hK => ?_) AllReadyH.nil)
    go_simp
    refine (as_rows HSA.out HWF.out).mono ?_
    rintro e V1 ⟨an, cn, rfl, hm, hb⟩
    rw [HNR.out]
    replace HSA := Lib.hid (HSA.out.below hb)
    replace HB := Lib.hid (HB.out.trans (hb.mono HB.out.size))
    have hKK := And.intro ((hb.cell (p := ⟨ub, 0, none⟩) (World.block_lt_of_cell? _ _ hHeld.1)).trans hHeld.1) (And.intro ((hb.cell (p := ⟨ub, 1, none⟩) (World.block_lt_of_cell? _ _ hHeld.2.1)).trans hHeld.2.1) ((hb.cell (p := ⟨ub, 2, none⟩) (World.block_lt_of_cell? _ _ hHeld.2.2)).trans hHeld.2.2))
    clear hm hb
    refine hK.out _ _ (hKK) (fun hHeld2 => ?_)
    clear hK K hHeld
    rename _ => hHeld
    try simp only [Act.put, stB, stZ, stS]
    refine tk 4 (some 21) (v := ?_) rfl rfl ?_ ?_
    rotate_left
    · (intro w _; go_simp; (try with_reducible rfl))
    simp only [Act.put, stB, stZ, stS]
    refine tk 5 (some 22) (v := ?_) rfl rfl ?_ ?_
    rotate_left
    · (intro w _; go_simp; (try with_reducible rfl))
    simp only [Act.put, stB, stZ, stS]
    refine tk 6 (some 23) (v := ?_) rfl rfl ?_ ?_
    rotate_left
    · (intro w _; go_simp; (try with_reducible rfl))
    simp only [Act.put, stB, stZ, stS]
    refine tk 7 (some 24) (v := ?_) rfl rfl ?_ ?_
    rotate_left
    · (intro w _; go_simp; (try with_reducible rfl))
    simp only [Act.put, stB, stZ, stS]
    refine tk 8 (some 25) (v := ?_) rfl rfl ?_ ?_
    rotate_left
    · (intro w hSw; (try dsimp only at hSw); ((try obtain ⟨hS0, hS1, hS2⟩ := hSw); go_simp); (try with_reducible rfl))
    simp only [Act.put, stB, stZ, stS]
    refine tk 9 (some 26) (v := ?_) rfl rfl ?_ ?_
    rotate_left
    · (intro w _; go_simp; (try with_reducible rfl))
    simp only [Act.put, stB, stZ, stS]
    refine wpAnyH_ready (rs := [10]) (by kernel_rfl) (by simp) ?_
    refine (AllReadyH.cons (o := { dst := some 27, op := Op.call { callee := Callee.value (Operand.func 14), args := #[Operand.tmp 26], argTypes := #[24] }, type := 27, pos := "law.go:81", after := #[{ on := 9, ground := Ground.data }, { on := 6, ground := Ground.chain }, { on := 6, ground := Ground.guard }], guard := some (6, false) }) rfl (fun K hK => ?_) AllReadyH.nil)
    go_simp
    refine (as_cols HSA.out HWF.out).mono ?_
    rintro e V2 ⟨an, cn, rfl, hm, hb⟩
    rw [HNC.out]
    replace HSA := Lib.hid (HSA.out.below hb)
    replace HB := Lib.hid (HB.out.trans (hb.mono HB.out.size))
    have hKK := And.intro ((hb.cell (p := ⟨ub, 0, none⟩) (World.block_lt_of_cell? _ _ hHeld.1)).trans hHeld.1) (And.intro ((hb.cell (p := ⟨ub, 1, none⟩) (World.block_lt_of_cell? _ _ hHeld.2.1)).trans hHeld.2.1) ((hb.cell (p := ⟨ub, 2, none⟩) (World.block_lt_of_cell? _ _ hHeld.2.2)).trans hHeld.2.2))
    clear hm hb
    refine hK.out _ _ (hKK) (fun hHeld2 => ?_)
    clear hK K hHeld
    rename _ => hHeld
    try simp only [Act.put, stB, stZ, stS]
    refine tk 11 (some 28) (v := ?_) rfl rfl ?_ ?_
    rotate_left
    · (intro w _; go_simp; (try with_reducible rfl))
    simp only [Act.put, stB, stZ, stS]
    refine tk 12 (some 29) (v := ?_) rfl rfl ?_ ?_
    rotate_left
    · (intro w _; go_simp; (try with_reducible rfl))
    simp only [Act.put, stB, stZ, stS]
    refine tk 13 (some 30) (v := ?_) rfl rfl ?_ ?_
    rotate_left
    · (intro w _; go_simp; (try with_reducible rfl))
    simp only [Act.put, stB, stZ, stS]
    refine tk 14 (some 31) (v := ?_) rfl rfl ?_ ?_
    rotate_left
    · (intro w _; go_simp; (try with_reducible rfl))
    simp only [Act.put, stB, stZ, stS]
    refine tk 15 (some 32) (v := ?_) rfl rfl ?_ ?_
    rotate_left
    · (intro w _; go_simp; (try with_reducible rfl))
    simp only [Act.put, stB, stZ, stS]
    refine tk 16 (some 33) (v := ?_) rfl rfl ?_ ?_
    rotate_left
    · (intro w hSw; (try dsimp only at hSw); ((try obtain ⟨hS0, hS1, hS2⟩ := hSw); go_simp); (try with_reducible rfl))
    simp only [Act.put, stB, stZ, stS]
    refine tk 17 (some 34) (v := ?_) rfl rfl ?_ ?_
    rotate_left
    · (intro w _; go_simp; (try with_reducible rfl))
    simp only [Act.put, stB, stZ, stS]
    refine wpAnyH_ready (rs := [18]) (by kernel_rfl) (by simp) ?_
    refine (AllReadyH.cons (o := { dst := some 35, op := Op.call { callee := Callee.value (Operand.func 21), args := #[Operand.tmp 34], argTypes := #[24] }, type := 3, pos := "law.go:81", after := #[{ on := 17, ground := Ground.data }, { on := 14, ground := Ground.chain }, { on := 14, ground := Ground.guard }], guard := some (14, false) }) rfl (fun K hK => ?_) AllReadyH.nil)
    go_simp
    refine (as_bits HSA.out HWF.out).mono ?_
    rintro e V3 ⟨rfl, hb⟩
    rw [HNB.out]
    replace HSA := Lib.hid (HSA.out.below hb)
    replace HB := Lib.hid (HB.out.trans (hb.mono HB.out.size))
    have hKK := And.intro ((hb.cell (p := ⟨ub, 0, none⟩) (World.block_lt_of_cell? _ _ hHeld.1)).trans hHeld.1) (And.intro ((hb.cell (p := ⟨ub, 1, none⟩) (World.block_lt_of_cell? _ _ hHeld.2.1)).trans hHeld.2.1) ((hb.cell (p := ⟨ub, 2, none⟩) (World.block_lt_of_cell? _ _ hHeld.2.2)).trans hHeld.2.2))
    clear hb
    refine hK.out _ _ (hKK) (fun hHeld2 => ?_)
    clear hK K hHeld
    rename _ => hHeld
    try simp only [Act.put, stB, stZ, stS]
    refine tk 19 (some 36) (v := ?_) rfl rfl ?_ ?_
    rotate_left
    · (intro w _; go_simp; (try with_reducible rfl))
    simp only [Act.put, stB, stZ, stS]
    refine tk 20 (some 37) (v := ?_) rfl rfl ?_ ?_
    rotate_left
    · (intro w _; go_simp; (try with_reducible rfl))
    simp only [Act.put, stB, stZ, stS]
    refine wpAnyH_done (by kernel_rfl) ?_ _
    (try simp only [Exit.inBlock, Exit.then])
    clear hHeld
    go_wp2_with fail
    go_meet
    exact ⟨rfl, HB.out⟩
  case rest =>
    obtain ⟨w6, hwc⟩ : ∃ W : World, W = wc := ⟨_, rfl⟩
    subst hwc
    obtain ⟨rfl, hb6⟩ := hcut
    have HB := Lib.hid hb6
    replace u0 := (hb6.cell (p := ⟨ub, 0, none⟩) (World.block_lt_of_cell? _ _ u0)).trans u0
    replace u1 := (hb6.cell (p := ⟨ub, 1, none⟩) (World.block_lt_of_cell? _ _ u1)).trans u1
    replace u2 := (hb6.cell (p := ⟨ub, 2, none⟩) (World.block_lt_of_cell? _ _ u2)).trans u2
    clear hb6
    have l0 := (HB.out.cell (p := ⟨pb, 0, none⟩) (show pb < w5.heap.size by omega)).trans x0
    have l1 := (HB.out.cell (p := ⟨pb, 1, none⟩) (show pb < w5.heap.size by omega)).trans x1
    have l2 := (HB.out.cell (p := ⟨pb, 2, none⟩) (show pb < w5.heap.size by omega)).trans x2
    have l3 := (HB.out.cell (p := ⟨pb, 3, none⟩) (show pb < w5.heap.size by omega)).trans x3
    have l4 := (HB.out.cell (p := ⟨pb, 4, none⟩) (show pb < w5.heap.size by omega)).trans x4
    have l5 := (HB.out.cell (p := ⟨pb, 5, none⟩) (show pb < w5.heap.size by omega)).trans x5
    have m0 := (HB.out.cell (p := ⟨pb + 1, 0, none⟩) (show pb + 1 < w5.heap.size by omega)).trans y0
    have m1 := (HB.out.cell (p := ⟨pb + 1, 1, none⟩) (show pb + 1 < w5.heap.size by omega)).trans y1
    have m2 := (HB.out.cell (p := ⟨pb + 1, 2, none⟩) (show pb + 1 < w5.heap.size by omega)).trans y2
    have m3 := (HB.out.cell (p := ⟨pb + 1, 3, none⟩) (show pb + 1 < w5.heap.size by omega)).trans y3
    have m4 := (HB.out.cell (p := ⟨pb + 1, 4, none⟩) (show pb + 1 < w5.heap.size by omega)).trans y4
    have m5 := (HB.out.cell (p := ⟨pb + 1, 5, none⟩) (show pb + 1 < w5.heap.size by omega)).trans y5
    clear x0 y0 x1 y1 x2 y2 x3 y3 x4 y4 x5 y5
    cases hfit : fitsB kr kc kb kp ks kt nr nc nb np ns nt with
    | false =>
      go_wp2_with fail
      refine (fits_no kr kc kb kp ks kt nr nc nb np ns nt _ hfit).mono ?_
      rintro e w7 ⟨rfl, hb7⟩
      have HB7 := Lib.hid (HB.out.trans (hb7.mono HB.out.size))
      clear hb7
      go_wp2_with fail
      go_ret
      exact ⟨rfl, HBW.out.trans (HB7.out.mono HBW.out.size)⟩
    | true =>
      have hle := (fitsB_iff _ _ _ _ _ _ _ _ _ _ _ _).1 hfit
      go_wp2_with fail
      refine (fits_yes kr kc kb kp ks kt nr nc nb np ns nt _ hfit).mono ?_
      rintro e w7 ⟨rfl, hb7⟩
      have HB7 := Lib.hid (HB.out.trans (hb7.mono HB.out.size))
      replace l0 := (hb7.cell (p := ⟨pb, 0, none⟩) (World.block_lt_of_cell? _ _ l0)).trans l0
      replace l1 := (hb7.cell (p := ⟨pb, 1, none⟩) (World.block_lt_of_cell? _ _ l1)).trans l1
      replace l2 := (hb7.cell (p := ⟨pb, 2, none⟩) (World.block_lt_of_cell? _ _ l2)).trans l2
      replace l3 := (hb7.cell (p := ⟨pb, 3, none⟩) (World.block_lt_of_cell? _ _ l3)).trans l3
      replace l4 := (hb7.cell (p := ⟨pb, 4, none⟩) (World.block_lt_of_cell? _ _ l4)).trans l4
      replace l5 := (hb7.cell (p := ⟨pb, 5, none⟩) (World.block_lt_of_cell? _ _ l5)).trans l5
      replace m0 := (hb7.cell (p := ⟨pb + 1, 0, none⟩) (World.block_lt_of_cell? _ _ m0)).trans m0
      replace m1 := (hb7.cell (p := ⟨pb + 1, 1, none⟩) (World.block_lt_of_cell? _ _ m1)).trans m1
      replace m2 := (hb7.cell (p := ⟨pb + 1, 2, none⟩) (World.block_lt_of_cell? _ _ m2)).trans m2
      replace m3 := (hb7.cell (p := ⟨pb + 1, 3, none⟩) (World.block_lt_of_cell? _ _ m3)).trans m3
      replace m4 := (hb7.cell (p := ⟨pb + 1, 4, none⟩) (World.block_lt_of_cell? _ _ m4)).trans m4
      replace m5 := (hb7.cell (p := ⟨pb + 1, 5, none⟩) (World.block_lt_of_cell? _ _ m5)).trans m5
      replace u0 := (hb7.cell (p := ⟨ub, 0, none⟩) (World.block_lt_of_cell? _ _ u0)).trans u0
      replace u1 := (hb7.cell (p := ⟨ub, 1, none⟩) (World.block_lt_of_cell? _ _ u1)).trans u1
      replace u2 := (hb7.cell (p := ⟨ub, 2, none⟩) (World.block_lt_of_cell? _ _ u2)).trans u2
      clear hb7 hfit
      by_cases hov : kr < (ur : Int) ∨ kc < (uc : Int) ∨ kb < (uq : Int)
      · go_wp2_with fail
        refine (check_over kr kc kb kp ks kt ur uc uq _ hov).mono ?_
        rintro e w8 ⟨⟨T, u, rfl⟩, hb8⟩
        have HB8 := Lib.hid (HB7.out.trans (hb8.mono HB7.out.size))
        clear hb8
        go_wp2_with fail
        go_ret
        exact ⟨rfl, HBW.out.trans (HB8.out.mono HBW.out.size)⟩
      · go_wp2_with fail
        refine (check_none kr kc kb kp ks kt ur uc uq _ (by omega) (by omega) (by omega)).mono ?_
        rintro e w8 ⟨rfl, hb8⟩
        have HB8 := Lib.hid (HB7.out.trans (hb8.mono HB7.out.size))
        replace m0 := (hb8.cell (p := ⟨pb + 1, 0, none⟩) (World.block_lt_of_cell? _ _ m0)).trans m0
        replace m1 := (hb8.cell (p := ⟨pb + 1, 1, none⟩) (World.block_lt_of_cell? _ _ m1)).trans m1
        replace m2 := (hb8.cell (p := ⟨pb + 1, 2, none⟩) (World.block_lt_of_cell? _ _ m2)).trans m2
        replace m3 := (hb8.cell (p := ⟨pb + 1, 3, none⟩) (World.block_lt_of_cell? _ _ m3)).trans m3
        replace m4 := (hb8.cell (p := ⟨pb + 1, 4, none⟩) (World.block_lt_of_cell? _ _ m4)).trans m4
        replace m5 := (hb8.cell (p := ⟨pb + 1, 5, none⟩) (World.block_lt_of_cell? _ _ m5)).trans m5
        replace u0 := (hb8.cell (p := ⟨ub, 0, none⟩) (World.block_lt_of_cell? _ _ u0)).trans u0
        replace u1 := (hb8.cell (p := ⟨ub, 1, none⟩) (World.block_lt_of_cell? _ _ u1)).trans u1
        replace u2 := (hb8.cell (p := ⟨ub, 2, none⟩) (World.block_lt_of_cell? _ _ u2)).trans u2
        clear hb8
        go_wp2_with fail
        refine (check_none nr nc nb np ns nt ur uc uq _ (by omega) (by omega) (by omega)).mono ?_
        rintro e w9 ⟨rfl, hb9⟩
        have HB9 := Lib.hid (HB8.out.trans (hb9.mono HB8.out.size))
        clear hb9
        go_wp2_with fail
        go_ret
        exact ⟨rfl, HBW.out.trans (HB9.out.mono HBW.out.size)⟩
end Go.Proofs.YtaehklhbokocbaaGreatDoor
