/-
  The walk of the law PackSizes: what the functions answer, handed over.
  Printed by a program of this repository (wip/dg32.py).
-/
import Derived.Test.YtmhainidincjhaaGreatDoorNL
set_option linter.unusedVariables false
set_option linter.unusedSimpArgs false
namespace Go.Proofs.YtmhainidincjhaaGreatDoor
open Go.RowKit Go.Extern.Stop Go.Stop Go.Extern
set_option maxRecDepth 100000 in
set_option maxHeartbeats 8000000 in
theorem psizes_walk (sg qs : Bool) (a b : Option Addr) (n c m d qn qd : Nat) (w : World) (bn bd : Int) (tn td dn z : Nat) (z0 z1 : Bool) (hbn0 : 0 ≤ bn) (hbn1 : bn ≤ 140737488355328) (hbd0 : 0 ≤ bd) (hbd1 : bd ≤ 140737488355328) (htn : tn ≤ 140737488355328) (htd : td ≤ 140737488355328)
    (HQ1 : Hid (IntKind.i64.wrap (bn + 7) = bn + 7)) (HQ2 : Hid ((bn + 7).tdiv 8 = (tn : Int))) (HQ3 : Hid (IntKind.i64.wrap (bd + 7) = bd + 7)) (HQ4 : Hid ((bd + 7).tdiv 8 = (td : Int))) (HQ5 : Hid (IntKind.i64.wrap (tn : Int) = (tn : Int))) (HQ6 : Hid (IntKind.i64.wrap (td : Int) = (td : Int)))
    (HZZ : Hid ((z0 = true → z = 1) ∧ (z0 = false → z1 = true → z = 2 + tn) ∧ (z0 = false → z1 = false → z = 3 + tn + td))) (s1 : ByteArray) (k1 : Int)
    (HAW : Hid (∀ W, Below w.heap.size w W → Calls Tryz.prog 25 #[] W (fun e w' => e = .returned (.bool true) ∧ Below W.heap.size W w')))
    (HMK : Hid (∀ W, Below w.heap.size w W → Calls Tryz.prog 26 #[.agg #[.bool sg, .slice a n c, .slice b m d]] W (fun e w' => ∃ a8 c8 b9 d9, e = .returned (.agg #[.bool qs, .slice a8 (lenW qn) c8, .slice b9 (lenW qd) d9]) ∧ NatW w' a8 c8 qn ∧ NatW w' b9 d9 qd ∧ Below W.heap.size W w')))
    (HNU : Hid (∀ a8 c8 b9 d9 W, Calls Tryz.prog 45 #[.agg #[.bool qs, .slice a8 (lenW qn) c8, .slice b9 (lenW qd) d9]] W fun e w' => e = .returned (.agg #[.bool qs, .slice a8 (lenW qn) c8]) ∧ Below W.heap.size W w'))
    (HAB : Hid (∀ a8 c8 W, Calls Tryz.prog 46 #[.agg #[.bool qs, .slice a8 (lenW qn) c8]] W fun e w' => e = .returned (.agg #[.slice a8 (lenW qn) c8]) ∧ Below W.heap.size W w'))
    (HBN : Hid (∀ a8 c8 W, NatW W a8 c8 qn → Calls Tryz.prog 47 #[.agg #[.slice a8 (lenW qn) c8]] W fun e w' => e = .returned (.int .i64 bn) ∧ Below W.heap.size W w'))
    (HDN : Hid (∀ a8 c8 b9 d9 W, NatW W b9 d9 qd → Calls Tryz.prog 48 #[.agg #[.bool qs, .slice a8 (lenW qn) c8, .slice b9 (lenW qd) d9]] W (RetN dn W)))
    (HBD : Hid (∀ a8 c8 W, NatW W a8 c8 dn → Calls Tryz.prog 47 #[.agg #[.slice a8 (lenW dn) c8]] W fun e w' => e = .returned (.int .i64 bd) ∧ Below W.heap.size W w'))
    (HZ : Hid (∀ a8 c8 b9 d9 W, Calls Tryz.prog 44 #[.agg #[.bool qs, .slice a8 (lenW qn) c8, .slice b9 (lenW qd) d9]] W (fun e w' => e = .returned (.bool z0) ∧ Below W.heap.size W w')))
    (HI : Hid (∀ a8 c8 b9 d9 W, Calls Tryz.prog 49 #[.agg #[.bool qs, .slice a8 (lenW qn) c8, .slice b9 (lenW qd) d9]] W (fun e w' => e = .returned (.bool z1) ∧ Below W.heap.size W w')))
    (HEO : Hid (tn ≤ 255 ∧ td ≤ 255 → ∀ a8 c8 b9 d9 W, NatW W a8 c8 qn → NatW W b9 d9 qd → Calls Tryz.prog 28 #[.agg #[.bool qs, .slice a8 (lenW qn) c8, .slice b9 (lenW qd) d9]] W fun e w' => ∃ a2 c2, e = .returned (.tuple #[.slice a2 z c2, .nilIface]) ∧ Below W.heap.size W w'))
    (HEE : Hid (¬ (tn ≤ 255 ∧ td ≤ 255) → ∀ a8 c8 b9 d9 W, NatW W a8 c8 qn → NatW W b9 d9 qd → Calls Tryz.prog 28 #[.agg #[.bool qs, .slice a8 (lenW qn) c8, .slice b9 (lenW qd) d9]] W fun e w' => ∃ pb, e = .returned (.tuple #[.slice none 0 0, .iface 211 (.pointer (some ⟨pb, 0, none⟩))]) ∧ IsF w' pb s1 k1 3 ∧ Below W.heap.size W w'))
    (HIS : Hid (∀ (pb : Nat) (W : World) (s9 : ByteArray) (k9 : Int), IsF W pb s9 k9 3 → Calls Tryz.prog 39 #[.iface 211 (.pointer (some ⟨pb, 0, none⟩)), .iface 52 (.int .i64 3)] W (fun e w' => e = .returned (.bool true) ∧ Below W.heap.size W w'))) :
    Calls Tryz.prog 13 #[.agg #[.bool sg, .slice a n c, .slice b m d]] w fun e w' => e = .returned (.bool true) ∧ Below w.heap.size w w' := by
  obtain ⟨W0, hW0⟩ : ∃ W0, W0 = (w.alloc (.cells #[.bool sg, .slice a n c, .slice b m d] 26)) := ⟨_, rfl⟩
  have hbs : BS w [⟨w.heap.size, 26, [.bool sg, .slice a n c, .slice b m d]⟩] [] (w.alloc (.cells #[.bool sg, .slice a n c, .slice b m d] 26)) :=
      ((BS.start w).alloc (p := w.heap.size) rfl 26 [.bool sg, .slice a n c, .slice b m d] rfl)
  rw [← hW0] at hbs
  have HW0 := Lib.hid hW0
  have HN := Lib.hid hbs
  clear hW0 hbs
  go_enter Tryz.func13, Tryz.ntmps13
  go_wp2_with fail
  rw [← HW0.out]
  refine (HAW.out _ HN.out.bel).mono ?_
  rintro e w1 ⟨rfl, hb⟩
  replace HN := Lib.hid (HN.out.call hb)
  clear hb 
  have k00 := HN.out.cell 0 0 rfl rfl
  have f00 := HN.out.free 0 0 rfl
  have k01 := HN.out.cell 0 1 rfl rfl
  have f01 := HN.out.free 0 1 rfl
  have k02 := HN.out.cell 0 2 rfl rfl
  have f02 := HN.out.free 0 2 rfl
  go_wp2_with fail
  clear k00 f00 k01 f01 k02 f02
  refine (HMK.out _ HN.out.bel).mono ?_
  rintro e w2 ⟨a8, c8, b9, d9, rfl, hq0, hq1, hb⟩
  replace HN := Lib.hid (((HN.out.call hb).got hq0).got hq1)
  clear hb hq0 hq1
  have k00 := HN.out.cell 0 0 rfl rfl
  have f00 := HN.out.free 0 0 rfl
  have k01 := HN.out.cell 0 1 rfl rfl
  have f01 := HN.out.free 0 1 rfl
  have k02 := HN.out.cell 0 2 rfl rfl
  have f02 := HN.out.free 0 2 rfl
  have l0 := HN.out.lt 0 rfl
  have HP := Lib.hid (HN.out.alloc (p := w2.heap.size) rfl 45 [.bool qs, .slice a8 (lenW qn) c8, .slice b9 (lenW qd) d9] rfl)
  have k00p := HP.out.cell 0 0 rfl rfl
  have f00p := HP.out.free 0 0 rfl
  have k01p := HP.out.cell 0 1 rfl rfl
  have f01p := HP.out.free 0 1 rfl
  have k02p := HP.out.cell 0 2 rfl rfl
  have f02p := HP.out.free 0 2 rfl
  have k10p := HP.out.cell 1 0 rfl rfl
  have f10p := HP.out.free 1 0 rfl
  have k11p := HP.out.cell 1 1 rfl rfl
  have f11p := HP.out.free 1 1 rfl
  have k12p := HP.out.cell 1 2 rfl rfl
  have f12p := HP.out.free 1 2 rfl
  go_upto_region 4 with fail
  clear k00 f00 k01 f01 k02 f02 l0 k00p f00p k01p f01p k02p f02p k10p f10p k11p f11p k12p f12p HN
  have HN := HP
  clear HP
  generalize (w2.alloc (.cells #[.bool qs, .slice a8 (lenW qn) c8, .slice b9 (lenW qd) d9] 45)) = wa3 at HN  ⊢
  have q1 := HQ1.out
  have q2 := HQ2.out
  have q3 := HQ3.out
  have q4 := HQ4.out
  have q5 := HQ5.out
  have q6 := HQ6.out
  go_cut [4, 5] (fun v4 v5 wx => v4 = .int .i64 tn ∧ v5 = .int .i64 td ∧ BS w [⟨w.heap.size, 26, [.bool sg, .slice a n c, .slice b m d]⟩, ⟨w2.heap.size, 45, [.bool qs, .slice a8 (lenW qn) c8, .slice b9 (lenW qd) d9]⟩] [⟨a8, c8, qn⟩, ⟨b9, d9, qd⟩] wx)
  case first =>
    replace HN := Lib.hid HN.out.drew
    refine wp_region_held_drew (S := fun W => W.cell? ⟨w2.heap.size, 0, none⟩ = some (.bool qs) ∧ W.cell? ⟨w2.heap.size, 1, none⟩ = some (.slice a8 (lenW qn) c8) ∧ W.cell? ⟨w2.heap.size, 2, none⟩ = some (.slice b9 (lenW qd) d9)) (by kernel_rfl) (⟨HN.out.cell 1 0 rfl rfl, HN.out.cell 1 1 rfl rfl, HN.out.cell 1 2 rfl rfl⟩) (fun hHeld => ?_)
    generalize wa3.drew = wd at HN hHeld ⊢
    refine tk 0 (some 13) (v := ?_) rfl rfl ?_ ?_
    rotate_left
    · (intro w hSw; (try dsimp only at hSw); go_simp; (try with_reducible rfl))
    simp only [Act.put, stB, stZ, stS]
    refine tk 6 (some 19) (v := ?_) rfl rfl ?_ ?_
    rotate_left
    · (intro w hSw; (try dsimp only at hSw); go_simp; (try with_reducible rfl))
    simp only [Act.put, stB, stZ, stS]
    refine wpAnyH_ready (rs := [1]) (by kernel_rfl) (by simp) ?_
    refine (AllReadyH.cons rfl (fun K hK => ?_) AllReadyH.nil)
    go_simp
    refine (HNU.out _ _ _ _ _).mono ?_
    rintro e w4 ⟨rfl, hb⟩
    replace HN := Lib.hid (HN.out.call hb)
    clear hb 
    go_wp2_with fail
    refine hK.out _ _ (⟨HN.out.cell 1 0 rfl rfl, HN.out.cell 1 1 rfl rfl, HN.out.cell 1 2 rfl rfl⟩) (fun hHeld2 => ?_)
    clear hK K hHeld
    rename _ => hHeld
    try simp only [Act.put, stB, stZ, stS]
    refine wpAnyH_ready (rs := [2]) (by kernel_rfl) (by simp) ?_
    refine (AllReadyH.cons rfl (fun K hK => ?_) AllReadyH.nil)
    go_simp
    refine (HAB.out _ _ _).mono ?_
    rintro e w5 ⟨rfl, hb⟩
    replace HN := Lib.hid (HN.out.call hb)
    clear hb 
    go_wp2_with fail
    refine hK.out _ _ (⟨HN.out.cell 1 0 rfl rfl, HN.out.cell 1 1 rfl rfl, HN.out.cell 1 2 rfl rfl⟩) (fun hHeld2 => ?_)
    clear hK K hHeld
    rename _ => hHeld
    try simp only [Act.put, stB, stZ, stS]
    refine wpAnyH_ready (rs := [3]) (by kernel_rfl) (by simp) ?_
    refine (AllReadyH.cons rfl (fun K hK => ?_) AllReadyH.nil)
    go_simp
    refine (HBN.out _ _ _ (HN.out.nat 0 rfl)).mono ?_
    rintro e w6 ⟨rfl, hb⟩
    replace HN := Lib.hid (HN.out.call hb)
    clear hb 
    go_wp2_with fail
    refine hK.out _ _ (⟨HN.out.cell 1 0 rfl rfl, HN.out.cell 1 1 rfl rfl, HN.out.cell 1 2 rfl rfl⟩) (fun hHeld2 => ?_)
    clear hK K hHeld
    rename _ => hHeld
    try simp only [Act.put, stB, stZ, stS]
    refine tk 4 (some 17) (v := ?_) rfl rfl ?_ ?_
    rotate_left
    · (intro w _; go_simp; (try with_reducible rfl))
    simp only [Act.put, stB, stZ, stS]
    refine tk 5 (some 18) (v := ?_) rfl rfl ?_ ?_
    rotate_left
    · (intro w _; go_simp; (try with_reducible rfl))
    simp only [Act.put, stB, stZ, stS]
    refine wpAnyH_ready (rs := [7]) (by kernel_rfl) (by simp) ?_
    refine (AllReadyH.cons rfl (fun K hK => ?_) AllReadyH.nil)
    go_simp
    refine (HDN.out _ _ _ _ _ (HN.out.nat 1 rfl)).mono ?_
    rintro e w7 ⟨a7, c7, rfl, hq0, hb⟩
    replace HN := Lib.hid ((HN.out.call hb).got hq0)
    clear hb hq0
    go_wp2_with fail
    refine hK.out _ _ (⟨HN.out.cell 1 0 rfl rfl, HN.out.cell 1 1 rfl rfl, HN.out.cell 1 2 rfl rfl⟩) (fun hHeld2 => ?_)
    clear hK K hHeld
    rename _ => hHeld
    try simp only [Act.put, stB, stZ, stS]
    refine wpAnyH_ready (rs := [8]) (by kernel_rfl) (by simp) ?_
    refine (AllReadyH.cons rfl (fun K hK => ?_) AllReadyH.nil)
    go_simp
    refine (HBD.out _ _ _ (HN.out.nat 2 rfl)).mono ?_
    rintro e w8 ⟨rfl, hb⟩
    replace HN := Lib.hid (HN.out.call hb)
    clear hb 
    go_wp2_with fail
    refine hK.out _ _ (⟨HN.out.cell 1 0 rfl rfl, HN.out.cell 1 1 rfl rfl, HN.out.cell 1 2 rfl rfl⟩) (fun hHeld2 => ?_)
    clear hK K hHeld
    rename _ => hHeld
    try simp only [Act.put, stB, stZ, stS]
    refine tk 9 (some 22) (v := ?_) rfl rfl ?_ ?_
    rotate_left
    · (intro w _; go_simp; (try with_reducible rfl))
    simp only [Act.put, stB, stZ, stS]
    refine tk 10 (some 23) (v := ?_) rfl rfl ?_ ?_
    rotate_left
    · (intro w _; go_simp; (try with_reducible rfl))
    simp only [Act.put, stB, stZ, stS]
    refine tk 11 (some 4) (v := ?_) rfl rfl ?_ ?_
    rotate_left
    · (intro w _; go_simp; (try with_reducible rfl))
    simp only [Act.put, stB, stZ, stS]
    refine tk 12 (some 5) (v := ?_) rfl rfl ?_ ?_
    rotate_left
    · (intro w _; go_simp; (try with_reducible rfl))
    simp only [Act.put, stB, stZ, stS]
    refine wpAnyH_done (by kernel_rfl) ?_ _
    go_wp2_with fail
    go_meet
    exact ⟨rfl, rfl, HN.out.only (List.Sublist.refl _) (fun z hz => by
      simp only [List.mem_cons, List.not_mem_nil, or_false] at hz
      rcases hz with rfl | rfl <;> simp)⟩
  case rest =>
    obtain ⟨w4, rfl⟩ : ∃ w4 : World, w4 = wc := ⟨_, rfl⟩
    obtain ⟨rfl, rfl, hn0⟩ := hcut
    have HN := Lib.hid hn0
    clear hn0
    have k00 := HN.out.cell 0 0 rfl rfl
    have f00 := HN.out.free 0 0 rfl
    have k01 := HN.out.cell 0 1 rfl rfl
    have f01 := HN.out.free 0 1 rfl
    have k02 := HN.out.cell 0 2 rfl rfl
    have f02 := HN.out.free 0 2 rfl
    have k10 := HN.out.cell 1 0 rfl rfl
    have f10 := HN.out.free 1 0 rfl
    have k11 := HN.out.cell 1 1 rfl rfl
    have f11 := HN.out.free 1 1 rfl
    have k12 := HN.out.cell 1 2 rfl rfl
    have f12 := HN.out.free 1 2 rfl
    go_wp2_with fail
    clear k00 f00 k01 f01 k02 f02 k10 f10 k11 f11 k12 f12
    refine (HZ.out _ _ _ _ _).mono ?_
    rintro e w5 ⟨rfl, hb⟩
    replace HN := Lib.hid (HN.out.call hb)
    clear hb 
    cases z0 with
    | true =>
      obtain rfl : z = 1 := HZZ.out.1 (by simp)
      clear HZZ
      by_cases h1 : 255 < tn
      ·
        have k00 := HN.out.cell 0 0 rfl rfl
        have f00 := HN.out.free 0 0 rfl
        have k01 := HN.out.cell 0 1 rfl rfl
        have f01 := HN.out.free 0 1 rfl
        have k02 := HN.out.cell 0 2 rfl rfl
        have f02 := HN.out.free 0 2 rfl
        have k10 := HN.out.cell 1 0 rfl rfl
        have f10 := HN.out.free 1 0 rfl
        have k11 := HN.out.cell 1 1 rfl rfl
        have f11 := HN.out.free 1 1 rfl
        have k12 := HN.out.cell 1 2 rfl rfl
        have f12 := HN.out.free 1 2 rfl
        go_wp2_with fail
        clear k00 f00 k01 f01 k02 f02 k10 f10 k11 f11 k12 f12
        refine (HEE.out (by omega) _ _ _ _ _ (HN.out.nat 0 rfl) (HN.out.nat 1 rfl)).mono ?_
        rintro e w6 ⟨pb, rfl, hf, hb⟩
        replace HN := Lib.hid (HN.out.call hb)
        have HF1 := Lib.hid hf
        clear hb hf
        have k00 := HN.out.cell 0 0 rfl rfl
        have f00 := HN.out.free 0 0 rfl
        have k01 := HN.out.cell 0 1 rfl rfl
        have f01 := HN.out.free 0 1 rfl
        have k02 := HN.out.cell 0 2 rfl rfl
        have f02 := HN.out.free 0 2 rfl
        have k10 := HN.out.cell 1 0 rfl rfl
        have f10 := HN.out.free 1 0 rfl
        have k11 := HN.out.cell 1 1 rfl rfl
        have f11 := HN.out.free 1 1 rfl
        have k12 := HN.out.cell 1 2 rfl rfl
        have f12 := HN.out.free 1 2 rfl
        go_wp2_with fail
        clear k00 f00 k01 f01 k02 f02 k10 f10 k11 f11 k12 f12
        refine (HIS.out _ _ _ _ HF1.out).mono ?_
        rintro e w7 ⟨rfl, hb⟩
        replace HF1 := Lib.hid (show IsF w7 pb s1 k1 3 from HF1.out.below hb HF1.out.lt)
        replace HN := Lib.hid (HN.out.call hb)
        clear hb 
        have k00 := HN.out.cell 0 0 rfl rfl
        have f00 := HN.out.free 0 0 rfl
        have k01 := HN.out.cell 0 1 rfl rfl
        have f01 := HN.out.free 0 1 rfl
        have k02 := HN.out.cell 0 2 rfl rfl
        have f02 := HN.out.free 0 2 rfl
        have k10 := HN.out.cell 1 0 rfl rfl
        have f10 := HN.out.free 1 0 rfl
        have k11 := HN.out.cell 1 1 rfl rfl
        have f11 := HN.out.free 1 1 rfl
        have k12 := HN.out.cell 1 2 rfl rfl
        have f12 := HN.out.free 1 2 rfl
        have HE := Lib.hid (HN.out)
        go_wp2_with fail
        refine bodyPost_ret (v := .bool true) (by simp [results, Tryz.results13, go_sem, k00, k01, k02, k10, k11, k12]) rfl ?_
        exact ⟨rfl, HE.out.bel⟩
      by_cases h2 : 255 < td
      ·
        have k00 := HN.out.cell 0 0 rfl rfl
        have f00 := HN.out.free 0 0 rfl
        have k01 := HN.out.cell 0 1 rfl rfl
        have f01 := HN.out.free 0 1 rfl
        have k02 := HN.out.cell 0 2 rfl rfl
        have f02 := HN.out.free 0 2 rfl
        have k10 := HN.out.cell 1 0 rfl rfl
        have f10 := HN.out.free 1 0 rfl
        have k11 := HN.out.cell 1 1 rfl rfl
        have f11 := HN.out.free 1 1 rfl
        have k12 := HN.out.cell 1 2 rfl rfl
        have f12 := HN.out.free 1 2 rfl
        go_wp2_with fail
        clear k00 f00 k01 f01 k02 f02 k10 f10 k11 f11 k12 f12
        refine (HEE.out (by omega) _ _ _ _ _ (HN.out.nat 0 rfl) (HN.out.nat 1 rfl)).mono ?_
        rintro e w6 ⟨pb, rfl, hf, hb⟩
        replace HN := Lib.hid (HN.out.call hb)
        have HF1 := Lib.hid hf
        clear hb hf
        have k00 := HN.out.cell 0 0 rfl rfl
        have f00 := HN.out.free 0 0 rfl
        have k01 := HN.out.cell 0 1 rfl rfl
        have f01 := HN.out.free 0 1 rfl
        have k02 := HN.out.cell 0 2 rfl rfl
        have f02 := HN.out.free 0 2 rfl
        have k10 := HN.out.cell 1 0 rfl rfl
        have f10 := HN.out.free 1 0 rfl
        have k11 := HN.out.cell 1 1 rfl rfl
        have f11 := HN.out.free 1 1 rfl
        have k12 := HN.out.cell 1 2 rfl rfl
        have f12 := HN.out.free 1 2 rfl
        go_wp2_with fail
        clear k00 f00 k01 f01 k02 f02 k10 f10 k11 f11 k12 f12
        refine (HIS.out _ _ _ _ HF1.out).mono ?_
        rintro e w7 ⟨rfl, hb⟩
        replace HF1 := Lib.hid (show IsF w7 pb s1 k1 3 from HF1.out.below hb HF1.out.lt)
        replace HN := Lib.hid (HN.out.call hb)
        clear hb 
        have k00 := HN.out.cell 0 0 rfl rfl
        have f00 := HN.out.free 0 0 rfl
        have k01 := HN.out.cell 0 1 rfl rfl
        have f01 := HN.out.free 0 1 rfl
        have k02 := HN.out.cell 0 2 rfl rfl
        have f02 := HN.out.free 0 2 rfl
        have k10 := HN.out.cell 1 0 rfl rfl
        have f10 := HN.out.free 1 0 rfl
        have k11 := HN.out.cell 1 1 rfl rfl
        have f11 := HN.out.free 1 1 rfl
        have k12 := HN.out.cell 1 2 rfl rfl
        have f12 := HN.out.free 1 2 rfl
        have HE := Lib.hid (HN.out)
        go_wp2_with fail
        refine bodyPost_ret (v := .bool true) (by simp [results, Tryz.results13, go_sem, k00, k01, k02, k10, k11, k12]) rfl ?_
        exact ⟨rfl, HE.out.bel⟩
      ·
        have k00 := HN.out.cell 0 0 rfl rfl
        have f00 := HN.out.free 0 0 rfl
        have k01 := HN.out.cell 0 1 rfl rfl
        have f01 := HN.out.free 0 1 rfl
        have k02 := HN.out.cell 0 2 rfl rfl
        have f02 := HN.out.free 0 2 rfl
        have k10 := HN.out.cell 1 0 rfl rfl
        have f10 := HN.out.free 1 0 rfl
        have k11 := HN.out.cell 1 1 rfl rfl
        have f11 := HN.out.free 1 1 rfl
        have k12 := HN.out.cell 1 2 rfl rfl
        have f12 := HN.out.free 1 2 rfl
        go_wp2_with fail
        clear k00 f00 k01 f01 k02 f02 k10 f10 k11 f11 k12 f12
        refine (HEO.out ⟨by omega, by omega⟩ _ _ _ _ _ (HN.out.nat 0 rfl) (HN.out.nat 1 rfl)).mono ?_
        rintro e w6 ⟨a2, c2, rfl, hb⟩
        replace HN := Lib.hid (HN.out.call hb)
        clear hb 
        have k00 := HN.out.cell 0 0 rfl rfl
        have f00 := HN.out.free 0 0 rfl
        have k01 := HN.out.cell 0 1 rfl rfl
        have f01 := HN.out.free 0 1 rfl
        have k02 := HN.out.cell 0 2 rfl rfl
        have f02 := HN.out.free 0 2 rfl
        have k10 := HN.out.cell 1 0 rfl rfl
        have f10 := HN.out.free 1 0 rfl
        have k11 := HN.out.cell 1 1 rfl rfl
        have f11 := HN.out.free 1 1 rfl
        have k12 := HN.out.cell 1 2 rfl rfl
        have f12 := HN.out.free 1 2 rfl
        have HE := Lib.hid (HN.out)
        go_wp2_with fail
        refine bodyPost_ret (v := .bool true) (by simp [results, Tryz.results13, go_sem, k00, k01, k02, k10, k11, k12]) rfl ?_
        exact ⟨rfl, HE.out.bel⟩
    | false =>
      have k00 := HN.out.cell 0 0 rfl rfl
      have f00 := HN.out.free 0 0 rfl
      have k01 := HN.out.cell 0 1 rfl rfl
      have f01 := HN.out.free 0 1 rfl
      have k02 := HN.out.cell 0 2 rfl rfl
      have f02 := HN.out.free 0 2 rfl
      have k10 := HN.out.cell 1 0 rfl rfl
      have f10 := HN.out.free 1 0 rfl
      have k11 := HN.out.cell 1 1 rfl rfl
      have f11 := HN.out.free 1 1 rfl
      have k12 := HN.out.cell 1 2 rfl rfl
      have f12 := HN.out.free 1 2 rfl
      go_wp2_with fail
      clear k00 f00 k01 f01 k02 f02 k10 f10 k11 f11 k12 f12
      refine (HI.out _ _ _ _ _).mono ?_
      rintro e w6 ⟨rfl, hb⟩
      replace HN := Lib.hid (HN.out.call hb)
      clear hb 
      cases z1 with
      | true =>
        obtain rfl : z = 2 + tn := HZZ.out.2.1 (by simp) (by simp)
        clear HZZ
        by_cases h1 : 255 < tn
        ·
          have k00 := HN.out.cell 0 0 rfl rfl
          have f00 := HN.out.free 0 0 rfl
          have k01 := HN.out.cell 0 1 rfl rfl
          have f01 := HN.out.free 0 1 rfl
          have k02 := HN.out.cell 0 2 rfl rfl
          have f02 := HN.out.free 0 2 rfl
          have k10 := HN.out.cell 1 0 rfl rfl
          have f10 := HN.out.free 1 0 rfl
          have k11 := HN.out.cell 1 1 rfl rfl
          have f11 := HN.out.free 1 1 rfl
          have k12 := HN.out.cell 1 2 rfl rfl
          have f12 := HN.out.free 1 2 rfl
          go_wp2_with fail
          clear k00 f00 k01 f01 k02 f02 k10 f10 k11 f11 k12 f12
          refine (HEE.out (by omega) _ _ _ _ _ (HN.out.nat 0 rfl) (HN.out.nat 1 rfl)).mono ?_
          rintro e w7 ⟨pb, rfl, hf, hb⟩
          replace HN := Lib.hid (HN.out.call hb)
          have HF1 := Lib.hid hf
          clear hb hf
          have k00 := HN.out.cell 0 0 rfl rfl
          have f00 := HN.out.free 0 0 rfl
          have k01 := HN.out.cell 0 1 rfl rfl
          have f01 := HN.out.free 0 1 rfl
          have k02 := HN.out.cell 0 2 rfl rfl
          have f02 := HN.out.free 0 2 rfl
          have k10 := HN.out.cell 1 0 rfl rfl
          have f10 := HN.out.free 1 0 rfl
          have k11 := HN.out.cell 1 1 rfl rfl
          have f11 := HN.out.free 1 1 rfl
          have k12 := HN.out.cell 1 2 rfl rfl
          have f12 := HN.out.free 1 2 rfl
          go_wp2_with fail
          clear k00 f00 k01 f01 k02 f02 k10 f10 k11 f11 k12 f12
          refine (HIS.out _ _ _ _ HF1.out).mono ?_
          rintro e w8 ⟨rfl, hb⟩
          replace HF1 := Lib.hid (show IsF w8 pb s1 k1 3 from HF1.out.below hb HF1.out.lt)
          replace HN := Lib.hid (HN.out.call hb)
          clear hb 
          have k00 := HN.out.cell 0 0 rfl rfl
          have f00 := HN.out.free 0 0 rfl
          have k01 := HN.out.cell 0 1 rfl rfl
          have f01 := HN.out.free 0 1 rfl
          have k02 := HN.out.cell 0 2 rfl rfl
          have f02 := HN.out.free 0 2 rfl
          have k10 := HN.out.cell 1 0 rfl rfl
          have f10 := HN.out.free 1 0 rfl
          have k11 := HN.out.cell 1 1 rfl rfl
          have f11 := HN.out.free 1 1 rfl
          have k12 := HN.out.cell 1 2 rfl rfl
          have f12 := HN.out.free 1 2 rfl
          have HE := Lib.hid (HN.out)
          go_wp2_with fail
          refine bodyPost_ret (v := .bool true) (by simp [results, Tryz.results13, go_sem, k00, k01, k02, k10, k11, k12]) rfl ?_
          exact ⟨rfl, HE.out.bel⟩
        by_cases h2 : 255 < td
        ·
          have k00 := HN.out.cell 0 0 rfl rfl
          have f00 := HN.out.free 0 0 rfl
          have k01 := HN.out.cell 0 1 rfl rfl
          have f01 := HN.out.free 0 1 rfl
          have k02 := HN.out.cell 0 2 rfl rfl
          have f02 := HN.out.free 0 2 rfl
          have k10 := HN.out.cell 1 0 rfl rfl
          have f10 := HN.out.free 1 0 rfl
          have k11 := HN.out.cell 1 1 rfl rfl
          have f11 := HN.out.free 1 1 rfl
          have k12 := HN.out.cell 1 2 rfl rfl
          have f12 := HN.out.free 1 2 rfl
          go_wp2_with fail
          clear k00 f00 k01 f01 k02 f02 k10 f10 k11 f11 k12 f12
          refine (HEE.out (by omega) _ _ _ _ _ (HN.out.nat 0 rfl) (HN.out.nat 1 rfl)).mono ?_
          rintro e w7 ⟨pb, rfl, hf, hb⟩
          replace HN := Lib.hid (HN.out.call hb)
          have HF1 := Lib.hid hf
          clear hb hf
          have k00 := HN.out.cell 0 0 rfl rfl
          have f00 := HN.out.free 0 0 rfl
          have k01 := HN.out.cell 0 1 rfl rfl
          have f01 := HN.out.free 0 1 rfl
          have k02 := HN.out.cell 0 2 rfl rfl
          have f02 := HN.out.free 0 2 rfl
          have k10 := HN.out.cell 1 0 rfl rfl
          have f10 := HN.out.free 1 0 rfl
          have k11 := HN.out.cell 1 1 rfl rfl
          have f11 := HN.out.free 1 1 rfl
          have k12 := HN.out.cell 1 2 rfl rfl
          have f12 := HN.out.free 1 2 rfl
          go_wp2_with fail
          clear k00 f00 k01 f01 k02 f02 k10 f10 k11 f11 k12 f12
          refine (HIS.out _ _ _ _ HF1.out).mono ?_
          rintro e w8 ⟨rfl, hb⟩
          replace HF1 := Lib.hid (show IsF w8 pb s1 k1 3 from HF1.out.below hb HF1.out.lt)
          replace HN := Lib.hid (HN.out.call hb)
          clear hb 
          have k00 := HN.out.cell 0 0 rfl rfl
          have f00 := HN.out.free 0 0 rfl
          have k01 := HN.out.cell 0 1 rfl rfl
          have f01 := HN.out.free 0 1 rfl
          have k02 := HN.out.cell 0 2 rfl rfl
          have f02 := HN.out.free 0 2 rfl
          have k10 := HN.out.cell 1 0 rfl rfl
          have f10 := HN.out.free 1 0 rfl
          have k11 := HN.out.cell 1 1 rfl rfl
          have f11 := HN.out.free 1 1 rfl
          have k12 := HN.out.cell 1 2 rfl rfl
          have f12 := HN.out.free 1 2 rfl
          have HE := Lib.hid (HN.out)
          go_wp2_with fail
          refine bodyPost_ret (v := .bool true) (by simp [results, Tryz.results13, go_sem, k00, k01, k02, k10, k11, k12]) rfl ?_
          exact ⟨rfl, HE.out.bel⟩
        ·
          have k00 := HN.out.cell 0 0 rfl rfl
          have f00 := HN.out.free 0 0 rfl
          have k01 := HN.out.cell 0 1 rfl rfl
          have f01 := HN.out.free 0 1 rfl
          have k02 := HN.out.cell 0 2 rfl rfl
          have f02 := HN.out.free 0 2 rfl
          have k10 := HN.out.cell 1 0 rfl rfl
          have f10 := HN.out.free 1 0 rfl
          have k11 := HN.out.cell 1 1 rfl rfl
          have f11 := HN.out.free 1 1 rfl
          have k12 := HN.out.cell 1 2 rfl rfl
          have f12 := HN.out.free 1 2 rfl
          go_wp2_with fail
          clear k00 f00 k01 f01 k02 f02 k10 f10 k11 f11 k12 f12
          refine (HEO.out ⟨by omega, by omega⟩ _ _ _ _ _ (HN.out.nat 0 rfl) (HN.out.nat 1 rfl)).mono ?_
          rintro e w7 ⟨a2, c2, rfl, hb⟩
          replace HN := Lib.hid (HN.out.call hb)
          clear hb 
          have k00 := HN.out.cell 0 0 rfl rfl
          have f00 := HN.out.free 0 0 rfl
          have k01 := HN.out.cell 0 1 rfl rfl
          have f01 := HN.out.free 0 1 rfl
          have k02 := HN.out.cell 0 2 rfl rfl
          have f02 := HN.out.free 0 2 rfl
          have k10 := HN.out.cell 1 0 rfl rfl
          have f10 := HN.out.free 1 0 rfl
          have k11 := HN.out.cell 1 1 rfl rfl
          have f11 := HN.out.free 1 1 rfl
          have k12 := HN.out.cell 1 2 rfl rfl
          have f12 := HN.out.free 1 2 rfl
          have HE := Lib.hid (HN.out)
          go_wp2_with fail
          refine bodyPost_ret (v := .bool true) (by simp [results, Tryz.results13, go_sem, k00, k01, k02, k10, k11, k12]) rfl ?_
          exact ⟨rfl, HE.out.bel⟩
      | false =>
        obtain rfl : z = 3 + tn + td := HZZ.out.2.2 (by simp) (by simp)
        clear HZZ
        by_cases h1 : 255 < tn
        ·
          have k00 := HN.out.cell 0 0 rfl rfl
          have f00 := HN.out.free 0 0 rfl
          have k01 := HN.out.cell 0 1 rfl rfl
          have f01 := HN.out.free 0 1 rfl
          have k02 := HN.out.cell 0 2 rfl rfl
          have f02 := HN.out.free 0 2 rfl
          have k10 := HN.out.cell 1 0 rfl rfl
          have f10 := HN.out.free 1 0 rfl
          have k11 := HN.out.cell 1 1 rfl rfl
          have f11 := HN.out.free 1 1 rfl
          have k12 := HN.out.cell 1 2 rfl rfl
          have f12 := HN.out.free 1 2 rfl
          go_wp2_with fail
          clear k00 f00 k01 f01 k02 f02 k10 f10 k11 f11 k12 f12
          refine (HEE.out (by omega) _ _ _ _ _ (HN.out.nat 0 rfl) (HN.out.nat 1 rfl)).mono ?_
          rintro e w7 ⟨pb, rfl, hf, hb⟩
          replace HN := Lib.hid (HN.out.call hb)
          have HF1 := Lib.hid hf
          clear hb hf
          have k00 := HN.out.cell 0 0 rfl rfl
          have f00 := HN.out.free 0 0 rfl
          have k01 := HN.out.cell 0 1 rfl rfl
          have f01 := HN.out.free 0 1 rfl
          have k02 := HN.out.cell 0 2 rfl rfl
          have f02 := HN.out.free 0 2 rfl
          have k10 := HN.out.cell 1 0 rfl rfl
          have f10 := HN.out.free 1 0 rfl
          have k11 := HN.out.cell 1 1 rfl rfl
          have f11 := HN.out.free 1 1 rfl
          have k12 := HN.out.cell 1 2 rfl rfl
          have f12 := HN.out.free 1 2 rfl
          go_wp2_with fail
          clear k00 f00 k01 f01 k02 f02 k10 f10 k11 f11 k12 f12
          refine (HIS.out _ _ _ _ HF1.out).mono ?_
          rintro e w8 ⟨rfl, hb⟩
          replace HF1 := Lib.hid (show IsF w8 pb s1 k1 3 from HF1.out.below hb HF1.out.lt)
          replace HN := Lib.hid (HN.out.call hb)
          clear hb 
          have k00 := HN.out.cell 0 0 rfl rfl
          have f00 := HN.out.free 0 0 rfl
          have k01 := HN.out.cell 0 1 rfl rfl
          have f01 := HN.out.free 0 1 rfl
          have k02 := HN.out.cell 0 2 rfl rfl
          have f02 := HN.out.free 0 2 rfl
          have k10 := HN.out.cell 1 0 rfl rfl
          have f10 := HN.out.free 1 0 rfl
          have k11 := HN.out.cell 1 1 rfl rfl
          have f11 := HN.out.free 1 1 rfl
          have k12 := HN.out.cell 1 2 rfl rfl
          have f12 := HN.out.free 1 2 rfl
          have HE := Lib.hid (HN.out)
          go_wp2_with fail
          refine bodyPost_ret (v := .bool true) (by simp [results, Tryz.results13, go_sem, k00, k01, k02, k10, k11, k12]) rfl ?_
          exact ⟨rfl, HE.out.bel⟩
        by_cases h2 : 255 < td
        ·
          have k00 := HN.out.cell 0 0 rfl rfl
          have f00 := HN.out.free 0 0 rfl
          have k01 := HN.out.cell 0 1 rfl rfl
          have f01 := HN.out.free 0 1 rfl
          have k02 := HN.out.cell 0 2 rfl rfl
          have f02 := HN.out.free 0 2 rfl
          have k10 := HN.out.cell 1 0 rfl rfl
          have f10 := HN.out.free 1 0 rfl
          have k11 := HN.out.cell 1 1 rfl rfl
          have f11 := HN.out.free 1 1 rfl
          have k12 := HN.out.cell 1 2 rfl rfl
          have f12 := HN.out.free 1 2 rfl
          go_wp2_with fail
          clear k00 f00 k01 f01 k02 f02 k10 f10 k11 f11 k12 f12
          refine (HEE.out (by omega) _ _ _ _ _ (HN.out.nat 0 rfl) (HN.out.nat 1 rfl)).mono ?_
          rintro e w7 ⟨pb, rfl, hf, hb⟩
          replace HN := Lib.hid (HN.out.call hb)
          have HF1 := Lib.hid hf
          clear hb hf
          have k00 := HN.out.cell 0 0 rfl rfl
          have f00 := HN.out.free 0 0 rfl
          have k01 := HN.out.cell 0 1 rfl rfl
          have f01 := HN.out.free 0 1 rfl
          have k02 := HN.out.cell 0 2 rfl rfl
          have f02 := HN.out.free 0 2 rfl
          have k10 := HN.out.cell 1 0 rfl rfl
          have f10 := HN.out.free 1 0 rfl
          have k11 := HN.out.cell 1 1 rfl rfl
          have f11 := HN.out.free 1 1 rfl
          have k12 := HN.out.cell 1 2 rfl rfl
          have f12 := HN.out.free 1 2 rfl
          go_wp2_with fail
          clear k00 f00 k01 f01 k02 f02 k10 f10 k11 f11 k12 f12
          refine (HIS.out _ _ _ _ HF1.out).mono ?_
          rintro e w8 ⟨rfl, hb⟩
          replace HF1 := Lib.hid (show IsF w8 pb s1 k1 3 from HF1.out.below hb HF1.out.lt)
          replace HN := Lib.hid (HN.out.call hb)
          clear hb 
          have k00 := HN.out.cell 0 0 rfl rfl
          have f00 := HN.out.free 0 0 rfl
          have k01 := HN.out.cell 0 1 rfl rfl
          have f01 := HN.out.free 0 1 rfl
          have k02 := HN.out.cell 0 2 rfl rfl
          have f02 := HN.out.free 0 2 rfl
          have k10 := HN.out.cell 1 0 rfl rfl
          have f10 := HN.out.free 1 0 rfl
          have k11 := HN.out.cell 1 1 rfl rfl
          have f11 := HN.out.free 1 1 rfl
          have k12 := HN.out.cell 1 2 rfl rfl
          have f12 := HN.out.free 1 2 rfl
          have HE := Lib.hid (HN.out)
          go_wp2_with fail
          refine bodyPost_ret (v := .bool true) (by simp [results, Tryz.results13, go_sem, k00, k01, k02, k10, k11, k12]) rfl ?_
          exact ⟨rfl, HE.out.bel⟩
        ·
          have k00 := HN.out.cell 0 0 rfl rfl
          have f00 := HN.out.free 0 0 rfl
          have k01 := HN.out.cell 0 1 rfl rfl
          have f01 := HN.out.free 0 1 rfl
          have k02 := HN.out.cell 0 2 rfl rfl
          have f02 := HN.out.free 0 2 rfl
          have k10 := HN.out.cell 1 0 rfl rfl
          have f10 := HN.out.free 1 0 rfl
          have k11 := HN.out.cell 1 1 rfl rfl
          have f11 := HN.out.free 1 1 rfl
          have k12 := HN.out.cell 1 2 rfl rfl
          have f12 := HN.out.free 1 2 rfl
          go_wp2_with fail
          clear k00 f00 k01 f01 k02 f02 k10 f10 k11 f11 k12 f12
          refine (HEO.out ⟨by omega, by omega⟩ _ _ _ _ _ (HN.out.nat 0 rfl) (HN.out.nat 1 rfl)).mono ?_
          rintro e w7 ⟨a2, c2, rfl, hb⟩
          replace HN := Lib.hid (HN.out.call hb)
          clear hb 
          have k00 := HN.out.cell 0 0 rfl rfl
          have f00 := HN.out.free 0 0 rfl
          have k01 := HN.out.cell 0 1 rfl rfl
          have f01 := HN.out.free 0 1 rfl
          have k02 := HN.out.cell 0 2 rfl rfl
          have f02 := HN.out.free 0 2 rfl
          have k10 := HN.out.cell 1 0 rfl rfl
          have f10 := HN.out.free 1 0 rfl
          have k11 := HN.out.cell 1 1 rfl rfl
          have f11 := HN.out.free 1 1 rfl
          have k12 := HN.out.cell 1 2 rfl rfl
          have f12 := HN.out.free 1 2 rfl
          have HE := Lib.hid (HN.out)
          go_wp2_with fail
          refine bodyPost_ret (v := .bool true) (by simp [results, Tryz.results13, go_sem, k00, k01, k02, k10, k11, k12]) rfl ?_
          exact ⟨rfl, HE.out.bel⟩
end Go.Proofs.YtmhainidincjhaaGreatDoor
