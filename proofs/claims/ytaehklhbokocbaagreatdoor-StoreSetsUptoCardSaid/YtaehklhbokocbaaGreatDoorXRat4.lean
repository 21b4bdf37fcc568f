/-
  Add of rat by contract; the conditions: MulUpto, DivUpto.
  Printed by a program of this repository (wip/rat3.py).
-/
import Derived.Test.YtaehklhbokocbaaGreatDoorXB
set_option linter.unusedVariables false
set_option linter.unusedSimpArgs false
namespace Go.Proofs.YtaehklhbokocbaaGreatDoor
open Go.RowKit Go.Extern.Stop Go.Stop Go.Extern
theorem lenW_mulI (x y : Int) : lenW (x * y).natAbs ≤ lenW x.natAbs + lenW y.natAbs := by rw [Int.natAbs_mul]; exact lenW_mul _ _
set_option maxRecDepth 100000 in
set_option maxHeartbeats 16000000 in
theorem radd_any {K K2 L : Nat} (hK : MulUpto K) (hKs : K ≤ 17592186044416) (hKL : L ≤ K2) (hD : DivUpto K2 L) (p q : Rat) (a b e f : Option Addr) (c d i g : Nat) (w : World) (ha : NatW w a c p.num.natAbs) (hb : NatW w b d (denN p.den)) (he : NatW w e i q.num.natAbs) (hf : NatW w f g (denN q.den)) (h1 : lenW p.num.natAbs + lenW (q.den : Int).natAbs ≤ K) (h2 : lenW q.num.natAbs + lenW (p.den : Int).natAbs ≤ K) (h3 : lenW p.den + lenW q.den ≤ K) (h4 : lenW (p.num * (q.den : Int) + q.num * (p.den : Int)).natAbs ≤ K2) (h5 : lenW ((p.den * q.den : Nat) : Int).natAbs ≤ L) : Calls Tryz.prog 35 #[ratV a c b d p, ratV e i f g q] w (RetR (p + q) w) := by
  have hBq := fun (W : World) (h : NatW W f g (denN q.den)) => rbelow_any (decide (q.num < 0)) e f (lenW q.num.natAbs) i g q W h
  have hBp := fun (W : World) (h : NatW W b d (denN p.den)) => rbelow_any (decide (p.num < 0)) a b (lenW p.num.natAbs) c d p W h
  have hM1 := fun (a2 : Option Addr) (c2 : Nat) (W : World) (q1 : NatW W a c p.num.natAbs) (q2 : NatW W a2 c2 (q.den : Int).natAbs) => imul_any hK p.num (q.den : Int) a a2 c c2 W q1 q2 h1
  have hM2 := fun (a2 : Option Addr) (c2 : Nat) (W : World) (q1 : NatW W e i q.num.natAbs) (q2 : NatW W a2 c2 (p.den : Int).natAbs) => imul_any hK q.num (p.den : Int) e a2 i c2 W q1 q2 h2
  have hI1 := Nat.le_trans (lenW_mulI p.num (q.den : Int)) (Nat.le_trans h1 hKs)
  have hI2 := Nat.le_trans (lenW_mulI q.num (p.den : Int)) (Nat.le_trans h2 hKs)
  have hA := fun (a2 a3 : Option Addr) (c2 c3 : Nat) (W : World) (q1 : NatW W a2 c2 (p.num * (q.den : Int)).natAbs) (q2 : NatW W a3 c3 (q.num * (p.den : Int)).natAbs) => iadd_any (p.num * (q.den : Int)) (q.num * (p.den : Int)) a2 a3 c2 c3 W q1 q2 hI1 hI2
  have hDp := fun (W : World) (h : NatW W b d (denN p.den)) => den_any (decide (p.num < 0)) a b (lenW p.num.natAbs) c d p W h
  have hDq := fun (W : World) (h : NatW W f g (denN q.den)) => den_any (decide (q.num < 0)) e f (lenW q.num.natAbs) i g q W h
  have hPM := fun (a2 a3 : Option Addr) (c2 c3 : Nat) (W : World) (q1 : NatW W a2 c2 p.den) (q2 : NatW W a3 c3 q.den) => hK a2 a3 c2 c3 p.den q.den W q1 q2 h3
  have hNI := fun (a2 : Option Addr) (c2 : Nat) (W : World) (q1 : NatW W a2 c2 (p.den * q.den)) => newI_false (p.den * q.den) ▸ inew_any false a2 c2 (p.den * q.den) W q1
  have hRN := fun (a2 a3 : Option Addr) (c2 c3 : Nat) (W : World) (q1 : NatW W a2 c2 (p.num * (q.den : Int) + q.num * (p.den : Int)).natAbs) (q2 : NatW W a3 c3 ((p.den * q.den : Nat) : Int).natAbs) => rnew_any hKL hD (p.num * (q.den : Int) + q.num * (p.den : Int)) ((p.den * q.den : Nat) : Int) a2 a3 c2 c3 W q1 q2 h4 h5 (by have := Nat.mul_ne_zero p.den_nz q.den_nz; omega)
  rw [rat_add p q] at hRN
  obtain ⟨r, hr⟩ : ∃ r, p + q = r := ⟨_, rfl⟩
  rw [hr] at hRN
  rw [hr]
  obtain ⟨u, hu⟩ : ∃ u, p.num * (q.den : Int) + q.num * (p.den : Int) = u := ⟨_, rfl⟩
  rw [hu] at hRN hA
  obtain ⟨v, hv⟩ : ∃ v, p.den * q.den = v := ⟨_, rfl⟩
  rw [hv] at hPM hNI hRN
  obtain ⟨sp, hsp⟩ : ∃ s, decide (p.num < 0) = s := ⟨_, rfl⟩
  obtain ⟨mp, hmp⟩ : ∃ m, p.num.natAbs = m := ⟨_, rfl⟩
  obtain ⟨sq, hsq⟩ : ∃ s, decide (q.num < 0) = s := ⟨_, rfl⟩
  obtain ⟨mq, hmq⟩ : ∃ m, q.num.natAbs = m := ⟨_, rfl⟩
  obtain ⟨bp, hbp⟩ : ∃ s, decide ((p.den : Int) < 0) = s := ⟨_, rfl⟩
  obtain ⟨np, hnp⟩ : ∃ m, (p.den : Int).natAbs = m := ⟨_, rfl⟩
  obtain ⟨bq, hbq⟩ : ∃ s, decide ((q.den : Int) < 0) = s := ⟨_, rfl⟩
  obtain ⟨nq, hnq⟩ : ∃ m, (q.den : Int).natAbs = m := ⟨_, rfl⟩
  obtain ⟨dp, hdp⟩ : ∃ m, denN p.den = m := ⟨_, rfl⟩
  obtain ⟨dq, hdq⟩ : ∃ m, denN q.den = m := ⟨_, rfl⟩
  obtain ⟨x, hx⟩ : ∃ x, p.num * (q.den : Int) = x := ⟨_, rfl⟩
  obtain ⟨y, hy⟩ : ∃ y, q.num * (p.den : Int) = y := ⟨_, rfl⟩
  obtain ⟨sx, hsx⟩ : ∃ s, decide (x < 0) = s := ⟨_, rfl⟩
  obtain ⟨mx, hmx⟩ : ∃ m, x.natAbs = m := ⟨_, rfl⟩
  obtain ⟨sy, hsy⟩ : ∃ s, decide (y < 0) = s := ⟨_, rfl⟩
  obtain ⟨my, hmy⟩ : ∃ m, y.natAbs = m := ⟨_, rfl⟩
  unfold RetI at hBq hBp hM1 hM2
  rw [hsq, hmq, hdq, hbq, hnq] at hBq
  rw [hsp, hmp, hdp, hbp, hnp] at hBp
  rw [hx, hsx, hmx, hsp, hmp, hbq, hnq] at hM1
  rw [hy, hsy, hmy, hsq, hmq, hbp, hnp] at hM2
  rw [hmp] at ha
  rw [hdp] at hb
  rw [hmq] at he
  rw [hdq] at hf
  have HBq := Lib.hid hBq
  have HBp := Lib.hid hBp
  have HM1 := Lib.hid hM1
  have HM2 := Lib.hid hM2
  obtain ⟨su, hsu⟩ : ∃ s, decide (u < 0) = s := ⟨_, rfl⟩
  obtain ⟨mu, hmu⟩ : ∃ m, u.natAbs = m := ⟨_, rfl⟩
  obtain ⟨sv, hsv⟩ : ∃ s, decide ((v : Int) < 0) = s := ⟨_, rfl⟩
  obtain ⟨mv, hmv⟩ : ∃ m, (v : Int).natAbs = m := ⟨_, rfl⟩
  unfold RetI at hA hNI
  unfold RetRB ratV at hRN
  unfold ratV
  rw [hx, hy, hsx, hmx, hsy, hmy, hsu, hmu] at hA
  rw [hsp, hmp, hdp] at hDp
  rw [hsq, hmq, hdq] at hDq
  rw [hsv, hmv] at hNI
  rw [hsu, hmu, hsv, hmv] at hRN
  rw [hsp, hmp, hdp, hsq, hmq, hdq]
  have HA := Lib.hid hA
  have HDp := Lib.hid hDp
  have HDq := Lib.hid hDq
  have HPM := Lib.hid hPM
  have HNI := Lib.hid hNI
  have HRN := Lib.hid hRN
  clear hBq hBp hM1 hM2 hA hDp hDq hPM hNI hRN hI1 hI2 hr hu hv hsu hmu hsv hmv hsp hmp hsq hmq hbp hnp hbq hnq hdp hdq hsx hmx hsy hmy hx hy h1 h2 h3 h4 h5 hK hKL hD hKs
  obtain ⟨W0, hW0⟩ : ∃ W0, W0 = (((w.alloc (.cells #[.bool sp, .slice a (lenW mp) c, .slice b (lenW dp) d] 51)).alloc (.cells #[.bool sq, .slice e (lenW mq) i, .slice f (lenW dq) g] 51)).alloc (.cells #[.bool false, .slice none 0 0, .slice none 0 0] 51)) := ⟨_, rfl⟩
  have hbs : BS w [⟨w.heap.size, 51, [.bool sp, .slice a (lenW mp) c, .slice b (lenW dp) d]⟩, ⟨w.heap.size + 1, 51, [.bool sq, .slice e (lenW mq) i, .slice f (lenW dq) g]⟩, ⟨w.heap.size + 1 + 1, 51, [.bool false, .slice none 0 0, .slice none 0 0]⟩] [⟨a, c, mp⟩, ⟨b, d, dp⟩, ⟨e, i, mq⟩, ⟨f, g, dq⟩] (((w.alloc (.cells #[.bool sp, .slice a (lenW mp) c, .slice b (lenW dp) d] 51)).alloc (.cells #[.bool sq, .slice e (lenW mq) i, .slice f (lenW dq) g] 51)).alloc (.cells #[.bool false, .slice none 0 0, .slice none 0 0] 51)) :=
      ((((BS.begin [⟨a, c, mp⟩, ⟨b, d, dp⟩, ⟨e, i, mq⟩, ⟨f, g, dq⟩] (fun y hy => by
        rcases List.mem_cons.1 hy with rfl | hy
        · exact ha
        rcases List.mem_cons.1 hy with rfl | hy
        · exact hb
        rcases List.mem_cons.1 hy with rfl | hy
        · exact he
        rw [List.mem_singleton.1 hy]; exact hf)).alloc (p := w.heap.size) rfl 51 [.bool sp, .slice a (lenW mp) c, .slice b (lenW dp) d] rfl).alloc (p := w.heap.size + 1) (by simp) 51 [.bool sq, .slice e (lenW mq) i, .slice f (lenW dq) g] rfl).alloc (p := w.heap.size + 1 + 1) (by simp) 51 [.bool false, .slice none 0 0, .slice none 0 0] rfl)
  rw [← hW0] at hbs
  have HW0 := Lib.hid hW0
  have HN := Lib.hid hbs
  clear hW0 hbs
  clear ha hb he hf
  go_enter Tryz.func35, Tryz.ntmps35
  go_upto_region 1 with fail
  rw [← HW0.out]
  go_cut [5] (fun v5 wx => ∃ p5 a5 c5, v5 = .pointer (some ⟨p5, 0, none⟩) ∧ BS w [⟨w.heap.size, 51, [.bool sp, .slice a (lenW mp) c, .slice b (lenW dp) d]⟩, ⟨w.heap.size + 1, 51, [.bool sq, .slice e (lenW mq) i, .slice f (lenW dq) g]⟩, ⟨w.heap.size + 1 + 1, 51, [.bool false, .slice none 0 0, .slice none 0 0]⟩, ⟨p5, 49, [.bool su, .slice a5 (lenW mu) c5]⟩] [⟨a, c, mp⟩, ⟨b, d, dp⟩, ⟨e, i, mq⟩, ⟨f, g, dq⟩, ⟨a5, c5, mu⟩] wx)
  case first =>
    replace HN := Lib.hid HN.out.drew
    refine wp_region_held_drew (S := fun W => W.cell? ⟨w.heap.size, 0, none⟩ = some (.bool sp) ∧ W.cell? ⟨w.heap.size, 1, none⟩ = some (.slice a (lenW mp) c) ∧ W.cell? ⟨w.heap.size, 2, none⟩ = some (.slice b (lenW dp) d) ∧ W.cell? ⟨w.heap.size + 1, 0, none⟩ = some (.bool sq) ∧ W.cell? ⟨w.heap.size + 1, 1, none⟩ = some (.slice e (lenW mq) i) ∧ W.cell? ⟨w.heap.size + 1, 2, none⟩ = some (.slice f (lenW dq) g)) (by kernel_rfl) (⟨HN.out.cell 0 0 rfl rfl, HN.out.cell 0 1 rfl rfl, HN.out.cell 0 2 rfl rfl, HN.out.cell 1 0 rfl rfl, HN.out.cell 1 1 rfl rfl, HN.out.cell 1 2 rfl rfl⟩) (fun hHeld => ?_)
    generalize W0.drew = wd at HN hHeld ⊢
    refine tk 0 (some 8) (v := ?_) rfl rfl ?_ ?_
    rotate_left
    · (intro w _; go_simp; (try with_reducible rfl))
    simp only [Act.put, stB, stZ, stS]
    refine tk 1 (some 9) (v := ?_) rfl rfl ?_ ?_
    rotate_left
    · (intro w hSw; (try dsimp only at hSw); go_simp; (try with_reducible rfl))
    simp only [Act.put, stB, stZ, stS]
    refine tk 2 (some 10) (v := ?_) rfl rfl ?_ ?_
    rotate_left
    · (intro w hSw; (try dsimp only at hSw); go_simp; (try with_reducible rfl))
    simp only [Act.put, stB, stZ, stS]
    refine tk 5 (some 13) (v := ?_) rfl rfl ?_ ?_
    rotate_left
    · (intro w _; go_simp; (try with_reducible rfl))
    simp only [Act.put, stB, stZ, stS]
    refine tk 6 (some 14) (v := ?_) rfl rfl ?_ ?_
    rotate_left
    · (intro w hSw; (try dsimp only at hSw); go_simp; (try with_reducible rfl))
    simp only [Act.put, stB, stZ, stS]
    refine tk 7 (some 15) (v := ?_) rfl rfl ?_ ?_
    rotate_left
    · (intro w hSw; (try dsimp only at hSw); go_simp; (try with_reducible rfl))
    simp only [Act.put, stB, stZ, stS]
    refine wpAnyH_ready (rs := [3, 11]) (by kernel_rfl) (by simp) ?_
    refine (AllReadyH.cons rfl (fun K hK => ?_) (AllReadyH.cons rfl (fun K hK => ?_) AllReadyH.nil))
    · skip
      go_simp
      refine (HBq.out _ (HN.out.nat 3 rfl)).mono ?_
      rintro e w1 ⟨a2, c2, rfl, hq0, hb⟩
      replace HN := Lib.hid ((HN.out.call hb).got hq0)
      clear hb hq0
      go_wp2_with fail
      refine hK.out _ _ (⟨HN.out.cell 0 0 rfl rfl, HN.out.cell 0 1 rfl rfl, HN.out.cell 0 2 rfl rfl, HN.out.cell 1 0 rfl rfl, HN.out.cell 1 1 rfl rfl, HN.out.cell 1 2 rfl rfl⟩) (fun hHeld2 => ?_)
      clear hK K hHeld
      rename _ => hHeld
      try simp only [Act.put, stB, stZ, stS]
      refine wpAnyH_ready (rs := [4, 11]) (by kernel_rfl) (by simp) ?_
      refine (AllReadyH.cons rfl (fun K hK => ?_) (AllReadyH.cons rfl (fun K hK => ?_) AllReadyH.nil))
      · skip
        go_simp
        refine (HM1.out _ _ _ (HN.out.nat 0 rfl) (HN.out.nat 4 rfl)).mono ?_
        rintro e w2 ⟨a3, c3, rfl, hq0, hb⟩
        replace HN := Lib.hid ((HN.out.call hb).got hq0)
        clear hb hq0
        go_wp2_with fail
        refine hK.out _ _ (⟨HN.out.cell 0 0 rfl rfl, HN.out.cell 0 1 rfl rfl, HN.out.cell 0 2 rfl rfl, HN.out.cell 1 0 rfl rfl, HN.out.cell 1 1 rfl rfl, HN.out.cell 1 2 rfl rfl⟩) (fun hHeld2 => ?_)
        clear hK K hHeld
        rename _ => hHeld
        try simp only [Act.put, stB, stZ, stS]
        refine wpAnyH_ready (rs := [8, 11]) (by kernel_rfl) (by simp) ?_
        refine (AllReadyH.cons rfl (fun K hK => ?_) (AllReadyH.cons rfl (fun K hK => ?_) AllReadyH.nil))
        · skip
          go_simp
          refine (HBp.out _ (HN.out.nat 1 rfl)).mono ?_
          rintro e w3 ⟨a4, c4, rfl, hq0, hb⟩
          replace HN := Lib.hid ((HN.out.call hb).got hq0)
          clear hb hq0
          go_wp2_with fail
          refine hK.out _ _ (⟨HN.out.cell 0 0 rfl rfl, HN.out.cell 0 1 rfl rfl, HN.out.cell 0 2 rfl rfl, HN.out.cell 1 0 rfl rfl, HN.out.cell 1 1 rfl rfl, HN.out.cell 1 2 rfl rfl⟩) (fun hHeld2 => ?_)
          clear hK K hHeld
          rename _ => hHeld
          try simp only [Act.put, stB, stZ, stS]
          refine wpAnyH_ready (rs := [9, 11]) (by kernel_rfl) (by simp) ?_
          refine (AllReadyH.cons rfl (fun K hK => ?_) (AllReadyH.cons rfl (fun K hK => ?_) AllReadyH.nil))
          · skip
            go_simp
            refine (HM2.out _ _ _ (HN.out.nat 2 rfl) (HN.out.nat 6 rfl)).mono ?_
            rintro e w4 ⟨a5, c5, rfl, hq0, hb⟩
            replace HN := Lib.hid ((HN.out.call hb).got hq0)
            clear hb hq0
            go_wp2_with fail
            refine hK.out _ _ (⟨HN.out.cell 0 0 rfl rfl, HN.out.cell 0 1 rfl rfl, HN.out.cell 0 2 rfl rfl, HN.out.cell 1 0 rfl rfl, HN.out.cell 1 1 rfl rfl, HN.out.cell 1 2 rfl rfl⟩) (fun hHeld2 => ?_)
            clear hK K hHeld
            rename _ => hHeld
            try simp only [Act.put, stB, stZ, stS]
            refine wpAnyH_ready (rs := [10, 11]) (by kernel_rfl) (by simp) ?_
            refine (AllReadyH.cons rfl (fun K hK => ?_) (AllReadyH.cons rfl (fun K hK => ?_) AllReadyH.nil))
            · skip
              go_simp
              refine (HA.out _ _ _ _ _ (HN.out.nat 5 rfl) (HN.out.nat 7 rfl)).mono ?_
              rintro e w5 ⟨a6, c6, rfl, hq0, hb⟩
              replace HN := Lib.hid ((HN.out.call hb).got hq0)
              clear hb hq0
              go_wp2_with fail
              refine hK.out _ _ (⟨HN.out.cell 0 0 rfl rfl, HN.out.cell 0 1 rfl rfl, HN.out.cell 0 2 rfl rfl, HN.out.cell 1 0 rfl rfl, HN.out.cell 1 1 rfl rfl, HN.out.cell 1 2 rfl rfl⟩) (fun hHeld2 => ?_)
              clear hK K hHeld
              rename _ => hHeld
              try simp only [Act.put, stB, stZ, stS]
              refine wpAnyH_ready (rs := [11]) (by kernel_rfl) (by simp) ?_
              refine (AllReadyH.cons rfl (fun K hK => ?_) AllReadyH.nil)
              go_simp
              replace HN := Lib.hid (HN.out.alloc (p := w5.heap.size) rfl 49 [.bool false, .slice none 0 0] rfl)
              generalize w5.alloc (.cells #[.bool false, .slice none 0 0] 49) = wa6 at HN ⊢
              refine hK.out _ _ (⟨HN.out.cell 0 0 rfl rfl, HN.out.cell 0 1 rfl rfl, HN.out.cell 0 2 rfl rfl, HN.out.cell 1 0 rfl rfl, HN.out.cell 1 1 rfl rfl, HN.out.cell 1 2 rfl rfl⟩) (fun hHeld2 => ?_)
              clear hK K hHeld
              rename _ => hHeld
              try simp only [Act.put, stB, stZ, stS]
              refine wpAnyH_ready (rs := [12]) (by kernel_rfl) (by simp) ?_
              refine (AllReadyH.cons rfl (fun K hK => ?_) AllReadyH.nil)
              have hc0 := HN.out.cell 3 0 rfl rfl
              have hf0 := HN.out.free 3 0 rfl
              have hc1 := HN.out.cell 3 1 rfl rfl
              have hf1 := HN.out.free 3 1 rfl
              go_simp
              clear hc0 hf0 hc1 hf1
              replace HN := Lib.hid (((HN.out).set 3 0 rfl rfl (fun _ => by simp) (.bool su)).set 3 1 rfl rfl (fun _ => by simp) (.slice a6 (lenW mu) c6))
              generalize ((wa6.setCell ⟨w5.heap.size, 0, none⟩ (.bool su)).setCell ⟨w5.heap.size, 1, none⟩ (.slice a6 (lenW mu) c6)) = wa7 at HN ⊢
              refine hK.out _ _ (⟨HN.out.cell 0 0 rfl rfl, HN.out.cell 0 1 rfl rfl, HN.out.cell 0 2 rfl rfl, HN.out.cell 1 0 rfl rfl, HN.out.cell 1 1 rfl rfl, HN.out.cell 1 2 rfl rfl⟩) (fun hHeld2 => ?_)
              clear hK K hHeld
              rename _ => hHeld
              try simp only [Act.put, stB, stZ, stS]
              refine wpAnyH_done (by kernel_rfl) ?_ _
              go_wp2_with fail
              go_meet
              exact ⟨_, _, _, rfl, HN.out.only (List.Sublist.refl _) (fun z hz => by
                simp only [List.mem_cons, List.not_mem_nil, or_false] at hz
                rcases hz with rfl | rfl | rfl | rfl | rfl <;> simp)⟩
            · skip
              go_simp
              replace HN := Lib.hid (HN.out.alloc (p := w4.heap.size) rfl 49 [.bool false, .slice none 0 0] rfl)
              generalize w4.alloc (.cells #[.bool false, .slice none 0 0] 49) = wa5 at HN ⊢
              refine hK.out _ _ (⟨HN.out.cell 0 0 rfl rfl, HN.out.cell 0 1 rfl rfl, HN.out.cell 0 2 rfl rfl, HN.out.cell 1 0 rfl rfl, HN.out.cell 1 1 rfl rfl, HN.out.cell 1 2 rfl rfl⟩) (fun hHeld2 => ?_)
              clear hK K hHeld
              rename _ => hHeld
              try simp only [Act.put, stB, stZ, stS]
              refine wpAnyH_ready (rs := [10]) (by kernel_rfl) (by simp) ?_
              refine (AllReadyH.cons rfl (fun K hK => ?_) AllReadyH.nil)
              go_simp
              refine (HA.out _ _ _ _ _ (HN.out.nat 5 rfl) (HN.out.nat 7 rfl)).mono ?_
              rintro e w6 ⟨a6, c6, rfl, hq0, hb⟩
              replace HN := Lib.hid ((HN.out.call hb).got hq0)
              clear hb hq0
              go_wp2_with fail
              refine hK.out _ _ (⟨HN.out.cell 0 0 rfl rfl, HN.out.cell 0 1 rfl rfl, HN.out.cell 0 2 rfl rfl, HN.out.cell 1 0 rfl rfl, HN.out.cell 1 1 rfl rfl, HN.out.cell 1 2 rfl rfl⟩) (fun hHeld2 => ?_)
              clear hK K hHeld
              rename _ => hHeld
              try simp only [Act.put, stB, stZ, stS]
              refine wpAnyH_ready (rs := [12]) (by kernel_rfl) (by simp) ?_
              refine (AllReadyH.cons rfl (fun K hK => ?_) AllReadyH.nil)
              have hc0 := HN.out.cell 3 0 rfl rfl
              have hf0 := HN.out.free 3 0 rfl
              have hc1 := HN.out.cell 3 1 rfl rfl
              have hf1 := HN.out.free 3 1 rfl
              go_simp
              clear hc0 hf0 hc1 hf1
              replace HN := Lib.hid (((HN.out).set 3 0 rfl rfl (fun _ => by simp) (.bool su)).set 3 1 rfl rfl (fun _ => by simp) (.slice a6 (lenW mu) c6))
              generalize ((w6.setCell ⟨w4.heap.size, 0, none⟩ (.bool su)).setCell ⟨w4.heap.size, 1, none⟩ (.slice a6 (lenW mu) c6)) = wa7 at HN ⊢
              refine hK.out _ _ (⟨HN.out.cell 0 0 rfl rfl, HN.out.cell 0 1 rfl rfl, HN.out.cell 0 2 rfl rfl, HN.out.cell 1 0 rfl rfl, HN.out.cell 1 1 rfl rfl, HN.out.cell 1 2 rfl rfl⟩) (fun hHeld2 => ?_)
              clear hK K hHeld
              rename _ => hHeld
              try simp only [Act.put, stB, stZ, stS]
              refine wpAnyH_done (by kernel_rfl) ?_ _
              go_wp2_with fail
              go_meet
              exact ⟨_, _, _, rfl, HN.out.only (List.Sublist.refl _) (fun z hz => by
                simp only [List.mem_cons, List.not_mem_nil, or_false] at hz
                rcases hz with rfl | rfl | rfl | rfl | rfl <;> simp)⟩
          · skip
            go_simp
            replace HN := Lib.hid (HN.out.alloc (p := w3.heap.size) rfl 49 [.bool false, .slice none 0 0] rfl)
            generalize w3.alloc (.cells #[.bool false, .slice none 0 0] 49) = wa4 at HN ⊢
            refine hK.out _ _ (⟨HN.out.cell 0 0 rfl rfl, HN.out.cell 0 1 rfl rfl, HN.out.cell 0 2 rfl rfl, HN.out.cell 1 0 rfl rfl, HN.out.cell 1 1 rfl rfl, HN.out.cell 1 2 rfl rfl⟩) (fun hHeld2 => ?_)
            clear hK K hHeld
            rename _ => hHeld
            try simp only [Act.put, stB, stZ, stS]
            refine wpAnyH_ready (rs := [9]) (by kernel_rfl) (by simp) ?_
            refine (AllReadyH.cons rfl (fun K hK => ?_) AllReadyH.nil)
            go_simp
            refine (HM2.out _ _ _ (HN.out.nat 2 rfl) (HN.out.nat 6 rfl)).mono ?_
            rintro e w5 ⟨a5, c5, rfl, hq0, hb⟩
            replace HN := Lib.hid ((HN.out.call hb).got hq0)
            clear hb hq0
            go_wp2_with fail
            refine hK.out _ _ (⟨HN.out.cell 0 0 rfl rfl, HN.out.cell 0 1 rfl rfl, HN.out.cell 0 2 rfl rfl, HN.out.cell 1 0 rfl rfl, HN.out.cell 1 1 rfl rfl, HN.out.cell 1 2 rfl rfl⟩) (fun hHeld2 => ?_)
            clear hK K hHeld
            rename _ => hHeld
            try simp only [Act.put, stB, stZ, stS]
            refine wpAnyH_ready (rs := [10]) (by kernel_rfl) (by simp) ?_
            refine (AllReadyH.cons rfl (fun K hK => ?_) AllReadyH.nil)
            go_simp
            refine (HA.out _ _ _ _ _ (HN.out.nat 5 rfl) (HN.out.nat 7 rfl)).mono ?_
            rintro e w6 ⟨a6, c6, rfl, hq0, hb⟩
            replace HN := Lib.hid ((HN.out.call hb).got hq0)
            clear hb hq0
            go_wp2_with fail
            refine hK.out _ _ (⟨HN.out.cell 0 0 rfl rfl, HN.out.cell 0 1 rfl rfl, HN.out.cell 0 2 rfl rfl, HN.out.cell 1 0 rfl rfl, HN.out.cell 1 1 rfl rfl, HN.out.cell 1 2 rfl rfl⟩) (fun hHeld2 => ?_)
            clear hK K hHeld
            rename _ => hHeld
            try simp only [Act.put, stB, stZ, stS]
            refine wpAnyH_ready (rs := [12]) (by kernel_rfl) (by simp) ?_
            refine (AllReadyH.cons rfl (fun K hK => ?_) AllReadyH.nil)
            have hc0 := HN.out.cell 3 0 rfl rfl
            have hf0 := HN.out.free 3 0 rfl
            have hc1 := HN.out.cell 3 1 rfl rfl
            have hf1 := HN.out.free 3 1 rfl
            go_simp
            clear hc0 hf0 hc1 hf1
            replace HN := Lib.hid (((HN.out).set 3 0 rfl rfl (fun _ => by simp) (.bool su)).set 3 1 rfl rfl (fun _ => by simp) (.slice a6 (lenW mu) c6))
            generalize ((w6.setCell ⟨w3.heap.size, 0, none⟩ (.bool su)).setCell ⟨w3.heap.size, 1, none⟩ (.slice a6 (lenW mu) c6)) = wa7 at HN ⊢
            refine hK.out _ _ (⟨HN.out.cell 0 0 rfl rfl, HN.out.cell 0 1 rfl rfl, HN.out.cell 0 2 rfl rfl, HN.out.cell 1 0 rfl rfl, HN.out.cell 1 1 rfl rfl, HN.out.cell 1 2 rfl rfl⟩) (fun hHeld2 => ?_)
            clear hK K hHeld
            rename _ => hHeld
            try simp only [Act.put, stB, stZ, stS]
            refine wpAnyH_done (by kernel_rfl) ?_ _
            go_wp2_with fail
            go_meet
            exact ⟨_, _, _, rfl, HN.out.only (List.Sublist.refl _) (fun z hz => by
              simp only [List.mem_cons, List.not_mem_nil, or_false] at hz
              rcases hz with rfl | rfl | rfl | rfl | rfl <;> simp)⟩
        · skip
          go_simp
          replace HN := Lib.hid (HN.out.alloc (p := w2.heap.size) rfl 49 [.bool false, .slice none 0 0] rfl)
          generalize w2.alloc (.cells #[.bool false, .slice none 0 0] 49) = wa3 at HN ⊢
          refine hK.out _ _ (⟨HN.out.cell 0 0 rfl rfl, HN.out.cell 0 1 rfl rfl, HN.out.cell 0 2 rfl rfl, HN.out.cell 1 0 rfl rfl, HN.out.cell 1 1 rfl rfl, HN.out.cell 1 2 rfl rfl⟩) (fun hHeld2 => ?_)
          clear hK K hHeld
          rename _ => hHeld
          try simp only [Act.put, stB, stZ, stS]
          refine wpAnyH_ready (rs := [8]) (by kernel_rfl) (by simp) ?_
          refine (AllReadyH.cons rfl (fun K hK => ?_) AllReadyH.nil)
          go_simp
          refine (HBp.out _ (HN.out.nat 1 rfl)).mono ?_
          rintro e w4 ⟨a4, c4, rfl, hq0, hb⟩
          replace HN := Lib.hid ((HN.out.call hb).got hq0)
          clear hb hq0
          go_wp2_with fail
          refine hK.out _ _ (⟨HN.out.cell 0 0 rfl rfl, HN.out.cell 0 1 rfl rfl, HN.out.cell 0 2 rfl rfl, HN.out.cell 1 0 rfl rfl, HN.out.cell 1 1 rfl rfl, HN.out.cell 1 2 rfl rfl⟩) (fun hHeld2 => ?_)
          clear hK K hHeld
          rename _ => hHeld
          try simp only [Act.put, stB, stZ, stS]
          refine wpAnyH_ready (rs := [9]) (by kernel_rfl) (by simp) ?_
          refine (AllReadyH.cons rfl (fun K hK => ?_) AllReadyH.nil)
          go_simp
          refine (HM2.out _ _ _ (HN.out.nat 2 rfl) (HN.out.nat 6 rfl)).mono ?_
          rintro e w5 ⟨a5, c5, rfl, hq0, hb⟩
          replace HN := Lib.hid ((HN.out.call hb).got hq0)
          clear hb hq0
          go_wp2_with fail
          refine hK.out _ _ (⟨HN.out.cell 0 0 rfl rfl, HN.out.cell 0 1 rfl rfl, HN.out.cell 0 2 rfl rfl, HN.out.cell 1 0 rfl rfl, HN.out.cell 1 1 rfl rfl, HN.out.cell 1 2 rfl rfl⟩) (fun hHeld2 => ?_)
          clear hK K hHeld
          rename _ => hHeld
          try simp only [Act.put, stB, stZ, stS]
          refine wpAnyH_ready (rs := [10]) (by kernel_rfl) (by simp) ?_
          refine (AllReadyH.cons rfl (fun K hK => ?_) AllReadyH.nil)
          go_simp
          refine (HA.out _ _ _ _ _ (HN.out.nat 5 rfl) (HN.out.nat 7 rfl)).mono ?_
          rintro e w6 ⟨a6, c6, rfl, hq0, hb⟩
          replace HN := Lib.hid ((HN.out.call hb).got hq0)
          clear hb hq0
          go_wp2_with fail
          refine hK.out _ _ (⟨HN.out.cell 0 0 rfl rfl, HN.out.cell 0 1 rfl rfl, HN.out.cell 0 2 rfl rfl, HN.out.cell 1 0 rfl rfl, HN.out.cell 1 1 rfl rfl, HN.out.cell 1 2 rfl rfl⟩) (fun hHeld2 => ?_)
          clear hK K hHeld
          rename _ => hHeld
          try simp only [Act.put, stB, stZ, stS]
          refine wpAnyH_ready (rs := [12]) (by kernel_rfl) (by simp) ?_
          refine (AllReadyH.cons rfl (fun K hK => ?_) AllReadyH.nil)
          have hc0 := HN.out.cell 3 0 rfl rfl
          have hf0 := HN.out.free 3 0 rfl
          have hc1 := HN.out.cell 3 1 rfl rfl
          have hf1 := HN.out.free 3 1 rfl
          go_simp
          clear hc0 hf0 hc1 hf1
          replace HN := Lib.hid (((HN.out).set 3 0 rfl rfl (fun _ => by simp) (.bool su)).set 3 1 rfl rfl (fun _ => by simp) (.slice a6 (lenW mu) c6))
          generalize ((w6.setCell ⟨w2.heap.size, 0, none⟩ (.bool su)).setCell ⟨w2.heap.size, 1, none⟩ (.slice a6 (lenW mu) c6)) = wa7 at HN ⊢
          refine hK.out _ _ (⟨HN.out.cell 0 0 rfl rfl, HN.out.cell 0 1 rfl rfl, HN.out.cell 0 2 rfl rfl, HN.out.cell 1 0 rfl rfl, HN.out.cell 1 1 rfl rfl, HN.out.cell 1 2 rfl rfl⟩) (fun hHeld2 => ?_)
          clear hK K hHeld
          rename _ => hHeld
          try simp only [Act.put, stB, stZ, stS]
          refine wpAnyH_done (by kernel_rfl) ?_ _
          go_wp2_with fail
          go_meet
          exact ⟨_, _, _, rfl, HN.out.only (List.Sublist.refl _) (fun z hz => by
            simp only [List.mem_cons, List.not_mem_nil, or_false] at hz
            rcases hz with rfl | rfl | rfl | rfl | rfl <;> simp)⟩
      · skip
        go_simp
        replace HN := Lib.hid (HN.out.alloc (p := w1.heap.size) rfl 49 [.bool false, .slice none 0 0] rfl)
        generalize w1.alloc (.cells #[.bool false, .slice none 0 0] 49) = wa2 at HN ⊢
        refine hK.out _ _ (⟨HN.out.cell 0 0 rfl rfl, HN.out.cell 0 1 rfl rfl, HN.out.cell 0 2 rfl rfl, HN.out.cell 1 0 rfl rfl, HN.out.cell 1 1 rfl rfl, HN.out.cell 1 2 rfl rfl⟩) (fun hHeld2 => ?_)
        clear hK K hHeld
        rename _ => hHeld
        try simp only [Act.put, stB, stZ, stS]
        refine wpAnyH_ready (rs := [4]) (by kernel_rfl) (by simp) ?_
        refine (AllReadyH.cons rfl (fun K hK => ?_) AllReadyH.nil)
        go_simp
        refine (HM1.out _ _ _ (HN.out.nat 0 rfl) (HN.out.nat 4 rfl)).mono ?_
        rintro e w3 ⟨a3, c3, rfl, hq0, hb⟩
        replace HN := Lib.hid ((HN.out.call hb).got hq0)
        clear hb hq0
        go_wp2_with fail
        refine hK.out _ _ (⟨HN.out.cell 0 0 rfl rfl, HN.out.cell 0 1 rfl rfl, HN.out.cell 0 2 rfl rfl, HN.out.cell 1 0 rfl rfl, HN.out.cell 1 1 rfl rfl, HN.out.cell 1 2 rfl rfl⟩) (fun hHeld2 => ?_)
        clear hK K hHeld
        rename _ => hHeld
        try simp only [Act.put, stB, stZ, stS]
        refine wpAnyH_ready (rs := [8]) (by kernel_rfl) (by simp) ?_
        refine (AllReadyH.cons rfl (fun K hK => ?_) AllReadyH.nil)
        go_simp
        refine (HBp.out _ (HN.out.nat 1 rfl)).mono ?_
        rintro e w4 ⟨a4, c4, rfl, hq0, hb⟩
        replace HN := Lib.hid ((HN.out.call hb).got hq0)
        clear hb hq0
        go_wp2_with fail
        refine hK.out _ _ (⟨HN.out.cell 0 0 rfl rfl, HN.out.cell 0 1 rfl rfl, HN.out.cell 0 2 rfl rfl, HN.out.cell 1 0 rfl rfl, HN.out.cell 1 1 rfl rfl, HN.out.cell 1 2 rfl rfl⟩) (fun hHeld2 => ?_)
        clear hK K hHeld
        rename _ => hHeld
        try simp only [Act.put, stB, stZ, stS]
        refine wpAnyH_ready (rs := [9]) (by kernel_rfl) (by simp) ?_
        refine (AllReadyH.cons rfl (fun K hK => ?_) AllReadyH.nil)
        go_simp
        refine (HM2.out _ _ _ (HN.out.nat 2 rfl) (HN.out.nat 6 rfl)).mono ?_
        rintro e w5 ⟨a5, c5, rfl, hq0, hb⟩
        replace HN := Lib.hid ((HN.out.call hb).got hq0)
        clear hb hq0
        go_wp2_with fail
        refine hK.out _ _ (⟨HN.out.cell 0 0 rfl rfl, HN.out.cell 0 1 rfl rfl, HN.out.cell 0 2 rfl rfl, HN.out.cell 1 0 rfl rfl, HN.out.cell 1 1 rfl rfl, HN.out.cell 1 2 rfl rfl⟩) (fun hHeld2 => ?_)
        clear hK K hHeld
        rename _ => hHeld
        try simp only [Act.put, stB, stZ, stS]
        refine wpAnyH_ready (rs := [10]) (by kernel_rfl) (by simp) ?_
        refine (AllReadyH.cons rfl (fun K hK => ?_) AllReadyH.nil)
        go_simp
        refine (HA.out _ _ _ _ _ (HN.out.nat 5 rfl) (HN.out.nat 7 rfl)).mono ?_
        rintro e w6 ⟨a6, c6, rfl, hq0, hb⟩
        replace HN := Lib.hid ((HN.out.call hb).got hq0)
        clear hb hq0
        go_wp2_with fail
        refine hK.out _ _ (⟨HN.out.cell 0 0 rfl rfl, HN.out.cell 0 1 rfl rfl, HN.out.cell 0 2 rfl rfl, HN.out.cell 1 0 rfl rfl, HN.out.cell 1 1 rfl rfl, HN.out.cell 1 2 rfl rfl⟩) (fun hHeld2 => ?_)
        clear hK K hHeld
        rename _ => hHeld
        try simp only [Act.put, stB, stZ, stS]
        refine wpAnyH_ready (rs := [12]) (by kernel_rfl) (by simp) ?_
        refine (AllReadyH.cons rfl (fun K hK => ?_) AllReadyH.nil)
        have hc0 := HN.out.cell 3 0 rfl rfl
        have hf0 := HN.out.free 3 0 rfl
        have hc1 := HN.out.cell 3 1 rfl rfl
        have hf1 := HN.out.free 3 1 rfl
        go_simp
        clear hc0 hf0 hc1 hf1
        replace HN := Lib.hid (((HN.out).set 3 0 rfl rfl (fun _ => by simp) (.bool su)).set 3 1 rfl rfl (fun _ => by simp) (.slice a6 (lenW mu) c6))
        generalize ((w6.setCell ⟨w1.heap.size, 0, none⟩ (.bool su)).setCell ⟨w1.heap.size, 1, none⟩ (.slice a6 (lenW mu) c6)) = wa7 at HN ⊢
        refine hK.out _ _ (⟨HN.out.cell 0 0 rfl rfl, HN.out.cell 0 1 rfl rfl, HN.out.cell 0 2 rfl rfl, HN.out.cell 1 0 rfl rfl, HN.out.cell 1 1 rfl rfl, HN.out.cell 1 2 rfl rfl⟩) (fun hHeld2 => ?_)
        clear hK K hHeld
        rename _ => hHeld
        try simp only [Act.put, stB, stZ, stS]
        refine wpAnyH_done (by kernel_rfl) ?_ _
        go_wp2_with fail
        go_meet
        exact ⟨_, _, _, rfl, HN.out.only (List.Sublist.refl _) (fun z hz => by
          simp only [List.mem_cons, List.not_mem_nil, or_false] at hz
          rcases hz with rfl | rfl | rfl | rfl | rfl <;> simp)⟩
    · skip
      go_simp
      replace HN := Lib.hid (HN.out.alloc (p := wd.heap.size) rfl 49 [.bool false, .slice none 0 0] rfl)
      generalize wd.alloc (.cells #[.bool false, .slice none 0 0] 49) = wa1 at HN ⊢
      refine hK.out _ _ (⟨HN.out.cell 0 0 rfl rfl, HN.out.cell 0 1 rfl rfl, HN.out.cell 0 2 rfl rfl, HN.out.cell 1 0 rfl rfl, HN.out.cell 1 1 rfl rfl, HN.out.cell 1 2 rfl rfl⟩) (fun hHeld2 => ?_)
      clear hK K hHeld
      rename _ => hHeld
      try simp only [Act.put, stB, stZ, stS]
      refine wpAnyH_ready (rs := [3]) (by kernel_rfl) (by simp) ?_
      refine (AllReadyH.cons rfl (fun K hK => ?_) AllReadyH.nil)
      go_simp
      refine (HBq.out _ (HN.out.nat 3 rfl)).mono ?_
      rintro e w2 ⟨a2, c2, rfl, hq0, hb⟩
      replace HN := Lib.hid ((HN.out.call hb).got hq0)
      clear hb hq0
      go_wp2_with fail
      refine hK.out _ _ (⟨HN.out.cell 0 0 rfl rfl, HN.out.cell 0 1 rfl rfl, HN.out.cell 0 2 rfl rfl, HN.out.cell 1 0 rfl rfl, HN.out.cell 1 1 rfl rfl, HN.out.cell 1 2 rfl rfl⟩) (fun hHeld2 => ?_)
      clear hK K hHeld
      rename _ => hHeld
      try simp only [Act.put, stB, stZ, stS]
      refine wpAnyH_ready (rs := [4]) (by kernel_rfl) (by simp) ?_
      refine (AllReadyH.cons rfl (fun K hK => ?_) AllReadyH.nil)
      go_simp
      refine (HM1.out _ _ _ (HN.out.nat 0 rfl) (HN.out.nat 4 rfl)).mono ?_
      rintro e w3 ⟨a3, c3, rfl, hq0, hb⟩
      replace HN := Lib.hid ((HN.out.call hb).got hq0)
      clear hb hq0
      go_wp2_with fail
      refine hK.out _ _ (⟨HN.out.cell 0 0 rfl rfl, HN.out.cell 0 1 rfl rfl, HN.out.cell 0 2 rfl rfl, HN.out.cell 1 0 rfl rfl, HN.out.cell 1 1 rfl rfl, HN.out.cell 1 2 rfl rfl⟩) (fun hHeld2 => ?_)
      clear hK K hHeld
      rename _ => hHeld
      try simp only [Act.put, stB, stZ, stS]
      refine wpAnyH_ready (rs := [8]) (by kernel_rfl) (by simp) ?_
      refine (AllReadyH.cons rfl (fun K hK => ?_) AllReadyH.nil)
      go_simp
      refine (HBp.out _ (HN.out.nat 1 rfl)).mono ?_
      rintro e w4 ⟨a4, c4, rfl, hq0, hb⟩
      replace HN := Lib.hid ((HN.out.call hb).got hq0)
      clear hb hq0
      go_wp2_with fail
      refine hK.out _ _ (⟨HN.out.cell 0 0 rfl rfl, HN.out.cell 0 1 rfl rfl, HN.out.cell 0 2 rfl rfl, HN.out.cell 1 0 rfl rfl, HN.out.cell 1 1 rfl rfl, HN.out.cell 1 2 rfl rfl⟩) (fun hHeld2 => ?_)
      clear hK K hHeld
      rename _ => hHeld
      try simp only [Act.put, stB, stZ, stS]
      refine wpAnyH_ready (rs := [9]) (by kernel_rfl) (by simp) ?_
      refine (AllReadyH.cons rfl (fun K hK => ?_) AllReadyH.nil)
      go_simp
      refine (HM2.out _ _ _ (HN.out.nat 2 rfl) (HN.out.nat 6 rfl)).mono ?_
      rintro e w5 ⟨a5, c5, rfl, hq0, hb⟩
      replace HN := Lib.hid ((HN.out.call hb).got hq0)
      clear hb hq0
      go_wp2_with fail
      refine hK.out _ _ (⟨HN.out.cell 0 0 rfl rfl, HN.out.cell 0 1 rfl rfl, HN.out.cell 0 2 rfl rfl, HN.out.cell 1 0 rfl rfl, HN.out.cell 1 1 rfl rfl, HN.out.cell 1 2 rfl rfl⟩) (fun hHeld2 => ?_)
      clear hK K hHeld
      rename _ => hHeld
      try simp only [Act.put, stB, stZ, stS]
      refine wpAnyH_ready (rs := [10]) (by kernel_rfl) (by simp) ?_
      refine (AllReadyH.cons rfl (fun K hK => ?_) AllReadyH.nil)
      go_simp
      refine (HA.out _ _ _ _ _ (HN.out.nat 5 rfl) (HN.out.nat 7 rfl)).mono ?_
      rintro e w6 ⟨a6, c6, rfl, hq0, hb⟩
      replace HN := Lib.hid ((HN.out.call hb).got hq0)
      clear hb hq0
      go_wp2_with fail
      refine hK.out _ _ (⟨HN.out.cell 0 0 rfl rfl, HN.out.cell 0 1 rfl rfl, HN.out.cell 0 2 rfl rfl, HN.out.cell 1 0 rfl rfl, HN.out.cell 1 1 rfl rfl, HN.out.cell 1 2 rfl rfl⟩) (fun hHeld2 => ?_)
      clear hK K hHeld
      rename _ => hHeld
      try simp only [Act.put, stB, stZ, stS]
      refine wpAnyH_ready (rs := [12]) (by kernel_rfl) (by simp) ?_
      refine (AllReadyH.cons rfl (fun K hK => ?_) AllReadyH.nil)
      have hc0 := HN.out.cell 3 0 rfl rfl
      have hf0 := HN.out.free 3 0 rfl
      have hc1 := HN.out.cell 3 1 rfl rfl
      have hf1 := HN.out.free 3 1 rfl
      go_simp
      clear hc0 hf0 hc1 hf1
      replace HN := Lib.hid (((HN.out).set 3 0 rfl rfl (fun _ => by simp) (.bool su)).set 3 1 rfl rfl (fun _ => by simp) (.slice a6 (lenW mu) c6))
      generalize ((w6.setCell ⟨wd.heap.size, 0, none⟩ (.bool su)).setCell ⟨wd.heap.size, 1, none⟩ (.slice a6 (lenW mu) c6)) = wa7 at HN ⊢
      refine hK.out _ _ (⟨HN.out.cell 0 0 rfl rfl, HN.out.cell 0 1 rfl rfl, HN.out.cell 0 2 rfl rfl, HN.out.cell 1 0 rfl rfl, HN.out.cell 1 1 rfl rfl, HN.out.cell 1 2 rfl rfl⟩) (fun hHeld2 => ?_)
      clear hK K hHeld
      rename _ => hHeld
      try simp only [Act.put, stB, stZ, stS]
      refine wpAnyH_done (by kernel_rfl) ?_ _
      go_wp2_with fail
      go_meet
      exact ⟨_, _, _, rfl, HN.out.only (List.Sublist.refl _) (fun z hz => by
        simp only [List.mem_cons, List.not_mem_nil, or_false] at hz
        rcases hz with rfl | rfl | rfl | rfl | rfl <;> simp)⟩
  case rest =>
    obtain ⟨w1, rfl⟩ : ∃ w1 : World, w1 = wc := ⟨_, rfl⟩
    obtain ⟨p5, a5, c5, rfl, hn0⟩ := hcut
    have HN := Lib.hid hn0
    clear hn0
    have k00 := HN.out.cell 0 0 rfl rfl
    have f00 := HN.out.free 0 0 rfl
    have k01 := HN.out.cell 0 1 rfl rfl
    have f01 := HN.out.free 0 1 rfl
    have k02 := HN.out.cell 0 2 rfl rfl
    have f02 := HN.out.free 0 2 rfl
    have k10 := HN.out.cell 1 0 rfl rfl
    have f10 := HN.out.free 1 0 rfl
    have k11 := HN.out.cell 1 1 rfl rfl
    have f11 := HN.out.free 1 1 rfl
    have k12 := HN.out.cell 1 2 rfl rfl
    have f12 := HN.out.free 1 2 rfl
    have k20 := HN.out.cell 2 0 rfl rfl
    have f20 := HN.out.free 2 0 rfl
    have k21 := HN.out.cell 2 1 rfl rfl
    have f21 := HN.out.free 2 1 rfl
    have k22 := HN.out.cell 2 2 rfl rfl
    have f22 := HN.out.free 2 2 rfl
    have k30 := HN.out.cell 3 0 rfl rfl
    have f30 := HN.out.free 3 0 rfl
    have k31 := HN.out.cell 3 1 rfl rfl
    have f31 := HN.out.free 3 1 rfl
    go_upto_region 2 with fail
    clear k00 f00 k01 f01 k02 f02 k10 f10 k11 f11 k12 f12 k20 f20 k21 f21 k22 f22 k30 f30 k31 f31
    go_cut [6] (fun v6 wx => ∃ p6 a8 c8 b9 d9, v6 = .pointer (some ⟨p6, 0, none⟩) ∧ BS w [⟨w.heap.size, 51, [.bool sp, .slice a (lenW mp) c, .slice b (lenW dp) d]⟩, ⟨w.heap.size + 1, 51, [.bool sq, .slice e (lenW mq) i, .slice f (lenW dq) g]⟩, ⟨w.heap.size + 1 + 1, 51, [.bool false, .slice none 0 0, .slice none 0 0]⟩, ⟨p5, 49, [.bool su, .slice a5 (lenW mu) c5]⟩, ⟨p6, 51, [.bool (decide (r.num < 0)), .slice a8 (lenW r.num.natAbs) c8, .slice b9 (lenW (denN r.den)) d9]⟩] [⟨a8, c8, r.num.natAbs⟩, ⟨b9, d9, denN r.den⟩] wx)
    case first =>
      replace HN := Lib.hid HN.out.drew
      refine wp_region_held_drew (S := fun W => W.cell? ⟨w.heap.size, 0, none⟩ = some (.bool sp) ∧ W.cell? ⟨w.heap.size, 1, none⟩ = some (.slice a (lenW mp) c) ∧ W.cell? ⟨w.heap.size, 2, none⟩ = some (.slice b (lenW dp) d) ∧ W.cell? ⟨w.heap.size + 1, 0, none⟩ = some (.bool sq) ∧ W.cell? ⟨w.heap.size + 1, 1, none⟩ = some (.slice e (lenW mq) i) ∧ W.cell? ⟨w.heap.size + 1, 2, none⟩ = some (.slice f (lenW dq) g) ∧ W.cell? ⟨p5, 0, none⟩ = some (.bool su) ∧ W.cell? ⟨p5, 1, none⟩ = some (.slice a5 (lenW mu) c5)) (by kernel_rfl) (⟨HN.out.cell 0 0 rfl rfl, HN.out.cell 0 1 rfl rfl, HN.out.cell 0 2 rfl rfl, HN.out.cell 1 0 rfl rfl, HN.out.cell 1 1 rfl rfl, HN.out.cell 1 2 rfl rfl, HN.out.cell 3 0 rfl rfl, HN.out.cell 3 1 rfl rfl⟩) (fun hHeld => ?_)
      generalize w1.drew = wd at HN hHeld ⊢
      refine tk 0 (some 20) (v := ?_) rfl rfl ?_ ?_
      rotate_left
      · (intro w hSw; (try dsimp only at hSw); go_simp; (try with_reducible rfl))
      simp only [Act.put, stB, stZ, stS]
      refine tk 1 (some 21) (v := ?_) rfl rfl ?_ ?_
      rotate_left
      · (intro w hSw; (try dsimp only at hSw); go_simp; (try with_reducible rfl))
      simp only [Act.put, stB, stZ, stS]
      refine tk 3 (some 23) (v := ?_) rfl rfl ?_ ?_
      rotate_left
      · (intro w hSw; (try dsimp only at hSw); go_simp; (try with_reducible rfl))
      simp only [Act.put, stB, stZ, stS]
      refine wpAnyH_ready (rs := [2, 11]) (by kernel_rfl) (by simp) ?_
      refine (AllReadyH.cons rfl (fun K hK => ?_) (AllReadyH.cons rfl (fun K hK => ?_) AllReadyH.nil))
      · skip
        go_simp
        refine (HDp.out _ (HN.out.nat 1 rfl)).mono ?_
        rintro e w2 ⟨a2, c2, rfl, hq0, hb⟩
        replace HN := Lib.hid ((HN.out.call hb).got hq0)
        clear hb hq0
        go_wp2_with fail
        refine hK.out _ _ (⟨HN.out.cell 0 0 rfl rfl, HN.out.cell 0 1 rfl rfl, HN.out.cell 0 2 rfl rfl, HN.out.cell 1 0 rfl rfl, HN.out.cell 1 1 rfl rfl, HN.out.cell 1 2 rfl rfl, HN.out.cell 3 0 rfl rfl, HN.out.cell 3 1 rfl rfl⟩) (fun hHeld2 => ?_)
        clear hK K hHeld
        rename _ => hHeld
        try simp only [Act.put, stB, stZ, stS]
        refine wpAnyH_ready (rs := [4, 11]) (by kernel_rfl) (by simp) ?_
        refine (AllReadyH.cons rfl (fun K hK => ?_) (AllReadyH.cons rfl (fun K hK => ?_) AllReadyH.nil))
        · skip
          go_simp
          refine (HDq.out _ (HN.out.nat 3 rfl)).mono ?_
          rintro e w3 ⟨a3, c3, rfl, hq0, hb⟩
          replace HN := Lib.hid ((HN.out.call hb).got hq0)
          clear hb hq0
          go_wp2_with fail
          refine hK.out _ _ (⟨HN.out.cell 0 0 rfl rfl, HN.out.cell 0 1 rfl rfl, HN.out.cell 0 2 rfl rfl, HN.out.cell 1 0 rfl rfl, HN.out.cell 1 1 rfl rfl, HN.out.cell 1 2 rfl rfl, HN.out.cell 3 0 rfl rfl, HN.out.cell 3 1 rfl rfl⟩) (fun hHeld2 => ?_)
          clear hK K hHeld
          rename _ => hHeld
          try simp only [Act.put, stB, stZ, stS]
          refine wpAnyH_ready (rs := [5, 11]) (by kernel_rfl) (by simp) ?_
          refine (AllReadyH.cons rfl (fun K hK => ?_) (AllReadyH.cons rfl (fun K hK => ?_) AllReadyH.nil))
          · skip
            go_simp
            refine (HPM.out _ _ _ _ _ (HN.out.nat 5 rfl) (HN.out.nat 6 rfl)).mono ?_
            rintro e w4 ⟨a4, c4, rfl, hq0, hb⟩
            replace HN := Lib.hid ((HN.out.call hb).got hq0)
            clear hb hq0
            go_wp2_with fail
            refine hK.out _ _ (⟨HN.out.cell 0 0 rfl rfl, HN.out.cell 0 1 rfl rfl, HN.out.cell 0 2 rfl rfl, HN.out.cell 1 0 rfl rfl, HN.out.cell 1 1 rfl rfl, HN.out.cell 1 2 rfl rfl, HN.out.cell 3 0 rfl rfl, HN.out.cell 3 1 rfl rfl⟩) (fun hHeld2 => ?_)
            clear hK K hHeld
            rename _ => hHeld
            try simp only [Act.put, stB, stZ, stS]
            refine wpAnyH_ready (rs := [6, 11]) (by kernel_rfl) (by simp) ?_
            refine (AllReadyH.cons rfl (fun K hK => ?_) (AllReadyH.cons rfl (fun K hK => ?_) AllReadyH.nil))
            · skip
              go_simp
              refine (HNI.out _ _ _ (HN.out.nat 7 rfl)).mono ?_
              rintro e w5 ⟨a7, c7, rfl, hq0, hb⟩
              replace HN := Lib.hid ((HN.out.call hb).got hq0)
              clear hb hq0
              go_wp2_with fail
              refine hK.out _ _ (⟨HN.out.cell 0 0 rfl rfl, HN.out.cell 0 1 rfl rfl, HN.out.cell 0 2 rfl rfl, HN.out.cell 1 0 rfl rfl, HN.out.cell 1 1 rfl rfl, HN.out.cell 1 2 rfl rfl, HN.out.cell 3 0 rfl rfl, HN.out.cell 3 1 rfl rfl⟩) (fun hHeld2 => ?_)
              clear hK K hHeld
              rename _ => hHeld
              try simp only [Act.put, stB, stZ, stS]
              refine wpAnyH_ready (rs := [7, 11]) (by kernel_rfl) (by simp) ?_
              refine (AllReadyH.cons rfl (fun K hK => ?_) (AllReadyH.cons rfl (fun K hK => ?_) AllReadyH.nil))
              · skip
                go_simp
                refine (HRN.out _ _ _ _ _ (HN.out.nat 4 rfl) (HN.out.nat 8 rfl)).mono ?_
                rintro e w6 ⟨a8, c8, b9, d9, rfl, hq0, hq1, hb⟩
                replace HN := Lib.hid (((HN.out.call hb).got hq0).got hq1)
                clear hb hq0 hq1
                go_wp2_with fail
                refine hK.out _ _ (⟨HN.out.cell 0 0 rfl rfl, HN.out.cell 0 1 rfl rfl, HN.out.cell 0 2 rfl rfl, HN.out.cell 1 0 rfl rfl, HN.out.cell 1 1 rfl rfl, HN.out.cell 1 2 rfl rfl, HN.out.cell 3 0 rfl rfl, HN.out.cell 3 1 rfl rfl⟩) (fun hHeld2 => ?_)
                clear hK K hHeld
                rename _ => hHeld
                try simp only [Act.put, stB, stZ, stS]
                refine tk 8 (some 19) (v := ?_) rfl rfl ?_ ?_
                rotate_left
                · (intro w _; go_simp; (try with_reducible rfl))
                simp only [Act.put, stB, stZ, stS]
                refine tk 9 (some 28) (v := ?_) rfl rfl ?_ ?_
                rotate_left
                · (intro w _; go_simp; (try with_reducible rfl))
                simp only [Act.put, stB, stZ, stS]
                refine tk 10 (some 29) (v := ?_) rfl rfl ?_ ?_
                rotate_left
                · (intro w _; go_simp; (try with_reducible rfl))
                simp only [Act.put, stB, stZ, stS]
                refine wpAnyH_ready (rs := [11]) (by kernel_rfl) (by simp) ?_
                refine (AllReadyH.cons rfl (fun K hK => ?_) AllReadyH.nil)
                go_simp
                replace HN := Lib.hid (HN.out.alloc (p := w6.heap.size) rfl 51 [.bool false, .slice none 0 0, .slice none 0 0] rfl)
                generalize w6.alloc (.cells #[.bool false, .slice none 0 0, .slice none 0 0] 51) = wa7 at HN ⊢
                refine hK.out _ _ (⟨HN.out.cell 0 0 rfl rfl, HN.out.cell 0 1 rfl rfl, HN.out.cell 0 2 rfl rfl, HN.out.cell 1 0 rfl rfl, HN.out.cell 1 1 rfl rfl, HN.out.cell 1 2 rfl rfl, HN.out.cell 3 0 rfl rfl, HN.out.cell 3 1 rfl rfl⟩) (fun hHeld2 => ?_)
                clear hK K hHeld
                rename _ => hHeld
                try simp only [Act.put, stB, stZ, stS]
                refine wpAnyH_ready (rs := [12]) (by kernel_rfl) (by simp) ?_
                refine (AllReadyH.cons rfl (fun K hK => ?_) AllReadyH.nil)
                have hc0 := HN.out.cell 4 0 rfl rfl
                have hf0 := HN.out.free 4 0 rfl
                have hc1 := HN.out.cell 4 1 rfl rfl
                have hf1 := HN.out.free 4 1 rfl
                have hc2 := HN.out.cell 4 2 rfl rfl
                have hf2 := HN.out.free 4 2 rfl
                go_simp
                clear hc0 hf0 hc1 hf1 hc2 hf2
                replace HN := Lib.hid ((((HN.out).set 4 0 rfl rfl (fun _ => by simp) (.bool (decide (r.num < 0)))).set 4 1 rfl rfl (fun _ => by simp) (.slice a8 (lenW r.num.natAbs) c8)).set 4 2 rfl rfl (fun _ => by simp) (.slice b9 (lenW (denN r.den)) d9))
                generalize (((wa7.setCell ⟨w6.heap.size, 0, none⟩ (.bool (decide (r.num < 0)))).setCell ⟨w6.heap.size, 1, none⟩ (.slice a8 (lenW r.num.natAbs) c8)).setCell ⟨w6.heap.size, 2, none⟩ (.slice b9 (lenW (denN r.den)) d9)) = wa8 at HN ⊢
                refine hK.out _ _ (⟨HN.out.cell 0 0 rfl rfl, HN.out.cell 0 1 rfl rfl, HN.out.cell 0 2 rfl rfl, HN.out.cell 1 0 rfl rfl, HN.out.cell 1 1 rfl rfl, HN.out.cell 1 2 rfl rfl, HN.out.cell 3 0 rfl rfl, HN.out.cell 3 1 rfl rfl⟩) (fun hHeld2 => ?_)
                clear hK K hHeld
                rename _ => hHeld
                try simp only [Act.put, stB, stZ, stS]
                refine tk 13 (some 7) (v := ?_) rfl rfl ?_ ?_
                rotate_left
                · (intro w _; go_simp; (try with_reducible rfl))
                simp only [Act.put, stB, stZ, stS]
                refine wpAnyH_done (by kernel_rfl) ?_ _
                go_wp2_with fail
                go_meet
                exact ⟨_, _, _, _, _, rfl, HN.out.only (List.Sublist.refl _) (fun z hz => by
                  simp only [List.mem_cons, List.not_mem_nil, or_false] at hz
                  rcases hz with rfl | rfl <;> simp)⟩
              · skip
                go_simp
                replace HN := Lib.hid (HN.out.alloc (p := w5.heap.size) rfl 51 [.bool false, .slice none 0 0, .slice none 0 0] rfl)
                generalize w5.alloc (.cells #[.bool false, .slice none 0 0, .slice none 0 0] 51) = wa6 at HN ⊢
                refine hK.out _ _ (⟨HN.out.cell 0 0 rfl rfl, HN.out.cell 0 1 rfl rfl, HN.out.cell 0 2 rfl rfl, HN.out.cell 1 0 rfl rfl, HN.out.cell 1 1 rfl rfl, HN.out.cell 1 2 rfl rfl, HN.out.cell 3 0 rfl rfl, HN.out.cell 3 1 rfl rfl⟩) (fun hHeld2 => ?_)
                clear hK K hHeld
                rename _ => hHeld
                try simp only [Act.put, stB, stZ, stS]
                refine wpAnyH_ready (rs := [7]) (by kernel_rfl) (by simp) ?_
                refine (AllReadyH.cons rfl (fun K hK => ?_) AllReadyH.nil)
                go_simp
                refine (HRN.out _ _ _ _ _ (HN.out.nat 4 rfl) (HN.out.nat 8 rfl)).mono ?_
                rintro e w7 ⟨a8, c8, b9, d9, rfl, hq0, hq1, hb⟩
                replace HN := Lib.hid (((HN.out.call hb).got hq0).got hq1)
                clear hb hq0 hq1
                go_wp2_with fail
                refine hK.out _ _ (⟨HN.out.cell 0 0 rfl rfl, HN.out.cell 0 1 rfl rfl, HN.out.cell 0 2 rfl rfl, HN.out.cell 1 0 rfl rfl, HN.out.cell 1 1 rfl rfl, HN.out.cell 1 2 rfl rfl, HN.out.cell 3 0 rfl rfl, HN.out.cell 3 1 rfl rfl⟩) (fun hHeld2 => ?_)
                clear hK K hHeld
                rename _ => hHeld
                try simp only [Act.put, stB, stZ, stS]
                refine tk 8 (some 19) (v := ?_) rfl rfl ?_ ?_
                rotate_left
                · (intro w _; go_simp; (try with_reducible rfl))
                simp only [Act.put, stB, stZ, stS]
                refine tk 9 (some 28) (v := ?_) rfl rfl ?_ ?_
                rotate_left
                · (intro w _; go_simp; (try with_reducible rfl))
                simp only [Act.put, stB, stZ, stS]
                refine tk 10 (some 29) (v := ?_) rfl rfl ?_ ?_
                rotate_left
                · (intro w _; go_simp; (try with_reducible rfl))
                simp only [Act.put, stB, stZ, stS]
                refine wpAnyH_ready (rs := [12]) (by kernel_rfl) (by simp) ?_
                refine (AllReadyH.cons rfl (fun K hK => ?_) AllReadyH.nil)
                have hc0 := HN.out.cell 4 0 rfl rfl
                have hf0 := HN.out.free 4 0 rfl
                have hc1 := HN.out.cell 4 1 rfl rfl
                have hf1 := HN.out.free 4 1 rfl
                have hc2 := HN.out.cell 4 2 rfl rfl
                have hf2 := HN.out.free 4 2 rfl
                go_simp
                clear hc0 hf0 hc1 hf1 hc2 hf2
                replace HN := Lib.hid ((((HN.out).set 4 0 rfl rfl (fun _ => by simp) (.bool (decide (r.num < 0)))).set 4 1 rfl rfl (fun _ => by simp) (.slice a8 (lenW r.num.natAbs) c8)).set 4 2 rfl rfl (fun _ => by simp) (.slice b9 (lenW (denN r.den)) d9))
                generalize (((w7.setCell ⟨w5.heap.size, 0, none⟩ (.bool (decide (r.num < 0)))).setCell ⟨w5.heap.size, 1, none⟩ (.slice a8 (lenW r.num.natAbs) c8)).setCell ⟨w5.heap.size, 2, none⟩ (.slice b9 (lenW (denN r.den)) d9)) = wa8 at HN ⊢
                refine hK.out _ _ (⟨HN.out.cell 0 0 rfl rfl, HN.out.cell 0 1 rfl rfl, HN.out.cell 0 2 rfl rfl, HN.out.cell 1 0 rfl rfl, HN.out.cell 1 1 rfl rfl, HN.out.cell 1 2 rfl rfl, HN.out.cell 3 0 rfl rfl, HN.out.cell 3 1 rfl rfl⟩) (fun hHeld2 => ?_)
                clear hK K hHeld
                rename _ => hHeld
                try simp only [Act.put, stB, stZ, stS]
                refine tk 13 (some 7) (v := ?_) rfl rfl ?_ ?_
                rotate_left
                · (intro w _; go_simp; (try with_reducible rfl))
                simp only [Act.put, stB, stZ, stS]
                refine wpAnyH_done (by kernel_rfl) ?_ _
                go_wp2_with fail
                go_meet
                exact ⟨_, _, _, _, _, rfl, HN.out.only (List.Sublist.refl _) (fun z hz => by
                  simp only [List.mem_cons, List.not_mem_nil, or_false] at hz
                  rcases hz with rfl | rfl <;> simp)⟩
            · skip
              go_simp
              replace HN := Lib.hid (HN.out.alloc (p := w4.heap.size) rfl 51 [.bool false, .slice none 0 0, .slice none 0 0] rfl)
              generalize w4.alloc (.cells #[.bool false, .slice none 0 0, .slice none 0 0] 51) = wa5 at HN ⊢
              refine hK.out _ _ (⟨HN.out.cell 0 0 rfl rfl, HN.out.cell 0 1 rfl rfl, HN.out.cell 0 2 rfl rfl, HN.out.cell 1 0 rfl rfl, HN.out.cell 1 1 rfl rfl, HN.out.cell 1 2 rfl rfl, HN.out.cell 3 0 rfl rfl, HN.out.cell 3 1 rfl rfl⟩) (fun hHeld2 => ?_)
              clear hK K hHeld
              rename _ => hHeld
              try simp only [Act.put, stB, stZ, stS]
              refine wpAnyH_ready (rs := [6]) (by kernel_rfl) (by simp) ?_
              refine (AllReadyH.cons rfl (fun K hK => ?_) AllReadyH.nil)
              go_simp
              refine (HNI.out _ _ _ (HN.out.nat 7 rfl)).mono ?_
              rintro e w6 ⟨a7, c7, rfl, hq0, hb⟩
              replace HN := Lib.hid ((HN.out.call hb).got hq0)
              clear hb hq0
              go_wp2_with fail
              refine hK.out _ _ (⟨HN.out.cell 0 0 rfl rfl, HN.out.cell 0 1 rfl rfl, HN.out.cell 0 2 rfl rfl, HN.out.cell 1 0 rfl rfl, HN.out.cell 1 1 rfl rfl, HN.out.cell 1 2 rfl rfl, HN.out.cell 3 0 rfl rfl, HN.out.cell 3 1 rfl rfl⟩) (fun hHeld2 => ?_)
              clear hK K hHeld
              rename _ => hHeld
              try simp only [Act.put, stB, stZ, stS]
              refine wpAnyH_ready (rs := [7]) (by kernel_rfl) (by simp) ?_
              refine (AllReadyH.cons rfl (fun K hK => ?_) AllReadyH.nil)
              go_simp
              refine (HRN.out _ _ _ _ _ (HN.out.nat 4 rfl) (HN.out.nat 8 rfl)).mono ?_
              rintro e w7 ⟨a8, c8, b9, d9, rfl, hq0, hq1, hb⟩
              replace HN := Lib.hid (((HN.out.call hb).got hq0).got hq1)
              clear hb hq0 hq1
              go_wp2_with fail
              refine hK.out _ _ (⟨HN.out.cell 0 0 rfl rfl, HN.out.cell 0 1 rfl rfl, HN.out.cell 0 2 rfl rfl, HN.out.cell 1 0 rfl rfl, HN.out.cell 1 1 rfl rfl, HN.out.cell 1 2 rfl rfl, HN.out.cell 3 0 rfl rfl, HN.out.cell 3 1 rfl rfl⟩) (fun hHeld2 => ?_)
              clear hK K hHeld
              rename _ => hHeld
              try simp only [Act.put, stB, stZ, stS]
              refine tk 8 (some 19) (v := ?_) rfl rfl ?_ ?_
              rotate_left
              · (intro w _; go_simp; (try with_reducible rfl))
              simp only [Act.put, stB, stZ, stS]
              refine tk 9 (some 28) (v := ?_) rfl rfl ?_ ?_
              rotate_left
              · (intro w _; go_simp; (try with_reducible rfl))
              simp only [Act.put, stB, stZ, stS]
              refine tk 10 (some 29) (v := ?_) rfl rfl ?_ ?_
              rotate_left
              · (intro w _; go_simp; (try with_reducible rfl))
              simp only [Act.put, stB, stZ, stS]
              refine wpAnyH_ready (rs := [12]) (by kernel_rfl) (by simp) ?_
              refine (AllReadyH.cons rfl (fun K hK => ?_) AllReadyH.nil)
              have hc0 := HN.out.cell 4 0 rfl rfl
              have hf0 := HN.out.free 4 0 rfl
              have hc1 := HN.out.cell 4 1 rfl rfl
              have hf1 := HN.out.free 4 1 rfl
              have hc2 := HN.out.cell 4 2 rfl rfl
              have hf2 := HN.out.free 4 2 rfl
              go_simp
              clear hc0 hf0 hc1 hf1 hc2 hf2
              replace HN := Lib.hid ((((HN.out).set 4 0 rfl rfl (fun _ => by simp) (.bool (decide (r.num < 0)))).set 4 1 rfl rfl (fun _ => by simp) (.slice a8 (lenW r.num.natAbs) c8)).set 4 2 rfl rfl (fun _ => by simp) (.slice b9 (lenW (denN r.den)) d9))
              generalize (((w7.setCell ⟨w4.heap.size, 0, none⟩ (.bool (decide (r.num < 0)))).setCell ⟨w4.heap.size, 1, none⟩ (.slice a8 (lenW r.num.natAbs) c8)).setCell ⟨w4.heap.size, 2, none⟩ (.slice b9 (lenW (denN r.den)) d9)) = wa8 at HN ⊢
              refine hK.out _ _ (⟨HN.out.cell 0 0 rfl rfl, HN.out.cell 0 1 rfl rfl, HN.out.cell 0 2 rfl rfl, HN.out.cell 1 0 rfl rfl, HN.out.cell 1 1 rfl rfl, HN.out.cell 1 2 rfl rfl, HN.out.cell 3 0 rfl rfl, HN.out.cell 3 1 rfl rfl⟩) (fun hHeld2 => ?_)
              clear hK K hHeld
              rename _ => hHeld
              try simp only [Act.put, stB, stZ, stS]
              refine tk 13 (some 7) (v := ?_) rfl rfl ?_ ?_
              rotate_left
              · (intro w _; go_simp; (try with_reducible rfl))
              simp only [Act.put, stB, stZ, stS]
              refine wpAnyH_done (by kernel_rfl) ?_ _
              go_wp2_with fail
              go_meet
              exact ⟨_, _, _, _, _, rfl, HN.out.only (List.Sublist.refl _) (fun z hz => by
                simp only [List.mem_cons, List.not_mem_nil, or_false] at hz
                rcases hz with rfl | rfl <;> simp)⟩
          · skip
            go_simp
            replace HN := Lib.hid (HN.out.alloc (p := w3.heap.size) rfl 51 [.bool false, .slice none 0 0, .slice none 0 0] rfl)
            generalize w3.alloc (.cells #[.bool false, .slice none 0 0, .slice none 0 0] 51) = wa4 at HN ⊢
            refine hK.out _ _ (⟨HN.out.cell 0 0 rfl rfl, HN.out.cell 0 1 rfl rfl, HN.out.cell 0 2 rfl rfl, HN.out.cell 1 0 rfl rfl, HN.out.cell 1 1 rfl rfl, HN.out.cell 1 2 rfl rfl, HN.out.cell 3 0 rfl rfl, HN.out.cell 3 1 rfl rfl⟩) (fun hHeld2 => ?_)
            clear hK K hHeld
            rename _ => hHeld
            try simp only [Act.put, stB, stZ, stS]
            refine wpAnyH_ready (rs := [5]) (by kernel_rfl) (by simp) ?_
            refine (AllReadyH.cons rfl (fun K hK => ?_) AllReadyH.nil)
            go_simp
            refine (HPM.out _ _ _ _ _ (HN.out.nat 5 rfl) (HN.out.nat 6 rfl)).mono ?_
            rintro e w5 ⟨a4, c4, rfl, hq0, hb⟩
            replace HN := Lib.hid ((HN.out.call hb).got hq0)
            clear hb hq0
            go_wp2_with fail
            refine hK.out _ _ (⟨HN.out.cell 0 0 rfl rfl, HN.out.cell 0 1 rfl rfl, HN.out.cell 0 2 rfl rfl, HN.out.cell 1 0 rfl rfl, HN.out.cell 1 1 rfl rfl, HN.out.cell 1 2 rfl rfl, HN.out.cell 3 0 rfl rfl, HN.out.cell 3 1 rfl rfl⟩) (fun hHeld2 => ?_)
            clear hK K hHeld
            rename _ => hHeld
            try simp only [Act.put, stB, stZ, stS]
            refine wpAnyH_ready (rs := [6]) (by kernel_rfl) (by simp) ?_
            refine (AllReadyH.cons rfl (fun K hK => ?_) AllReadyH.nil)
            go_simp
            refine (HNI.out _ _ _ (HN.out.nat 7 rfl)).mono ?_
            rintro e w6 ⟨a7, c7, rfl, hq0, hb⟩
            replace HN := Lib.hid ((HN.out.call hb).got hq0)
            clear hb hq0
            go_wp2_with fail
            refine hK.out _ _ (⟨HN.out.cell 0 0 rfl rfl, HN.out.cell 0 1 rfl rfl, HN.out.cell 0 2 rfl rfl, HN.out.cell 1 0 rfl rfl, HN.out.cell 1 1 rfl rfl, HN.out.cell 1 2 rfl rfl, HN.out.cell 3 0 rfl rfl, HN.out.cell 3 1 rfl rfl⟩) (fun hHeld2 => ?_)
            clear hK K hHeld
            rename _ => hHeld
            try simp only [Act.put, stB, stZ, stS]
            refine wpAnyH_ready (rs := [7]) (by kernel_rfl) (by simp) ?_
            refine (AllReadyH.cons rfl (fun K hK => ?_) AllReadyH.nil)
            go_simp
            refine (HRN.out _ _ _ _ _ (HN.out.nat 4 rfl) (HN.out.nat 8 rfl)).mono ?_
            rintro e w7 ⟨a8, c8, b9, d9, rfl, hq0, hq1, hb⟩
            replace HN := Lib.hid (((HN.out.call hb).got hq0).got hq1)
            clear hb hq0 hq1
            go_wp2_with fail
            refine hK.out _ _ (⟨HN.out.cell 0 0 rfl rfl, HN.out.cell 0 1 rfl rfl, HN.out.cell 0 2 rfl rfl, HN.out.cell 1 0 rfl rfl, HN.out.cell 1 1 rfl rfl, HN.out.cell 1 2 rfl rfl, HN.out.cell 3 0 rfl rfl, HN.out.cell 3 1 rfl rfl⟩) (fun hHeld2 => ?_)
            clear hK K hHeld
            rename _ => hHeld
            try simp only [Act.put, stB, stZ, stS]
            refine tk 8 (some 19) (v := ?_) rfl rfl ?_ ?_
            rotate_left
            · (intro w _; go_simp; (try with_reducible rfl))
            simp only [Act.put, stB, stZ, stS]
            refine tk 9 (some 28) (v := ?_) rfl rfl ?_ ?_
            rotate_left
            · (intro w _; go_simp; (try with_reducible rfl))
            simp only [Act.put, stB, stZ, stS]
            refine tk 10 (some 29) (v := ?_) rfl rfl ?_ ?_
            rotate_left
            · (intro w _; go_simp; (try with_reducible rfl))
            simp only [Act.put, stB, stZ, stS]
            refine wpAnyH_ready (rs := [12]) (by kernel_rfl) (by simp) ?_
            refine (AllReadyH.cons rfl (fun K hK => ?_) AllReadyH.nil)
            have hc0 := HN.out.cell 4 0 rfl rfl
            have hf0 := HN.out.free 4 0 rfl
            have hc1 := HN.out.cell 4 1 rfl rfl
            have hf1 := HN.out.free 4 1 rfl
            have hc2 := HN.out.cell 4 2 rfl rfl
            have hf2 := HN.out.free 4 2 rfl
            go_simp
            clear hc0 hf0 hc1 hf1 hc2 hf2
            replace HN := Lib.hid ((((HN.out).set 4 0 rfl rfl (fun _ => by simp) (.bool (decide (r.num < 0)))).set 4 1 rfl rfl (fun _ => by simp) (.slice a8 (lenW r.num.natAbs) c8)).set 4 2 rfl rfl (fun _ => by simp) (.slice b9 (lenW (denN r.den)) d9))
            generalize (((w7.setCell ⟨w3.heap.size, 0, none⟩ (.bool (decide (r.num < 0)))).setCell ⟨w3.heap.size, 1, none⟩ (.slice a8 (lenW r.num.natAbs) c8)).setCell ⟨w3.heap.size, 2, none⟩ (.slice b9 (lenW (denN r.den)) d9)) = wa8 at HN ⊢
            refine hK.out _ _ (⟨HN.out.cell 0 0 rfl rfl, HN.out.cell 0 1 rfl rfl, HN.out.cell 0 2 rfl rfl, HN.out.cell 1 0 rfl rfl, HN.out.cell 1 1 rfl rfl, HN.out.cell 1 2 rfl rfl, HN.out.cell 3 0 rfl rfl, HN.out.cell 3 1 rfl rfl⟩) (fun hHeld2 => ?_)
            clear hK K hHeld
            rename _ => hHeld
            try simp only [Act.put, stB, stZ, stS]
            refine tk 13 (some 7) (v := ?_) rfl rfl ?_ ?_
            rotate_left
            · (intro w _; go_simp; (try with_reducible rfl))
            simp only [Act.put, stB, stZ, stS]
            refine wpAnyH_done (by kernel_rfl) ?_ _
            go_wp2_with fail
            go_meet
            exact ⟨_, _, _, _, _, rfl, HN.out.only (List.Sublist.refl _) (fun z hz => by
              simp only [List.mem_cons, List.not_mem_nil, or_false] at hz
              rcases hz with rfl | rfl <;> simp)⟩
        · skip
          go_simp
          replace HN := Lib.hid (HN.out.alloc (p := w2.heap.size) rfl 51 [.bool false, .slice none 0 0, .slice none 0 0] rfl)
          generalize w2.alloc (.cells #[.bool false, .slice none 0 0, .slice none 0 0] 51) = wa3 at HN ⊢
          refine hK.out _ _ (⟨HN.out.cell 0 0 rfl rfl, HN.out.cell 0 1 rfl rfl, HN.out.cell 0 2 rfl rfl, HN.out.cell 1 0 rfl rfl, HN.out.cell 1 1 rfl rfl, HN.out.cell 1 2 rfl rfl, HN.out.cell 3 0 rfl rfl, HN.out.cell 3 1 rfl rfl⟩) (fun hHeld2 => ?_)
          clear hK K hHeld
          rename _ => hHeld
          try simp only [Act.put, stB, stZ, stS]
          refine wpAnyH_ready (rs := [4]) (by kernel_rfl) (by simp) ?_
          refine (AllReadyH.cons rfl (fun K hK => ?_) AllReadyH.nil)
          go_simp
          refine (HDq.out _ (HN.out.nat 3 rfl)).mono ?_
          rintro e w4 ⟨a3, c3, rfl, hq0, hb⟩
          replace HN := Lib.hid ((HN.out.call hb).got hq0)
          clear hb hq0
          go_wp2_with fail
          refine hK.out _ _ (⟨HN.out.cell 0 0 rfl rfl, HN.out.cell 0 1 rfl rfl, HN.out.cell 0 2 rfl rfl, HN.out.cell 1 0 rfl rfl, HN.out.cell 1 1 rfl rfl, HN.out.cell 1 2 rfl rfl, HN.out.cell 3 0 rfl rfl, HN.out.cell 3 1 rfl rfl⟩) (fun hHeld2 => ?_)
          clear hK K hHeld
          rename _ => hHeld
          try simp only [Act.put, stB, stZ, stS]
          refine wpAnyH_ready (rs := [5]) (by kernel_rfl) (by simp) ?_
          refine (AllReadyH.cons rfl (fun K hK => ?_) AllReadyH.nil)
          go_simp
          refine (HPM.out _ _ _ _ _ (HN.out.nat 5 rfl) (HN.out.nat 6 rfl)).mono ?_
          rintro e w5 ⟨a4, c4, rfl, hq0, hb⟩
          replace HN := Lib.hid ((HN.out.call hb).got hq0)
          clear hb hq0
          go_wp2_with fail
          refine hK.out _ _ (⟨HN.out.cell 0 0 rfl rfl, HN.out.cell 0 1 rfl rfl, HN.out.cell 0 2 rfl rfl, HN.out.cell 1 0 rfl rfl, HN.out.cell 1 1 rfl rfl, HN.out.cell 1 2 rfl rfl, HN.out.cell 3 0 rfl rfl, HN.out.cell 3 1 rfl rfl⟩) (fun hHeld2 => ?_)
          clear hK K hHeld
          rename _ => hHeld
          try simp only [Act.put, stB, stZ, stS]
          refine wpAnyH_ready (rs := [6]) (by kernel_rfl) (by simp) ?_
          refine (AllReadyH.cons rfl (fun K hK => ?_) AllReadyH.nil)
          go_simp
          refine (HNI.out _ _ _ (HN.out.nat 7 rfl)).mono ?_
          rintro e w6 ⟨a7, c7, rfl, hq0, hb⟩
          replace HN := Lib.hid ((HN.out.call hb).got hq0)
          clear hb hq0
          go_wp2_with fail
          refine hK.out _ _ (⟨HN.out.cell 0 0 rfl rfl, HN.out.cell 0 1 rfl rfl, HN.out.cell 0 2 rfl rfl, HN.out.cell 1 0 rfl rfl, HN.out.cell 1 1 rfl rfl, HN.out.cell 1 2 rfl rfl, HN.out.cell 3 0 rfl rfl, HN.out.cell 3 1 rfl rfl⟩) (fun hHeld2 => ?_)
          clear hK K hHeld
          rename _ => hHeld
          try simp only [Act.put, stB, stZ, stS]
          refine wpAnyH_ready (rs := [7]) (by kernel_rfl) (by simp) ?_
          refine (AllReadyH.cons rfl (fun K hK => ?_) AllReadyH.nil)
          go_simp
          refine (HRN.out _ _ _ _ _ (HN.out.nat 4 rfl) (HN.out.nat 8 rfl)).mono ?_
          rintro e w7 ⟨a8, c8, b9, d9, rfl, hq0, hq1, hb⟩
          replace HN := Lib.hid (((HN.out.call hb).got hq0).got hq1)
          clear hb hq0 hq1
          go_wp2_with fail
          refine hK.out _ _ (⟨HN.out.cell 0 0 rfl rfl, HN.out.cell 0 1 rfl rfl, HN.out.cell 0 2 rfl rfl, HN.out.cell 1 0 rfl rfl, HN.out.cell 1 1 rfl rfl, HN.out.cell 1 2 rfl rfl, HN.out.cell 3 0 rfl rfl, HN.out.cell 3 1 rfl rfl⟩) (fun hHeld2 => ?_)
          clear hK K hHeld
          rename _ => hHeld
          try simp only [Act.put, stB, stZ, stS]
          refine tk 8 (some 19) (v := ?_) rfl rfl ?_ ?_
          rotate_left
          · (intro w _; go_simp; (try with_reducible rfl))
          simp only [Act.put, stB, stZ, stS]
          refine tk 9 (some 28) (v := ?_) rfl rfl ?_ ?_
          rotate_left
          · (intro w _; go_simp; (try with_reducible rfl))
          simp only [Act.put, stB, stZ, stS]
          refine tk 10 (some 29) (v := ?_) rfl rfl ?_ ?_
          rotate_left
          · (intro w _; go_simp; (try with_reducible rfl))
          simp only [Act.put, stB, stZ, stS]
          refine wpAnyH_ready (rs := [12]) (by kernel_rfl) (by simp) ?_
          refine (AllReadyH.cons rfl (fun K hK => ?_) AllReadyH.nil)
          have hc0 := HN.out.cell 4 0 rfl rfl
          have hf0 := HN.out.free 4 0 rfl
          have hc1 := HN.out.cell 4 1 rfl rfl
          have hf1 := HN.out.free 4 1 rfl
          have hc2 := HN.out.cell 4 2 rfl rfl
          have hf2 := HN.out.free 4 2 rfl
          go_simp
          clear hc0 hf0 hc1 hf1 hc2 hf2
          replace HN := Lib.hid ((((HN.out).set 4 0 rfl rfl (fun _ => by simp) (.bool (decide (r.num < 0)))).set 4 1 rfl rfl (fun _ => by simp) (.slice a8 (lenW r.num.natAbs) c8)).set 4 2 rfl rfl (fun _ => by simp) (.slice b9 (lenW (denN r.den)) d9))
          generalize (((w7.setCell ⟨w2.heap.size, 0, none⟩ (.bool (decide (r.num < 0)))).setCell ⟨w2.heap.size, 1, none⟩ (.slice a8 (lenW r.num.natAbs) c8)).setCell ⟨w2.heap.size, 2, none⟩ (.slice b9 (lenW (denN r.den)) d9)) = wa8 at HN ⊢
          refine hK.out _ _ (⟨HN.out.cell 0 0 rfl rfl, HN.out.cell 0 1 rfl rfl, HN.out.cell 0 2 rfl rfl, HN.out.cell 1 0 rfl rfl, HN.out.cell 1 1 rfl rfl, HN.out.cell 1 2 rfl rfl, HN.out.cell 3 0 rfl rfl, HN.out.cell 3 1 rfl rfl⟩) (fun hHeld2 => ?_)
          clear hK K hHeld
          rename _ => hHeld
          try simp only [Act.put, stB, stZ, stS]
          refine tk 13 (some 7) (v := ?_) rfl rfl ?_ ?_
          rotate_left
          · (intro w _; go_simp; (try with_reducible rfl))
          simp only [Act.put, stB, stZ, stS]
          refine wpAnyH_done (by kernel_rfl) ?_ _
          go_wp2_with fail
          go_meet
          exact ⟨_, _, _, _, _, rfl, HN.out.only (List.Sublist.refl _) (fun z hz => by
            simp only [List.mem_cons, List.not_mem_nil, or_false] at hz
            rcases hz with rfl | rfl <;> simp)⟩
      · skip
        go_simp
        replace HN := Lib.hid (HN.out.alloc (p := wd.heap.size) rfl 51 [.bool false, .slice none 0 0, .slice none 0 0] rfl)
        generalize wd.alloc (.cells #[.bool false, .slice none 0 0, .slice none 0 0] 51) = wa2 at HN ⊢
        refine hK.out _ _ (⟨HN.out.cell 0 0 rfl rfl, HN.out.cell 0 1 rfl rfl, HN.out.cell 0 2 rfl rfl, HN.out.cell 1 0 rfl rfl, HN.out.cell 1 1 rfl rfl, HN.out.cell 1 2 rfl rfl, HN.out.cell 3 0 rfl rfl, HN.out.cell 3 1 rfl rfl⟩) (fun hHeld2 => ?_)
        clear hK K hHeld
        rename _ => hHeld
        try simp only [Act.put, stB, stZ, stS]
        refine wpAnyH_ready (rs := [2]) (by kernel_rfl) (by simp) ?_
        refine (AllReadyH.cons rfl (fun K hK => ?_) AllReadyH.nil)
        go_simp
        refine (HDp.out _ (HN.out.nat 1 rfl)).mono ?_
        rintro e w3 ⟨a2, c2, rfl, hq0, hb⟩
        replace HN := Lib.hid ((HN.out.call hb).got hq0)
        clear hb hq0
        go_wp2_with fail
        refine hK.out _ _ (⟨HN.out.cell 0 0 rfl rfl, HN.out.cell 0 1 rfl rfl, HN.out.cell 0 2 rfl rfl, HN.out.cell 1 0 rfl rfl, HN.out.cell 1 1 rfl rfl, HN.out.cell 1 2 rfl rfl, HN.out.cell 3 0 rfl rfl, HN.out.cell 3 1 rfl rfl⟩) (fun hHeld2 => ?_)
        clear hK K hHeld
        rename _ => hHeld
        try simp only [Act.put, stB, stZ, stS]
        refine wpAnyH_ready (rs := [4]) (by kernel_rfl) (by simp) ?_
        refine (AllReadyH.cons rfl (fun K hK => ?_) AllReadyH.nil)
        go_simp
        refine (HDq.out _ (HN.out.nat 3 rfl)).mono ?_
        rintro e w4 ⟨a3, c3, rfl, hq0, hb⟩
        replace HN := Lib.hid ((HN.out.call hb).got hq0)
        clear hb hq0
        go_wp2_with fail
        refine hK.out _ _ (⟨HN.out.cell 0 0 rfl rfl, HN.out.cell 0 1 rfl rfl, HN.out.cell 0 2 rfl rfl, HN.out.cell 1 0 rfl rfl, HN.out.cell 1 1 rfl rfl, HN.out.cell 1 2 rfl rfl, HN.out.cell 3 0 rfl rfl, HN.out.cell 3 1 rfl rfl⟩) (fun hHeld2 => ?_)
        clear hK K hHeld
        rename _ => hHeld
        try simp only [Act.put, stB, stZ, stS]
        refine wpAnyH_ready (rs := [5]) (by kernel_rfl) (by simp) ?_
        refine (AllReadyH.cons rfl (fun K hK => ?_) AllReadyH.nil)
        go_simp
        refine (HPM.out _ _ _ _ _ (HN.out.nat 5 rfl) (HN.out.nat 6 rfl)).mono ?_
        rintro e w5 ⟨a4, c4, rfl, hq0, hb⟩
        replace HN := Lib.hid ((HN.out.call hb).got hq0)
        clear hb hq0
        go_wp2_with fail
        refine hK.out _ _ (⟨HN.out.cell 0 0 rfl rfl, HN.out.cell 0 1 rfl rfl, HN.out.cell 0 2 rfl rfl, HN.out.cell 1 0 rfl rfl, HN.out.cell 1 1 rfl rfl, HN.out.cell 1 2 rfl rfl, HN.out.cell 3 0 rfl rfl, HN.out.cell 3 1 rfl rfl⟩) (fun hHeld2 => ?_)
        clear hK K hHeld
        rename _ => hHeld
        try simp only [Act.put, stB, stZ, stS]
        refine wpAnyH_ready (rs := [6]) (by kernel_rfl) (by simp) ?_
        refine (AllReadyH.cons rfl (fun K hK => ?_) AllReadyH.nil)
        go_simp
        refine (HNI.out _ _ _ (HN.out.nat 7 rfl)).mono ?_
        rintro e w6 ⟨a7, c7, rfl, hq0, hb⟩
        replace HN := Lib.hid ((HN.out.call hb).got hq0)
        clear hb hq0
        go_wp2_with fail
        refine hK.out _ _ (⟨HN.out.cell 0 0 rfl rfl, HN.out.cell 0 1 rfl rfl, HN.out.cell 0 2 rfl rfl, HN.out.cell 1 0 rfl rfl, HN.out.cell 1 1 rfl rfl, HN.out.cell 1 2 rfl rfl, HN.out.cell 3 0 rfl rfl, HN.out.cell 3 1 rfl rfl⟩) (fun hHeld2 => ?_)
        clear hK K hHeld
        rename _ => hHeld
        try simp only [Act.put, stB, stZ, stS]
        refine wpAnyH_ready (rs := [7]) (by kernel_rfl) (by simp) ?_
        refine (AllReadyH.cons rfl (fun K hK => ?_) AllReadyH.nil)
        go_simp
        refine (HRN.out _ _ _ _ _ (HN.out.nat 4 rfl) (HN.out.nat 8 rfl)).mono ?_
        rintro e w7 ⟨a8, c8, b9, d9, rfl, hq0, hq1, hb⟩
        replace HN := Lib.hid (((HN.out.call hb).got hq0).got hq1)
        clear hb hq0 hq1
        go_wp2_with fail
        refine hK.out _ _ (⟨HN.out.cell 0 0 rfl rfl, HN.out.cell 0 1 rfl rfl, HN.out.cell 0 2 rfl rfl, HN.out.cell 1 0 rfl rfl, HN.out.cell 1 1 rfl rfl, HN.out.cell 1 2 rfl rfl, HN.out.cell 3 0 rfl rfl, HN.out.cell 3 1 rfl rfl⟩) (fun hHeld2 => ?_)
        clear hK K hHeld
        rename _ => hHeld
        try simp only [Act.put, stB, stZ, stS]
        refine tk 8 (some 19) (v := ?_) rfl rfl ?_ ?_
        rotate_left
        · (intro w _; go_simp; (try with_reducible rfl))
        simp only [Act.put, stB, stZ, stS]
        refine tk 9 (some 28) (v := ?_) rfl rfl ?_ ?_
        rotate_left
        · (intro w _; go_simp; (try with_reducible rfl))
        simp only [Act.put, stB, stZ, stS]
        refine tk 10 (some 29) (v := ?_) rfl rfl ?_ ?_
        rotate_left
        · (intro w _; go_simp; (try with_reducible rfl))
        simp only [Act.put, stB, stZ, stS]
        refine wpAnyH_ready (rs := [12]) (by kernel_rfl) (by simp) ?_
        refine (AllReadyH.cons rfl (fun K hK => ?_) AllReadyH.nil)
        have hc0 := HN.out.cell 4 0 rfl rfl
        have hf0 := HN.out.free 4 0 rfl
        have hc1 := HN.out.cell 4 1 rfl rfl
        have hf1 := HN.out.free 4 1 rfl
        have hc2 := HN.out.cell 4 2 rfl rfl
        have hf2 := HN.out.free 4 2 rfl
        go_simp
        clear hc0 hf0 hc1 hf1 hc2 hf2
        replace HN := Lib.hid ((((HN.out).set 4 0 rfl rfl (fun _ => by simp) (.bool (decide (r.num < 0)))).set 4 1 rfl rfl (fun _ => by simp) (.slice a8 (lenW r.num.natAbs) c8)).set 4 2 rfl rfl (fun _ => by simp) (.slice b9 (lenW (denN r.den)) d9))
        generalize (((w7.setCell ⟨wd.heap.size, 0, none⟩ (.bool (decide (r.num < 0)))).setCell ⟨wd.heap.size, 1, none⟩ (.slice a8 (lenW r.num.natAbs) c8)).setCell ⟨wd.heap.size, 2, none⟩ (.slice b9 (lenW (denN r.den)) d9)) = wa8 at HN ⊢
        refine hK.out _ _ (⟨HN.out.cell 0 0 rfl rfl, HN.out.cell 0 1 rfl rfl, HN.out.cell 0 2 rfl rfl, HN.out.cell 1 0 rfl rfl, HN.out.cell 1 1 rfl rfl, HN.out.cell 1 2 rfl rfl, HN.out.cell 3 0 rfl rfl, HN.out.cell 3 1 rfl rfl⟩) (fun hHeld2 => ?_)
        clear hK K hHeld
        rename _ => hHeld
        try simp only [Act.put, stB, stZ, stS]
        refine tk 13 (some 7) (v := ?_) rfl rfl ?_ ?_
        rotate_left
        · (intro w _; go_simp; (try with_reducible rfl))
        simp only [Act.put, stB, stZ, stS]
        refine wpAnyH_done (by kernel_rfl) ?_ _
        go_wp2_with fail
        go_meet
        exact ⟨_, _, _, _, _, rfl, HN.out.only (List.Sublist.refl _) (fun z hz => by
          simp only [List.mem_cons, List.not_mem_nil, or_false] at hz
          rcases hz with rfl | rfl <;> simp)⟩
    case rest =>
      obtain ⟨w2, rfl⟩ : ∃ w2 : World, w2 = wc := ⟨_, rfl⟩
      obtain ⟨p6, a8, c8, b9, d9, rfl, hn0⟩ := hcut
      have HN := Lib.hid hn0
      clear hn0
      have k00 := HN.out.cell 0 0 rfl rfl
      have f00 := HN.out.free 0 0 rfl
      have k01 := HN.out.cell 0 1 rfl rfl
      have f01 := HN.out.free 0 1 rfl
      have k02 := HN.out.cell 0 2 rfl rfl
      have f02 := HN.out.free 0 2 rfl
      have k10 := HN.out.cell 1 0 rfl rfl
      have f10 := HN.out.free 1 0 rfl
      have k11 := HN.out.cell 1 1 rfl rfl
      have f11 := HN.out.free 1 1 rfl
      have k12 := HN.out.cell 1 2 rfl rfl
      have f12 := HN.out.free 1 2 rfl
      have k20 := HN.out.cell 2 0 rfl rfl
      have f20 := HN.out.free 2 0 rfl
      have k21 := HN.out.cell 2 1 rfl rfl
      have f21 := HN.out.free 2 1 rfl
      have k22 := HN.out.cell 2 2 rfl rfl
      have f22 := HN.out.free 2 2 rfl
      have k30 := HN.out.cell 3 0 rfl rfl
      have f30 := HN.out.free 3 0 rfl
      have k31 := HN.out.cell 3 1 rfl rfl
      have f31 := HN.out.free 3 1 rfl
      have k40 := HN.out.cell 4 0 rfl rfl
      have f40 := HN.out.free 4 0 rfl
      have k41 := HN.out.cell 4 1 rfl rfl
      have f41 := HN.out.free 4 1 rfl
      have k42 := HN.out.cell 4 2 rfl rfl
      have f42 := HN.out.free 4 2 rfl
      have HE := Lib.hid ((((HN.out).set 2 0 rfl rfl (fun _ => by simp) (.bool (decide (r.num < 0)))).set 2 1 rfl rfl (fun _ => by simp) (.slice a8 (lenW r.num.natAbs) c8)).set 2 2 rfl rfl (fun _ => by simp) (.slice b9 (lenW (denN r.den)) d9))
      have j0_2 := HE.out.cell 2 0 rfl rfl
      have j1_2 := HE.out.cell 2 1 rfl rfl
      have j2_2 := HE.out.cell 2 2 rfl rfl
      go_wp2_with fail
      refine bodyPost_ret (v := .agg #[.bool (decide (r.num < 0)), .slice a8 (lenW r.num.natAbs) c8, .slice b9 (lenW (denN r.den)) d9]) (by simp [results, Tryz.results35, go_sem, j0_2, j1_2, j2_2, k00, k01, k02, k10, k11, k12, k20, k21, k22, k30, k31, k40, k41, k42]) rfl ?_
      exact ⟨a8, c8, b9, d9, rfl, HE.out.nat 0 rfl, HE.out.nat 1 rfl, HE.out.bel⟩
end Go.Proofs.YtaehklhbokocbaaGreatDoor
