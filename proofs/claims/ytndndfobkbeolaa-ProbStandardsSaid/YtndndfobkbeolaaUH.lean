/-
  What the laws stand on, part H: contracts and plain laws of Rat4, Rat5; the conditions are each law's own.
-/
import Derived.Test.YtndndfobkbeolaaUB
set_option linter.unusedVariables false
set_option linter.unusedSimpArgs false
namespace Go.Proofs.Ytndndfobkbeolaa
open Go.RowKit Go.Extern.Stop Go.Stop Go.Extern
theorem lenW_mulI (x y : Int) : lenW (x * y).natAbs ≤ lenW x.natAbs + lenW y.natAbs := by rw [Int.natAbs_mul]; exact lenW_mul _ _
set_option maxRecDepth 100000 in
set_option maxHeartbeats 16000000 in
theorem radd_any {K K2 L : Nat} (hK : MulUpto K) (hKs : K ≤ 17592186044416) (hKL : L ≤ K2) (hD : DivUpto K2 L) (p q : Rat) (a b e f : Option Addr) (c d i g : Nat) (w : World) (ha : NatW w a c p.num.natAbs) (hb : NatW w b d (denN p.den)) (he : NatW w e i q.num.natAbs) (hf : NatW w f g (denN q.den)) (h1 : lenW p.num.natAbs + lenW (q.den : Int).natAbs ≤ K) (h2 : lenW q.num.natAbs + lenW (p.den : Int).natAbs ≤ K) (h3 : lenW p.den + lenW q.den ≤ K) (h4 : lenW (p.num * (q.den : Int) + q.num * (p.den : Int)).natAbs ≤ K2) (h5 : lenW ((p.den * q.den : Nat) : Int).natAbs ≤ L) : Calls Try.prog 16 #[ratV a c b d p, ratV e i f g q] w (RetR (p + q) w) := by
  have hBq := fun (W : World) (h : NatW W f g (denN q.den)) => rbelow_any (decide (q.num < 0)) e f (lenW q.num.natAbs) i g q W h
  have hBp := fun (W : World) (h : NatW W b d (denN p.den)) => rbelow_any (decide (p.num < 0)) a b (lenW p.num.natAbs) c d p W h
  have hM1 := fun (a2 : Option Addr) (c2 : Nat) (W : World) (q1 : NatW W a c p.num.natAbs) (q2 : NatW W a2 c2 (q.den : Int).natAbs) => imul_any hK p.num (q.den : Int) a a2 c c2 W q1 q2 h1
  have hM2 := fun (a2 : Option Addr) (c2 : Nat) (W : World) (q1 : NatW W e i q.num.natAbs) (q2 : NatW W a2 c2 (p.den : Int).natAbs) => imul_any hK q.num (p.den : Int) e a2 i c2 W q1 q2 h2
  have hI1 := Nat.le_trans (lenW_mulI p.num (q.den : Int)) (Nat.le_trans h1 hKs)
  have hI2 := Nat.le_trans (lenW_mulI q.num (p.den : Int)) (Nat.le_trans h2 hKs)
  have hA := fun (a2 a3 : Option Addr) (c2 c3 : Nat) (W : World) (q1 : NatW W a2 c2 (p.num * (q.den : Int)).natAbs) (q2 : NatW W a3 c3 (q.num * (p.den : Int)).natAbs) => iadd_any (p.num * (q.den : Int)) (q.num * (p.den : Int)) a2 a3 c2 c3 W q1 q2 hI1 hI2
  have hDp := fun (W : World) (h : NatW W b d (denN p.den)) => den_any (decide (p.num < 0)) a b (lenW p.num.natAbs) c d p W h
  have hDq := fun (W : World) (h : NatW W f g (denN q.den)) => den_any (decide (q.num < 0)) e f (lenW q.num.natAbs) i g q W h
  have hPM := fun (a2 a3 : Option Addr) (c2 c3 : Nat) (W : World) (q1 : NatW W a2 c2 p.den) (q2 : NatW W a3 c3 q.den) => hK a2 a3 c2 c3 p.den q.den W q1 q2 h3
  have hNI := fun (a2 : Option Addr) (c2 : Nat) (W : World) (q1 : NatW W a2 c2 (p.den * q.den)) => newI_false (p.den * q.den) ▸ inew_any false a2 c2 (p.den * q.den) W q1
  have hRN := fun (a2 a3 : Option Addr) (c2 c3 : Nat) (W : World) (q1 : NatW W a2 c2 (p.num * (q.den : Int) + q.num * (p.den : Int)).natAbs) (q2 : NatW W a3 c3 ((p.den * q.den : Nat) : Int).natAbs) => rnew_any hKL hD (p.num * (q.den : Int) + q.num * (p.den : Int)) ((p.den * q.den : Nat) : Int) a2 a3 c2 c3 W q1 q2 h4 h5 (by have := Nat.mul_ne_zero p.den_nz q.den_nz; omega)
  rw [rat_add p q] at hRN
  obtain ⟨r, hr⟩ : ∃ r, p + q = r := ⟨_, rfl⟩
  rw [hr] at hRN
  rw [hr]
  obtain ⟨u, hu⟩ : ∃ u, p.num * (q.den : Int) + q.num * (p.den : Int) = u := ⟨_, rfl⟩
  rw [hu] at hRN hA
  obtain ⟨v, hv⟩ : ∃ v, p.den * q.den = v := ⟨_, rfl⟩
  rw [hv] at hPM hNI hRN
  obtain ⟨sp, hsp⟩ : ∃ s, decide (p.num < 0) = s := ⟨_, rfl⟩
  obtain ⟨mp, hmp⟩ : ∃ m, p.num.natAbs = m := ⟨_, rfl⟩
  obtain ⟨sq, hsq⟩ : ∃ s, decide (q.num < 0) = s := ⟨_, rfl⟩
  obtain ⟨mq, hmq⟩ : ∃ m, q.num.natAbs = m := ⟨_, rfl⟩
  obtain ⟨bp, hbp⟩ : ∃ s, decide ((p.den : Int) < 0) = s := ⟨_, rfl⟩
  obtain ⟨np, hnp⟩ : ∃ m, (p.den : Int).natAbs = m := ⟨_, rfl⟩
  obtain ⟨bq, hbq⟩ : ∃ s, decide ((q.den : Int) < 0) = s := ⟨_, rfl⟩
  obtain ⟨nq, hnq⟩ : ∃ m, (q.den : Int).natAbs = m := ⟨_, rfl⟩
  obtain ⟨dp, hdp⟩ : ∃ m, denN p.den = m := ⟨_, rfl⟩
  obtain ⟨dq, hdq⟩ : ∃ m, denN q.den = m := ⟨_, rfl⟩
  obtain ⟨x, hx⟩ : ∃ x, p.num * (q.den : Int) = x := ⟨_, rfl⟩
  obtain ⟨y, hy⟩ : ∃ y, q.num * (p.den : Int) = y := ⟨_, rfl⟩
  obtain ⟨sx, hsx⟩ : ∃ s, decide (x < 0) = s := ⟨_, rfl⟩
  obtain ⟨mx, hmx⟩ : ∃ m, x.natAbs = m := ⟨_, rfl⟩
  obtain ⟨sy, hsy⟩ : ∃ s, decide (y < 0) = s := ⟨_, rfl⟩
  obtain ⟨my, hmy⟩ : ∃ m, y.natAbs = m := ⟨_, rfl⟩
  unfold RetI at hBq hBp hM1 hM2
  rw [hsq, hmq, hdq, hbq, hnq] at hBq
  rw [hsp, hmp, hdp, hbp, hnp] at hBp
  rw [hx, hsx, hmx, hsp, hmp, hbq, hnq] at hM1
  rw [hy, hsy, hmy, hsq, hmq, hbp, hnp] at hM2
  rw [hmp] at ha
  rw [hdp] at hb
  rw [hmq] at he
  rw [hdq] at hf
  have HBq := Lib.hid hBq
  have HBp := Lib.hid hBp
  have HM1 := Lib.hid hM1
  have HM2 := Lib.hid hM2
  obtain ⟨su, hsu⟩ : ∃ s, decide (u < 0) = s := ⟨_, rfl⟩
  obtain ⟨mu, hmu⟩ : ∃ m, u.natAbs = m := ⟨_, rfl⟩
  obtain ⟨sv, hsv⟩ : ∃ s, decide ((v : Int) < 0) = s := ⟨_, rfl⟩
  obtain ⟨mv, hmv⟩ : ∃ m, (v : Int).natAbs = m := ⟨_, rfl⟩
  unfold RetI at hA hNI
  unfold RetRB ratV at hRN
  unfold ratV
  rw [hx, hy, hsx, hmx, hsy, hmy, hsu, hmu] at hA
  rw [hsp, hmp, hdp] at hDp
  rw [hsq, hmq, hdq] at hDq
  rw [hsv, hmv] at hNI
  rw [hsu, hmu, hsv, hmv] at hRN
  rw [hsp, hmp, hdp, hsq, hmq, hdq]
  have HA := Lib.hid hA
  have HDp := Lib.hid hDp
  have HDq := Lib.hid hDq
  have HPM := Lib.hid hPM
  have HNI := Lib.hid hNI
  have HRN := Lib.hid hRN
  clear hBq hBp hM1 hM2 hA hDp hDq hPM hNI hRN hI1 hI2 hr hu hv hsu hmu hsv hmv hsp hmp hsq hmq hbp hnp hbq hnq hdp hdq hsx hmx hsy hmy hx hy h1 h2 h3 h4 h5 hK hKL hD hKs
  obtain ⟨W0, hW0⟩ : ∃ W0, W0 = (((w.alloc (.cells #[.bool sp, .slice a (lenW mp) c, .slice b (lenW dp) d] 40)).alloc (.cells #[.bool sq, .slice e (lenW mq) i, .slice f (lenW dq) g] 40)).alloc (.cells #[.bool false, .slice none 0 0, .slice none 0 0] 40)) := ⟨_, rfl⟩
  have hbs : BS w [⟨w.heap.size, 40, [.bool sp, .slice a (lenW mp) c, .slice b (lenW dp) d]⟩, ⟨w.heap.size + 1, 40, [.bool sq, .slice e (lenW mq) i, .slice f (lenW dq) g]⟩, ⟨w.heap.size + 1 + 1, 40, [.bool false, .slice none 0 0, .slice none 0 0]⟩] [⟨a, c, mp⟩, ⟨b, d, dp⟩, ⟨e, i, mq⟩, ⟨f, g, dq⟩] (((w.alloc (.cells #[.bool sp, .slice a (lenW mp) c, .slice b (lenW dp) d] 40)).alloc (.cells #[.bool sq, .slice e (lenW mq) i, .slice f (lenW dq) g] 40)).alloc (.cells #[.bool false, .slice none 0 0, .slice none 0 0] 40)) :=
      ((((BS.begin [⟨a, c, mp⟩, ⟨b, d, dp⟩, ⟨e, i, mq⟩, ⟨f, g, dq⟩] (fun y hy => by
        rcases List.mem_cons.1 hy with rfl | hy
        · exact ha
        rcases List.mem_cons.1 hy with rfl | hy
        · exact hb
        rcases List.mem_cons.1 hy with rfl | hy
        · exact he
        rw [List.mem_singleton.1 hy]; exact hf)).alloc (p := w.heap.size) rfl 40 [.bool sp, .slice a (lenW mp) c, .slice b (lenW dp) d] rfl).alloc (p := w.heap.size + 1) (by simp) 40 [.bool sq, .slice e (lenW mq) i, .slice f (lenW dq) g] rfl).alloc (p := w.heap.size + 1 + 1) (by simp) 40 [.bool false, .slice none 0 0, .slice none 0 0] rfl)
  rw [← hW0] at hbs
  have HW0 := Lib.hid hW0
  have HN := Lib.hid hbs
  clear hW0 hbs
  clear ha hb he hf
  go_enter Try.func16, Try.ntmps16
  go_upto_region 1 with fail
  rw [← HW0.out]
  go_cut [5] (fun v5 wx => ∃ p5 a5 c5, v5 = .pointer (some ⟨p5, 0, none⟩) ∧ BS w [⟨w.heap.size, 40, [.bool sp, .slice a (lenW mp) c, .slice b (lenW dp) d]⟩, ⟨w.heap.size + 1, 40, [.bool sq, .slice e (lenW mq) i, .slice f (lenW dq) g]⟩, ⟨w.heap.size + 1 + 1, 40, [.bool false, .slice none 0 0, .slice none 0 0]⟩, ⟨p5, 38, [.bool su, .slice a5 (lenW mu) c5]⟩] [⟨a, c, mp⟩, ⟨b, d, dp⟩, ⟨e, i, mq⟩, ⟨f, g, dq⟩, ⟨a5, c5, mu⟩] wx)
  case first =>
    replace HN := Lib.hid HN.out.drew
    refine wp_region_held_drew (S := fun W => W.cell? ⟨w.heap.size, 0, none⟩ = some (.bool sp) ∧ W.cell? ⟨w.heap.size, 1, none⟩ = some (.slice a (lenW mp) c) ∧ W.cell? ⟨w.heap.size, 2, none⟩ = some (.slice b (lenW dp) d) ∧ W.cell? ⟨w.heap.size + 1, 0, none⟩ = some (.bool sq) ∧ W.cell? ⟨w.heap.size + 1, 1, none⟩ = some (.slice e (lenW mq) i) ∧ W.cell? ⟨w.heap.size + 1, 2, none⟩ = some (.slice f (lenW dq) g)) (by kernel_rfl) (⟨HN.out.cell 0 0 rfl rfl, HN.out.cell 0 1 rfl rfl, HN.out.cell 0 2 rfl rfl, HN.out.cell 1 0 rfl rfl, HN.out.cell 1 1 rfl rfl, HN.out.cell 1 2 rfl rfl⟩) (fun hHeld => ?_)
    generalize W0.drew = wd at HN hHeld ⊢
    refine tk 0 (some 8) (v := ?_) rfl rfl ?_ ?_
    rotate_left
    · (intro w _; go_simp; (try with_reducible rfl))
    simp only [Act.put, stB, stZ, stS]
    refine tk 1 (some 9) (v := ?_) rfl rfl ?_ ?_
    rotate_left
    · (intro w hSw; (try dsimp only at hSw); go_simp; (try with_reducible rfl))
    simp only [Act.put, stB, stZ, stS]
    refine tk 2 (some 10) (v := ?_) rfl rfl ?_ ?_
    rotate_left
    · (intro w hSw; (try dsimp only at hSw); go_simp; (try with_reducible rfl))
    simp only [Act.put, stB, stZ, stS]
    refine tk 5 (some 13) (v := ?_) rfl rfl ?_ ?_
    rotate_left
    · (intro w _; go_simp; (try with_reducible rfl))
    simp only [Act.put, stB, stZ, stS]
    refine tk 6 (some 14) (v := ?_) rfl rfl ?_ ?_
    rotate_left
    · (intro w hSw; (try dsimp only at hSw); go_simp; (try with_reducible rfl))
    simp only [Act.put, stB, stZ, stS]
    refine tk 7 (some 15) (v := ?_) rfl rfl ?_ ?_
    rotate_left
    · (intro w hSw; (try dsimp only at hSw); go_simp; (try with_reducible rfl))
    simp only [Act.put, stB, stZ, stS]
    refine wpAnyH_ready (rs := [3, 11]) (by kernel_rfl) (by simp) ?_
    refine (AllReadyH.cons (o := { dst := some 11, op := Op.call { callee := Callee.value (Operand.func 47), args := #[Operand.tmp 10], argTypes := #[40] }, type := 38, pos := "rat.go:75", after := #[{ on := 2, ground := Ground.data }], guard := none }) rfl (fun K hK => ?_) (AllReadyH.cons (o := { dst := some 5, op := Op.alloc 38, type := 0, pos := "rat.go:75", after := #[], guard := none }) rfl (fun K hK => ?_) AllReadyH.nil))
    · skip
      go_simp
      refine (HBq.out _ (HN.out.nat 3 rfl)).mono ?_
      rintro e w1 ⟨a2, c2, rfl, hq0, hb⟩
      replace HN := Lib.hid ((HN.out.call hb).got hq0)
      clear hb hq0
      go_wp2_with fail
      refine hK.out _ _ (⟨HN.out.cell 0 0 rfl rfl, HN.out.cell 0 1 rfl rfl, HN.out.cell 0 2 rfl rfl, HN.out.cell 1 0 rfl rfl, HN.out.cell 1 1 rfl rfl, HN.out.cell 1 2 rfl rfl⟩) (fun hHeld2 => ?_)
      clear hK K hHeld
      rename _ => hHeld
      try simp only [Act.put, stB, stZ, stS]
      refine wpAnyH_ready (rs := [4, 11]) (by kernel_rfl) (by simp) ?_
      refine (AllReadyH.cons (o := { dst := some 12, op := Op.call { callee := Callee.value (Operand.func 46), args := #[Operand.tmp 9, Operand.tmp 11], argTypes := #[38, 38] }, type := 38, pos := "rat.go:75", after := #[{ on := 1, ground := Ground.data }, { on := 3, ground := Ground.data }, { on := 3, ground := Ground.chain }], guard := none }) rfl (fun K hK => ?_) (AllReadyH.cons (o := { dst := some 5, op := Op.alloc 38, type := 0, pos := "rat.go:75", after := #[], guard := none }) rfl (fun K hK => ?_) AllReadyH.nil))
      · skip
        go_simp
        refine (HM1.out _ _ _ (HN.out.nat 0 rfl) (HN.out.nat 4 rfl)).mono ?_
        rintro e w2 ⟨a3, c3, rfl, hq0, hb⟩
        replace HN := Lib.hid ((HN.out.call hb).got hq0)
        clear hb hq0
        go_wp2_with fail
        refine hK.out _ _ (⟨HN.out.cell 0 0 rfl rfl, HN.out.cell 0 1 rfl rfl, HN.out.cell 0 2 rfl rfl, HN.out.cell 1 0 rfl rfl, HN.out.cell 1 1 rfl rfl, HN.out.cell 1 2 rfl rfl⟩) (fun hHeld2 => ?_)
        clear hK K hHeld
        rename _ => hHeld
        try simp only [Act.put, stB, stZ, stS]
        refine wpAnyH_ready (rs := [8, 11]) (by kernel_rfl) (by simp) ?_
        refine (AllReadyH.cons (o := { dst := some 16, op := Op.call { callee := Callee.value (Operand.func 47), args := #[Operand.tmp 15], argTypes := #[40] }, type := 38, pos := "rat.go:75", after := #[{ on := 7, ground := Ground.data }, { on := 4, ground := Ground.chain }], guard := none }) rfl (fun K hK => ?_) (AllReadyH.cons (o := { dst := some 5, op := Op.alloc 38, type := 0, pos := "rat.go:75", after := #[], guard := none }) rfl (fun K hK => ?_) AllReadyH.nil))
        · skip
          go_simp
          refine (HBp.out _ (HN.out.nat 1 rfl)).mono ?_
          rintro e w3 ⟨a4, c4, rfl, hq0, hb⟩
          replace HN := Lib.hid ((HN.out.call hb).got hq0)
          clear hb hq0
          go_wp2_with fail
          refine hK.out _ _ (⟨HN.out.cell 0 0 rfl rfl, HN.out.cell 0 1 rfl rfl, HN.out.cell 0 2 rfl rfl, HN.out.cell 1 0 rfl rfl, HN.out.cell 1 1 rfl rfl, HN.out.cell 1 2 rfl rfl⟩) (fun hHeld2 => ?_)
          clear hK K hHeld
          rename _ => hHeld
          try simp only [Act.put, stB, stZ, stS]
          refine wpAnyH_ready (rs := [9, 11]) (by kernel_rfl) (by simp) ?_
          refine (AllReadyH.cons (o := { dst := some 17, op := Op.call { callee := Callee.value (Operand.func 46), args := #[Operand.tmp 14, Operand.tmp 16], argTypes := #[38, 38] }, type := 38, pos := "rat.go:75", after := #[{ on := 6, ground := Ground.data }, { on := 8, ground := Ground.data }, { on := 8, ground := Ground.chain }], guard := none }) rfl (fun K hK => ?_) (AllReadyH.cons (o := { dst := some 5, op := Op.alloc 38, type := 0, pos := "rat.go:75", after := #[], guard := none }) rfl (fun K hK => ?_) AllReadyH.nil))
          · skip
            go_simp
            refine (HM2.out _ _ _ (HN.out.nat 2 rfl) (HN.out.nat 6 rfl)).mono ?_
            rintro e w4 ⟨a5, c5, rfl, hq0, hb⟩
            replace HN := Lib.hid ((HN.out.call hb).got hq0)
            clear hb hq0
            go_wp2_with fail
            refine hK.out _ _ (⟨HN.out.cell 0 0 rfl rfl, HN.out.cell 0 1 rfl rfl, HN.out.cell 0 2 rfl rfl, HN.out.cell 1 0 rfl rfl, HN.out.cell 1 1 rfl rfl, HN.out.cell 1 2 rfl rfl⟩) (fun hHeld2 => ?_)
            clear hK K hHeld
            rename _ => hHeld
            try simp only [Act.put, stB, stZ, stS]
            refine wpAnyH_ready (rs := [10, 11]) (by kernel_rfl) (by simp) ?_
            refine (AllReadyH.cons (o := { dst := some 18, op := Op.call { callee := Callee.value (Operand.func 48), args := #[Operand.tmp 12, Operand.tmp 17], argTypes := #[38, 38] }, type := 38, pos := "rat.go:75", after := #[{ on := 4, ground := Ground.data }, { on := 9, ground := Ground.data }, { on := 9, ground := Ground.chain }], guard := none }) rfl (fun K hK => ?_) (AllReadyH.cons (o := { dst := some 5, op := Op.alloc 38, type := 0, pos := "rat.go:75", after := #[], guard := none }) rfl (fun K hK => ?_) AllReadyH.nil))
            · skip
              go_simp
              refine (HA.out _ _ _ _ _ (HN.out.nat 5 rfl) (HN.out.nat 7 rfl)).mono ?_
              rintro e w5 ⟨a6, c6, rfl, hq0, hb⟩
              replace HN := Lib.hid ((HN.out.call hb).got hq0)
              clear hb hq0
              go_wp2_with fail
              refine hK.out _ _ (⟨HN.out.cell 0 0 rfl rfl, HN.out.cell 0 1 rfl rfl, HN.out.cell 0 2 rfl rfl, HN.out.cell 1 0 rfl rfl, HN.out.cell 1 1 rfl rfl, HN.out.cell 1 2 rfl rfl⟩) (fun hHeld2 => ?_)
              clear hK K hHeld
              rename _ => hHeld
              try simp only [Act.put, stB, stZ, stS]
              refine wpAnyH_ready (rs := [11]) (by kernel_rfl) (by simp) ?_
              refine (AllReadyH.cons (o := { dst := some 5, op := Op.alloc 38, type := 0, pos := "rat.go:75", after := #[], guard := none }) rfl (fun K hK => ?_) AllReadyH.nil)
              go_simp
              replace HN := Lib.hid (HN.out.alloc (p := w5.heap.size) rfl 38 [.bool false, .slice none 0 0] rfl)
              generalize w5.alloc (.cells #[.bool false, .slice none 0 0] 38) = wa6 at HN ⊢
              refine hK.out _ _ (⟨HN.out.cell 0 0 rfl rfl, HN.out.cell 0 1 rfl rfl, HN.out.cell 0 2 rfl rfl, HN.out.cell 1 0 rfl rfl, HN.out.cell 1 1 rfl rfl, HN.out.cell 1 2 rfl rfl⟩) (fun hHeld2 => ?_)
              clear hK K hHeld
              rename _ => hHeld
              try simp only [Act.put, stB, stZ, stS]
              refine wpAnyH_ready (rs := [12]) (by kernel_rfl) (by simp) ?_
              refine (AllReadyH.cons (o := { dst := none, op := Op.store 38 (Operand.tmp 5) (Operand.tmp 18), type := 0, pos := "rat.go:75", after := #[{ on := 11, ground := Ground.data }, { on := 10, ground := Ground.data }, { on := 10, ground := Ground.chain }, { on := 0, ground := Ground.phase }, { on := 1, ground := Ground.phase }, { on := 2, ground := Ground.phase }, { on := 3, ground := Ground.phase }, { on := 4, ground := Ground.phase }, { on := 5, ground := Ground.phase }, { on := 6, ground := Ground.phase }, { on := 7, ground := Ground.phase }, { on := 8, ground := Ground.phase }, { on := 9, ground := Ground.phase }, { on := 10, ground := Ground.phase }, { on := 11, ground := Ground.phase }], guard := none }) rfl (fun K hK => ?_) AllReadyH.nil)
              have hc0 := HN.out.cell 3 0 rfl rfl
              have hf0 := HN.out.free 3 0 rfl
              have hc1 := HN.out.cell 3 1 rfl rfl
              have hf1 := HN.out.free 3 1 rfl
              go_simp
              clear hc0 hf0 hc1 hf1
              replace HN := Lib.hid (((HN.out).set 3 0 rfl rfl (fun _ => by simp) (.bool su)).set 3 1 rfl rfl (fun _ => by simp) (.slice a6 (lenW mu) c6))
              generalize ((wa6.setCell ⟨w5.heap.size, 0, none⟩ (.bool su)).setCell ⟨w5.heap.size, 1, none⟩ (.slice a6 (lenW mu) c6)) = wa7 at HN ⊢
              refine hK.out _ _ (⟨HN.out.cell 0 0 rfl rfl, HN.out.cell 0 1 rfl rfl, HN.out.cell 0 2 rfl rfl, HN.out.cell 1 0 rfl rfl, HN.out.cell 1 1 rfl rfl, HN.out.cell 1 2 rfl rfl⟩) (fun hHeld2 => ?_)
              clear hK K hHeld
              rename _ => hHeld
              try simp only [Act.put, stB, stZ, stS]
              refine wpAnyH_done (by kernel_rfl) ?_ _
              go_wp2_with fail
              go_meet
              exact ⟨_, _, _, rfl, HN.out.only (List.Sublist.refl _) (fun z hz => by
                simp only [List.mem_cons, List.not_mem_nil, or_false] at hz
                rcases hz with rfl | rfl | rfl | rfl | rfl <;> simp)⟩
            · skip
              go_simp
              replace HN := Lib.hid (HN.out.alloc (p := w4.heap.size) rfl 38 [.bool false, .slice none 0 0] rfl)
              generalize w4.alloc (.cells #[.bool false, .slice none 0 0] 38) = wa5 at HN ⊢
              refine hK.out _ _ (⟨HN.out.cell 0 0 rfl rfl, HN.out.cell 0 1 rfl rfl, HN.out.cell 0 2 rfl rfl, HN.out.cell 1 0 rfl rfl, HN.out.cell 1 1 rfl rfl, HN.out.cell 1 2 rfl rfl⟩) (fun hHeld2 => ?_)
              clear hK K hHeld
              rename _ => hHeld
              try simp only [Act.put, stB, stZ, stS]
              refine wpAnyH_ready (rs := [10]) (by kernel_rfl) (by simp) ?_
              refine (AllReadyH.cons (o := { dst := some 18, op := Op.call { callee := Callee.value (Operand.func 48), args := #[Operand.tmp 12, Operand.tmp 17], argTypes := #[38, 38] }, type := 38, pos := "rat.go:75", after := #[{ on := 4, ground := Ground.data }, { on := 9, ground := Ground.data }, { on := 9, ground := Ground.chain }], guard := none }) rfl (fun K hK => ?_) AllReadyH.nil)
              go_simp
              refine (HA.out _ _ _ _ _ (HN.out.nat 5 rfl) (HN.out.nat 7 rfl)).mono ?_
              rintro e w6 ⟨a6, c6, rfl, hq0, hb⟩
              replace HN := Lib.hid ((HN.out.call hb).got hq0)
              clear hb hq0
              go_wp2_with fail
              refine hK.out _ _ (⟨HN.out.cell 0 0 rfl rfl, HN.out.cell 0 1 rfl rfl, HN.out.cell 0 2 rfl rfl, HN.out.cell 1 0 rfl rfl, HN.out.cell 1 1 rfl rfl, HN.out.cell 1 2 rfl rfl⟩) (fun hHeld2 => ?_)
              clear hK K hHeld
              rename _ => hHeld
              try simp only [Act.put, stB, stZ, stS]
              refine wpAnyH_ready (rs := [12]) (by kernel_rfl) (by simp) ?_
              refine (AllReadyH.cons (o := { dst := none, op := Op.store 38 (Operand.tmp 5) (Operand.tmp 18), type := 0, pos := "rat.go:75", after := #[{ on := 11, ground := Ground.data }, { on := 10, ground := Ground.data }, { on := 10, ground := Ground.chain }, { on := 0, ground := Ground.phase }, { on := 1, ground := Ground.phase }, { on := 2, ground := Ground.phase }, { on := 3, ground := Ground.phase }, { on := 4, ground := Ground.phase }, { on := 5, ground := Ground.phase }, { on := 6, ground := Ground.phase }, { on := 7, ground := Ground.phase }, { on := 8, ground := Ground.phase }, { on := 9, ground := Ground.phase }, { on := 10, ground := Ground.phase }, { on := 11, ground := Ground.phase }], guard := none }) rfl (fun K hK => ?_) AllReadyH.nil)
              have hc0 := HN.out.cell 3 0 rfl rfl
              have hf0 := HN.out.free 3 0 rfl
              have hc1 := HN.out.cell 3 1 rfl rfl
              have hf1 := HN.out.free 3 1 rfl
              go_simp
              clear hc0 hf0 hc1 hf1
              replace HN := Lib.hid (((HN.out).set 3 0 rfl rfl (fun _ => by simp) (.bool su)).set 3 1 rfl rfl (fun _ => by simp) (.slice a6 (lenW mu) c6))
              generalize ((w6.setCell ⟨w4.heap.size, 0, none⟩ (.bool su)).setCell ⟨w4.heap.size, 1, none⟩ (.slice a6 (lenW mu) c6)) = wa7 at HN ⊢
              refine hK.out _ _ (⟨HN.out.cell 0 0 rfl rfl, HN.out.cell 0 1 rfl rfl, HN.out.cell 0 2 rfl rfl, HN.out.cell 1 0 rfl rfl, HN.out.cell 1 1 rfl rfl, HN.out.cell 1 2 rfl rfl⟩) (fun hHeld2 => ?_)
              clear hK K hHeld
              rename _ => hHeld
              try simp only [Act.put, stB, stZ, stS]
              refine wpAnyH_done (by kernel_rfl) ?_ _
              go_wp2_with fail
              go_meet
              exact ⟨_, _, _, rfl, HN.out.only (List.Sublist.refl _) (fun z hz => by
                simp only [List.mem_cons, List.not_mem_nil, or_false] at hz
                rcases hz with rfl | rfl | rfl | rfl | rfl <;> simp)⟩
          · skip
            go_simp
            replace HN := Lib.hid (HN.out.alloc (p := w3.heap.size) rfl 38 [.bool false, .slice none 0 0] rfl)
            generalize w3.alloc (.cells #[.bool false, .slice none 0 0] 38) = wa4 at HN ⊢
            refine hK.out _ _ (⟨HN.out.cell 0 0 rfl rfl, HN.out.cell 0 1 rfl rfl, HN.out.cell 0 2 rfl rfl, HN.out.cell 1 0 rfl rfl, HN.out.cell 1 1 rfl rfl, HN.out.cell 1 2 rfl rfl⟩) (fun hHeld2 => ?_)
            clear hK K hHeld
            rename _ => hHeld
            try simp only [Act.put, stB, stZ, stS]
            refine wpAnyH_ready (rs := [9]) (by kernel_rfl) (by simp) ?_
            refine (AllReadyH.cons (o := { dst := some 17, op := Op.call { callee := Callee.value (Operand.func 46), args := #[Operand.tmp 14, Operand.tmp 16], argTypes := #[38, 38] }, type := 38, pos := "rat.go:75", after := #[{ on := 6, ground := Ground.data }, { on := 8, ground := Ground.data }, { on := 8, ground := Ground.chain }], guard := none }) rfl (fun K hK => ?_) AllReadyH.nil)
            go_simp
            refine (HM2.out _ _ _ (HN.out.nat 2 rfl) (HN.out.nat 6 rfl)).mono ?_
            rintro e w5 ⟨a5, c5, rfl, hq0, hb⟩
            replace HN := Lib.hid ((HN.out.call hb).got hq0)
            clear hb hq0
            go_wp2_with fail
            refine hK.out _ _ (⟨HN.out.cell 0 0 rfl rfl, HN.out.cell 0 1 rfl rfl, HN.out.cell 0 2 rfl rfl, HN.out.cell 1 0 rfl rfl, HN.out.cell 1 1 rfl rfl, HN.out.cell 1 2 rfl rfl⟩) (fun hHeld2 => ?_)
            clear hK K hHeld
            rename _ => hHeld
            try simp only [Act.put, stB, stZ, stS]
            refine wpAnyH_ready (rs := [10]) (by kernel_rfl) (by simp) ?_
            refine (AllReadyH.cons (o := { dst := some 18, op := Op.call { callee := Callee.value (Operand.func 48), args := #[Operand.tmp 12, Operand.tmp 17], argTypes := #[38, 38] }, type := 38, pos := "rat.go:75", after := #[{ on := 4, ground := Ground.data }, { on := 9, ground := Ground.data }, { on := 9, ground := Ground.chain }], guard := none }) rfl (fun K hK => ?_) AllReadyH.nil)
            go_simp
            refine (HA.out _ _ _ _ _ (HN.out.nat 5 rfl) (HN.out.nat 7 rfl)).mono ?_
            rintro e w6 ⟨a6, c6, rfl, hq0, hb⟩
            replace HN := Lib.hid ((HN.out.call hb).got hq0)
            clear hb hq0
            go_wp2_with fail
            refine hK.out _ _ (⟨HN.out.cell 0 0 rfl rfl, HN.out.cell 0 1 rfl rfl, HN.out.cell 0 2 rfl rfl, HN.out.cell 1 0 rfl rfl, HN.out.cell 1 1 rfl rfl, HN.out.cell 1 2 rfl rfl⟩) (fun hHeld2 => ?_)
            clear hK K hHeld
            rename _ => hHeld
            try simp only [Act.put, stB, stZ, stS]
            refine wpAnyH_ready (rs := [12]) (by kernel_rfl) (by simp) ?_
            refine (AllReadyH.cons (o := { dst := none, op := Op.store 38 (Operand.tmp 5) (Operand.tmp 18), type := 0, pos := "rat.go:75", after := #[{ on := 11, ground := Ground.data }, { on := 10, ground := Ground.data }, { on := 10, ground := Ground.chain }, { on := 0, ground := Ground.phase }, { on := 1, ground := Ground.phase }, { on := 2, ground := Ground.phase }, { on := 3, ground := Ground.phase }, { on := 4, ground := Ground.phase }, { on := 5, ground := Ground.phase }, { on := 6, ground := Ground.phase }, { on := 7, ground := Ground.phase }, { on := 8, ground := Ground.phase }, { on := 9, ground := Ground.phase }, { on := 10, ground := Ground.phase }, { on := 11, ground := Ground.phase }], guard := none }) rfl (fun K hK => ?_) AllReadyH.nil)
            have hc0 := HN.out.cell 3 0 rfl rfl
            have hf0 := HN.out.free 3 0 rfl
            have hc1 := HN.out.cell 3 1 rfl rfl
            have hf1 := HN.out.free 3 1 rfl
            go_simp
            clear hc0 hf0 hc1 hf1
            replace HN := Lib.hid (((HN.out).set 3 0 rfl rfl (fun _ => by simp) (.bool su)).set 3 1 rfl rfl (fun _ => by simp) (.slice a6 (lenW mu) c6))
            generalize ((w6.setCell ⟨w3.heap.size, 0, none⟩ (.bool su)).setCell ⟨w3.heap.size, 1, none⟩ (.slice a6 (lenW mu) c6)) = wa7 at HN ⊢
            refine hK.out _ _ (⟨HN.out.cell 0 0 rfl rfl, HN.out.cell 0 1 rfl rfl, HN.out.cell 0 2 rfl rfl, HN.out.cell 1 0 rfl rfl, HN.out.cell 1 1 rfl rfl, HN.out.cell 1 2 rfl rfl⟩) (fun hHeld2 => ?_)
            clear hK K hHeld
            rename _ => hHeld
            try simp only [Act.put, stB, stZ, stS]
            refine wpAnyH_done (by kernel_rfl) ?_ _
            go_wp2_with fail
            go_meet
            exact ⟨_, _, _, rfl, HN.out.only (List.Sublist.refl _) (fun z hz => by
              simp only [List.mem_cons, List.not_mem_nil, or_false] at hz
              rcases hz with rfl | rfl | rfl | rfl | rfl <;> simp)⟩
        · skip
          go_simp
          replace HN := Lib.hid (HN.out.alloc (p := w2.heap.size) rfl 38 [.bool false, .slice none 0 0] rfl)
          generalize w2.alloc (.cells #[.bool false, .slice none 0 0] 38) = wa3 at HN ⊢
          refine hK.out _ _ (⟨HN.out.cell 0 0 rfl rfl, HN.out.cell 0 1 rfl rfl, HN.out.cell 0 2 rfl rfl, HN.out.cell 1 0 rfl rfl, HN.out.cell 1 1 rfl rfl, HN.out.cell 1 2 rfl rfl⟩) (fun hHeld2 => ?_)
          clear hK K hHeld
          rename _ => hHeld
          try simp only [Act.put, stB, stZ, stS]
          refine wpAnyH_ready (rs := [8]) (by kernel_rfl) (by simp) ?_
          refine (AllReadyH.cons (o := { dst := some 16, op := Op.call { callee := Callee.value (Operand.func 47), args := #[Operand.tmp 15], argTypes := #[40] }, type := 38, pos := "rat.go:75", after := #[{ on := 7, ground := Ground.data }, { on := 4, ground := Ground.chain }], guard := none }) rfl (fun K hK => ?_) AllReadyH.nil)
          go_simp
          refine (HBp.out _ (HN.out.nat 1 rfl)).mono ?_
          rintro e w4 ⟨a4, c4, rfl, hq0, hb⟩
          replace HN := Lib.hid ((HN.out.call hb).got hq0)
          clear hb hq0
          go_wp2_with fail
          refine hK.out _ _ (⟨HN.out.cell 0 0 rfl rfl, HN.out.cell 0 1 rfl rfl, HN.out.cell 0 2 rfl rfl, HN.out.cell 1 0 rfl rfl, HN.out.cell 1 1 rfl rfl, HN.out.cell 1 2 rfl rfl⟩) (fun hHeld2 => ?_)
          clear hK K hHeld
          rename _ => hHeld
          try simp only [Act.put, stB, stZ, stS]
          refine wpAnyH_ready (rs := [9]) (by kernel_rfl) (by simp) ?_
          refine (AllReadyH.cons (o := { dst := some 17, op := Op.call { callee := Callee.value (Operand.func 46), args := #[Operand.tmp 14, Operand.tmp 16], argTypes := #[38, 38] }, type := 38, pos := "rat.go:75", after := #[{ on := 6, ground := Ground.data }, { on := 8, ground := Ground.data }, { on := 8, ground := Ground.chain }], guard := none }) rfl (fun K hK => ?_) AllReadyH.nil)
          go_simp
          refine (HM2.out _ _ _ (HN.out.nat 2 rfl) (HN.out.nat 6 rfl)).mono ?_
          rintro e w5 ⟨a5, c5, rfl, hq0, hb⟩
          replace HN := Lib.hid ((HN.out.call hb).got hq0)
          clear hb hq0
          go_wp2_with fail
          refine hK.out _ _ (⟨HN.out.cell 0 0 rfl rfl, HN.out.cell 0 1 rfl rfl, HN.out.cell 0 2 rfl rfl, HN.out.cell 1 0 rfl rfl, HN.out.cell 1 1 rfl rfl, HN.out.cell 1 2 rfl rfl⟩) (fun hHeld2 => ?_)
          clear hK K hHeld
          rename _ => hHeld
          try simp only [Act.put, stB, stZ, stS]
          refine wpAnyH_ready (rs := [10]) (by kernel_rfl) (by simp) ?_
          refine (AllReadyH.cons (o := { dst := some 18, op := Op.call { callee := Callee.value (Operand.func 48), args := #[Operand.tmp 12, Operand.tmp 17], argTypes := #[38, 38] }, type := 38, pos := "rat.go:75", after := #[{ on := 4, ground := Ground.data }, { on := 9, ground := Ground.data }, { on := 9, ground := Ground.chain }], guard := none }) rfl (fun K hK => ?_) AllReadyH.nil)
          go_simp
          refine (HA.out _ _ _ _ _ (HN.out.nat 5 rfl) (HN.out.nat 7 rfl)).mono ?_
          rintro e w6 ⟨a6, c6, rfl, hq0, hb⟩
          replace HN := Lib.hid ((HN.out.call hb).got hq0)
          clear hb hq0
          go_wp2_with fail
          refine hK.out _ _ (⟨HN.out.cell 0 0 rfl rfl, HN.out.cell 0 1 rfl rfl, HN.out.cell 0 2 rfl rfl, HN.out.cell 1 0 rfl rfl, HN.out.cell 1 1 rfl rfl, HN.out.cell 1 2 rfl rfl⟩) (fun hHeld2 => ?_)
          clear hK K hHeld
          rename _ => hHeld
          try simp only [Act.put, stB, stZ, stS]
          refine wpAnyH_ready (rs := [12]) (by kernel_rfl) (by simp) ?_
          refine (AllReadyH.cons (o := { dst := none, op := Op.store 38 (Operand.tmp 5) (Operand.tmp 18), type := 0, pos := "rat.go:75", after := #[{ on := 11, ground := Ground.data }, { on := 10, ground := Ground.data }, { on := 10, ground := Ground.chain }, { on := 0, ground := Ground.phase }, { on := 1, ground := Ground.phase }, { on := 2, ground := Ground.phase }, { on := 3, ground := Ground.phase }, { on := 4, ground := Ground.phase }, { on := 5, ground := Ground.phase }, { on := 6, ground := Ground.phase }, { on := 7, ground := Ground.phase }, { on := 8, ground := Ground.phase }, { on := 9, ground := Ground.phase }, { on := 10, ground := Ground.phase }, { on := 11, ground := Ground.phase }], guard := none }) rfl (fun K hK => ?_) AllReadyH.nil)
          have hc0 := HN.out.cell 3 0 rfl rfl
          have hf0 := HN.out.free 3 0 rfl
          have hc1 := HN.out.cell 3 1 rfl rfl
          have hf1 := HN.out.free 3 1 rfl
          go_simp
          clear hc0 hf0 hc1 hf1
          replace HN := Lib.hid (((HN.out).set 3 0 rfl rfl (fun _ => by simp) (.bool su)).set 3 1 rfl rfl (fun _ => by simp) (.slice a6 (lenW mu) c6))
          generalize ((w6.setCell ⟨w2.heap.size, 0, none⟩ (.bool su)).setCell ⟨w2.heap.size, 1, none⟩ (.slice a6 (lenW mu) c6)) = wa7 at HN ⊢
          refine hK.out _ _ (⟨HN.out.cell 0 0 rfl rfl, HN.out.cell 0 1 rfl rfl, HN.out.cell 0 2 rfl rfl, HN.out.cell 1 0 rfl rfl, HN.out.cell 1 1 rfl rfl, HN.out.cell 1 2 rfl rfl⟩) (fun hHeld2 => ?_)
          clear hK K hHeld
          rename _ => hHeld
          try simp only [Act.put, stB, stZ, stS]
          refine wpAnyH_done (by kernel_rfl) ?_ _
          go_wp2_with fail
          go_meet
          exact ⟨_, _, _, rfl, HN.out.only (List.Sublist.refl _) (fun z hz => by
            simp only [List.mem_cons, List.not_mem_nil, or_false] at hz
            rcases hz with rfl | rfl | rfl | rfl | rfl <;> simp)⟩
      · skip
        go_simp
        replace HN := Lib.hid (HN.out.alloc (p := w1.heap.size) rfl 38 [.bool false, .slice none 0 0] rfl)
        generalize w1.alloc (.cells #[.bool false, .slice none 0 0] 38) = wa2 at HN ⊢
        refine hK.out _ _ (⟨HN.out.cell 0 0 rfl rfl, HN.out.cell 0 1 rfl rfl, HN.out.cell 0 2 rfl rfl, HN.out.cell 1 0 rfl rfl, HN.out.cell 1 1 rfl rfl, HN.out.cell 1 2 rfl rfl⟩) (fun hHeld2 => ?_)
        clear hK K hHeld
        rename _ => hHeld
        try simp only [Act.put, stB, stZ, stS]
        refine wpAnyH_ready (rs := [4]) (by kernel_rfl) (by simp) ?_
        refine (AllReadyH.cons (o := { dst := some 12, op := Op.call { callee := Callee.value (Operand.func 46), args := #[Operand.tmp 9, Operand.tmp 11], argTypes := #[38, 38] }, type := 38, pos := "rat.go:75", after := #[{ on := 1, ground := Ground.data }, { on := 3, ground := Ground.data }, { on := 3, ground := Ground.chain }], guard := none }) rfl (fun K hK => ?_) AllReadyH.nil)
        go_simp
        refine (HM1.out _ _ _ (HN.out.nat 0 rfl) (HN.out.nat 4 rfl)).mono ?_
        rintro e w3 ⟨a3, c3, rfl, hq0, hb⟩
        replace HN := Lib.hid ((HN.out.call hb).got hq0)
        clear hb hq0
        go_wp2_with fail
        refine hK.out _ _ (⟨HN.out.cell 0 0 rfl rfl, HN.out.cell 0 1 rfl rfl, HN.out.cell 0 2 rfl rfl, HN.out.cell 1 0 rfl rfl, HN.out.cell 1 1 rfl rfl, HN.out.cell 1 2 rfl rfl⟩) (fun hHeld2 => ?_)
        clear hK K hHeld
        rename _ => hHeld
        try simp only [Act.put, stB, stZ, stS]
        refine wpAnyH_ready (rs := [8]) (by kernel_rfl) (by simp) ?_
        refine (AllReadyH.cons (o := { dst := some 16, op := Op.call { callee := Callee.value (Operand.func 47), args := #[Operand.tmp 15], argTypes := #[40] }, type := 38, pos := "rat.go:75", after := #[{ on := 7, ground := Ground.data }, { on := 4, ground := Ground.chain }], guard := none }) rfl (fun K hK => ?_) AllReadyH.nil)
        go_simp
        refine (HBp.out _ (HN.out.nat 1 rfl)).mono ?_
        rintro e w4 ⟨a4, c4, rfl, hq0, hb⟩
        replace HN := Lib.hid ((HN.out.call hb).got hq0)
        clear hb hq0
        go_wp2_with fail
        refine hK.out _ _ (⟨HN.out.cell 0 0 rfl rfl, HN.out.cell 0 1 rfl rfl, HN.out.cell 0 2 rfl rfl, HN.out.cell 1 0 rfl rfl, HN.out.cell 1 1 rfl rfl, HN.out.cell 1 2 rfl rfl⟩) (fun hHeld2 => ?_)
        clear hK K hHeld
        rename _ => hHeld
        try simp only [Act.put, stB, stZ, stS]
        refine wpAnyH_ready (rs := [9]) (by kernel_rfl) (by simp) ?_
        refine (AllReadyH.cons (o := { dst := some 17, op := Op.call { callee := Callee.value (Operand.func 46), args := #[Operand.tmp 14, Operand.tmp 16], argTypes := #[38, 38] }, type := 38, pos := "rat.go:75", after := #[{ on := 6, ground := Ground.data }, { on := 8, ground := Ground.data }, { on := 8, ground := Ground.chain }], guard := none }) rfl (fun K hK => ?_) AllReadyH.nil)
        go_simp
        refine (HM2.out _ _ _ (HN.out.nat 2 rfl) (HN.out.nat 6 rfl)).mono ?_
        rintro e w5 ⟨a5, c5, rfl, hq0, hb⟩
        replace HN := Lib.hid ((HN.out.call hb).got hq0)
        clear hb hq0
        go_wp2_with fail
        refine hK.out _ _ (⟨HN.out.cell 0 0 rfl rfl, HN.out.cell 0 1 rfl rfl, HN.out.cell 0 2 rfl rfl, HN.out.cell 1 0 rfl rfl, HN.out.cell 1 1 rfl rfl, HN.out.cell 1 2 rfl rfl⟩) (fun hHeld2 => ?_)
        clear hK K hHeld
        rename _ => hHeld
        try simp only [Act.put, stB, stZ, stS]
        refine wpAnyH_ready (rs := [10]) (by kernel_rfl) (by simp) ?_
        refine (AllReadyH.cons (o := { dst := some 18, op := Op.call { callee := Callee.value (Operand.func 48), args := #[Operand.tmp 12, Operand.tmp 17], argTypes := #[38, 38] }, type := 38, pos := "rat.go:75", after := #[{ on := 4, ground := Ground.data }, { on := 9, ground := Ground.data }, { on := 9, ground := Ground.chain }], guard := none }) rfl (fun K hK => ?_) AllReadyH.nil)
        go_simp
        refine (HA.out _ _ _ _ _ (HN.out.nat 5 rfl) (HN.out.nat 7 rfl)).mono ?_
        rintro e w6 ⟨a6, c6, rfl, hq0, hb⟩
        replace HN := Lib.hid ((HN.out.call hb).got hq0)
        clear hb hq0
        go_wp2_with fail
        refine hK.out _ _ (⟨HN.out.cell 0 0 rfl rfl, HN.out.cell 0 1 rfl rfl, HN.out.cell 0 2 rfl rfl, HN.out.cell 1 0 rfl rfl, HN.out.cell 1 1 rfl rfl, HN.out.cell 1 2 rfl rfl⟩) (fun hHeld2 => ?_)
        clear hK K hHeld
        rename _ => hHeld
        try simp only [Act.put, stB, stZ, stS]
        refine wpAnyH_ready (rs := [12]) (by kernel_rfl) (by simp) ?_
        refine (AllReadyH.cons (o := { dst := none, op := Op.store 38 (Operand.tmp 5) (Operand.tmp 18), type := 0, pos := "rat.go:75", after := #[{ on := 11, ground := Ground.data }, { on := 10, ground := Ground.data }, { on := 10, ground := Ground.chain }, { on := 0, ground := Ground.phase }, { on := 1, ground := Ground.phase }, { on := 2, ground := Ground.phase }, { on := 3, ground := Ground.phase }, { on := 4, ground := Ground.phase }, { on := 5, ground := Ground.phase }, { on := 6, ground := Ground.phase }, { on := 7, ground := Ground.phase }, { on := 8, ground := Ground.phase }, { on := 9, ground := Ground.phase }, { on := 10, ground := Ground.phase }, { on := 11, ground := Ground.phase }], guard := none }) rfl (fun K hK => ?_) AllReadyH.nil)
        have hc0 := HN.out.cell 3 0 rfl rfl
        have hf0 := HN.out.free 3 0 rfl
        have hc1 := HN.out.cell 3 1 rfl rfl
        have hf1 := HN.out.free 3 1 rfl
        go_simp
        clear hc0 hf0 hc1 hf1
        replace HN := Lib.hid (((HN.out).set 3 0 rfl rfl (fun _ => by simp) (.bool su)).set 3 1 rfl rfl (fun _ => by simp) (.slice a6 (lenW mu) c6))
        generalize ((w6.setCell ⟨w1.heap.size, 0, none⟩ (.bool su)).setCell ⟨w1.heap.size, 1, none⟩ (.slice a6 (lenW mu) c6)) = wa7 at HN ⊢
        refine hK.out _ _ (⟨HN.out.cell 0 0 rfl rfl, HN.out.cell 0 1 rfl rfl, HN.out.cell 0 2 rfl rfl, HN.out.cell 1 0 rfl rfl, HN.out.cell 1 1 rfl rfl, HN.out.cell 1 2 rfl rfl⟩) (fun hHeld2 => ?_)
        clear hK K hHeld
        rename _ => hHeld
        try simp only [Act.put, stB, stZ, stS]
        refine wpAnyH_done (by kernel_rfl) ?_ _
        go_wp2_with fail
        go_meet
        exact ⟨_, _, _, rfl, HN.out.only (List.Sublist.refl _) (fun z hz => by
          simp only [List.mem_cons, List.not_mem_nil, or_false] at hz
          rcases hz with rfl | rfl | rfl | rfl | rfl <;> simp)⟩
    · skip
      go_simp
      replace HN := Lib.hid (HN.out.alloc (p := wd.heap.size) rfl 38 [.bool false, .slice none 0 0] rfl)
      generalize wd.alloc (.cells #[.bool false, .slice none 0 0] 38) = wa1 at HN ⊢
      refine hK.out _ _ (⟨HN.out.cell 0 0 rfl rfl, HN.out.cell 0 1 rfl rfl, HN.out.cell 0 2 rfl rfl, HN.out.cell 1 0 rfl rfl, HN.out.cell 1 1 rfl rfl, HN.out.cell 1 2 rfl rfl⟩) (fun hHeld2 => ?_)
      clear hK K hHeld
      rename _ => hHeld
      try simp only [Act.put, stB, stZ, stS]
      refine wpAnyH_ready (rs := [3]) (by kernel_rfl) (by simp) ?_
      refine (AllReadyH.cons (o := { dst := some 11, op := Op.call { callee := Callee.value (Operand.func 47), args := #[Operand.tmp 10], argTypes := #[40] }, type := 38, pos := "rat.go:75", after := #[{ on := 2, ground := Ground.data }], guard := none }) rfl (fun K hK => ?_) AllReadyH.nil)
      go_simp
      refine (HBq.out _ (HN.out.nat 3 rfl)).mono ?_
      rintro e w2 ⟨a2, c2, rfl, hq0, hb⟩
      replace HN := Lib.hid ((HN.out.call hb).got hq0)
      clear hb hq0
      go_wp2_with fail
      refine hK.out _ _ (⟨HN.out.cell 0 0 rfl rfl, HN.out.cell 0 1 rfl rfl, HN.out.cell 0 2 rfl rfl, HN.out.cell 1 0 rfl rfl, HN.out.cell 1 1 rfl rfl, HN.out.cell 1 2 rfl rfl⟩) (fun hHeld2 => ?_)
      clear hK K hHeld
      rename _ => hHeld
      try simp only [Act.put, stB, stZ, stS]
      refine wpAnyH_ready (rs := [4]) (by kernel_rfl) (by simp) ?_
      refine (AllReadyH.cons (o := { dst := some 12, op := Op.call { callee := Callee.value (Operand.func 46), args := #[Operand.tmp 9, Operand.tmp 11], argTypes := #[38, 38] }, type := 38, pos := "rat.go:75", after := #[{ on := 1, ground := Ground.data }, { on := 3, ground := Ground.data }, { on := 3, ground := Ground.chain }], guard := none }) rfl (fun K hK => ?_) AllReadyH.nil)
      go_simp
      refine (HM1.out _ _ _ (HN.out.nat 0 rfl) (HN.out.nat 4 rfl)).mono ?_
      rintro e w3 ⟨a3, c3, rfl, hq0, hb⟩
      replace HN := Lib.hid ((HN.out.call hb).got hq0)
      clear hb hq0
      go_wp2_with fail
      refine hK.out _ _ (⟨HN.out.cell 0 0 rfl rfl, HN.out.cell 0 1 rfl rfl, HN.out.cell 0 2 rfl rfl, HN.out.cell 1 0 rfl rfl, HN.out.cell 1 1 rfl rfl, HN.out.cell 1 2 rfl rfl⟩) (fun hHeld2 => ?_)
      clear hK K hHeld
      rename _ => hHeld
      try simp only [Act.put, stB, stZ, stS]
      refine wpAnyH_ready (rs := [8]) (by kernel_rfl) (by simp) ?_
      refine (AllReadyH.cons (o := { dst := some 16, op := Op.call { callee := Callee.value (Operand.func 47), args := #[Operand.tmp 15], argTypes := #[40] }, type := 38, pos := "rat.go:75", after := #[{ on := 7, ground := Ground.data }, { on := 4, ground := Ground.chain }], guard := none }) rfl (fun K hK => ?_) AllReadyH.nil)
      go_simp
      refine (HBp.out _ (HN.out.nat 1 rfl)).mono ?_
      rintro e w4 ⟨a4, c4, rfl, hq0, hb⟩
      replace HN := Lib.hid ((HN.out.call hb).got hq0)
      clear hb hq0
      go_wp2_with fail
      refine hK.out _ _ (⟨HN.out.cell 0 0 rfl rfl, HN.out.cell 0 1 rfl rfl, HN.out.cell 0 2 rfl rfl, HN.out.cell 1 0 rfl rfl, HN.out.cell 1 1 rfl rfl, HN.out.cell 1 2 rfl rfl⟩) (fun hHeld2 => ?_)
      clear hK K hHeld
      rename _ => hHeld
      try simp only [Act.put, stB, stZ, stS]
      refine wpAnyH_ready (rs := [9]) (by kernel_rfl) (by simp) ?_
      refine (AllReadyH.cons (o := { dst := some 17, op := Op.call { callee := Callee.value (Operand.func 46), args := #[Operand.tmp 14, Operand.tmp 16], argTypes := #[38, 38] }, type := 38, pos := "rat.go:75", after := #[{ on := 6, ground := Ground.data }, { on := 8, ground := Ground.data }, { on := 8, ground := Ground.chain }], guard := none }) rfl (fun K hK => ?_) AllReadyH.nil)
      go_simp
      refine (HM2.out _ _ _ (HN.out.nat 2 rfl) (HN.out.nat 6 rfl)).mono ?_
      rintro e w5 ⟨a5, c5, rfl, hq0, hb⟩
      replace HN := Lib.hid ((HN.out.call hb).got hq0)
      clear hb hq0
      go_wp2_with fail
      refine hK.out _ _ (⟨HN.out.cell 0 0 rfl rfl, HN.out.cell 0 1 rfl rfl, HN.out.cell 0 2 rfl rfl, HN.out.cell 1 0 rfl rfl, HN.out.cell 1 1 rfl rfl, HN.out.cell 1 2 rfl rfl⟩) (fun hHeld2 => ?_)
      clear hK K hHeld
      rename _ => hHeld
      try simp only [Act.put, stB, stZ, stS]
      refine wpAnyH_ready (rs := [10]) (by kernel_rfl) (by simp) ?_
      refine (AllReadyH.cons (o := { dst := some 18, op := Op.call { callee := Callee.value (Operand.func 48), args := #[Operand.tmp 12, Operand.tmp 17], argTypes := #[38, 38] }, type := 38, pos := "rat.go:75", after := #[{ on := 4, ground := Ground.data }, { on := 9, ground := Ground.data }, { on := 9, ground := Ground.chain }], guard := none }) rfl (fun K hK => ?_) AllReadyH.nil)
      go_simp
      refine (HA.out _ _ _ _ _ (HN.out.nat 5 rfl) (HN.out.nat 7 rfl)).mono ?_
      rintro e w6 ⟨a6, c6, rfl, hq0, hb⟩
      replace HN := Lib.hid ((HN.out.call hb).got hq0)
      clear hb hq0
      go_wp2_with fail
      refine hK.out _ _ (⟨HN.out.cell 0 0 rfl rfl, HN.out.cell 0 1 rfl rfl, HN.out.cell 0 2 rfl rfl, HN.out.cell 1 0 rfl rfl, HN.out.cell 1 1 rfl rfl, HN.out.cell 1 2 rfl rfl⟩) (fun hHeld2 => ?_)
      clear hK K hHeld
      rename _ => hHeld
      try simp only [Act.put, stB, stZ, stS]
      refine wpAnyH_ready (rs := [12]) (by kernel_rfl) (by simp) ?_
      refine (AllReadyH.cons (o := { dst := none, op := Op.store 38 (Operand.tmp 5) (Operand.tmp 18), type := 0, pos := "rat.go:75", after := #[{ on := 11, ground := Ground.data }, { on := 10, ground := Ground.data }, { on := 10, ground := Ground.chain }, { on := 0, ground := Ground.phase }, { on := 1, ground := Ground.phase }, { on := 2, ground := Ground.phase }, { on := 3, ground := Ground.phase }, { on := 4, ground := Ground.phase }, { on := 5, ground := Ground.phase }, { on := 6, ground := Ground.phase }, { on := 7, ground := Ground.phase }, { on := 8, ground := Ground.phase }, { on := 9, ground := Ground.phase }, { on := 10, ground := Ground.phase }, { on := 11, ground := Ground.phase }], guard := none }) rfl (fun K hK => ?_) AllReadyH.nil)
      have hc0 := HN.out.cell 3 0 rfl rfl
      have hf0 := HN.out.free 3 0 rfl
      have hc1 := HN.out.cell 3 1 rfl rfl
      have hf1 := HN.out.free 3 1 rfl
      go_simp
      clear hc0 hf0 hc1 hf1
      replace HN := Lib.hid (((HN.out).set 3 0 rfl rfl (fun _ => by simp) (.bool su)).set 3 1 rfl rfl (fun _ => by simp) (.slice a6 (lenW mu) c6))
      generalize ((w6.setCell ⟨wd.heap.size, 0, none⟩ (.bool su)).setCell ⟨wd.heap.size, 1, none⟩ (.slice a6 (lenW mu) c6)) = wa7 at HN ⊢
      refine hK.out _ _ (⟨HN.out.cell 0 0 rfl rfl, HN.out.cell 0 1 rfl rfl, HN.out.cell 0 2 rfl rfl, HN.out.cell 1 0 rfl rfl, HN.out.cell 1 1 rfl rfl, HN.out.cell 1 2 rfl rfl⟩) (fun hHeld2 => ?_)
      clear hK K hHeld
      rename _ => hHeld
      try simp only [Act.put, stB, stZ, stS]
      refine wpAnyH_done (by kernel_rfl) ?_ _
      go_wp2_with fail
      go_meet
      exact ⟨_, _, _, rfl, HN.out.only (List.Sublist.refl _) (fun z hz => by
        simp only [List.mem_cons, List.not_mem_nil, or_false] at hz
        rcases hz with rfl | rfl | rfl | rfl | rfl <;> simp)⟩
  case rest =>
    obtain ⟨w1, rfl⟩ : ∃ w1 : World, w1 = wc := ⟨_, rfl⟩
    obtain ⟨p5, a5, c5, rfl, hn0⟩ := hcut
    have HN := Lib.hid hn0
    clear hn0
    have k00 := HN.out.cell 0 0 rfl rfl
    have f00 := HN.out.free 0 0 rfl
    have k01 := HN.out.cell 0 1 rfl rfl
    have f01 := HN.out.free 0 1 rfl
    have k02 := HN.out.cell 0 2 rfl rfl
    have f02 := HN.out.free 0 2 rfl
    have k10 := HN.out.cell 1 0 rfl rfl
    have f10 := HN.out.free 1 0 rfl
    have k11 := HN.out.cell 1 1 rfl rfl
    have f11 := HN.out.free 1 1 rfl
    have k12 := HN.out.cell 1 2 rfl rfl
    have f12 := HN.out.free 1 2 rfl
    have k20 := HN.out.cell 2 0 rfl rfl
    have f20 := HN.out.free 2 0 rfl
    have k21 := HN.out.cell 2 1 rfl rfl
    have f21 := HN.out.free 2 1 rfl
    have k22 := HN.out.cell 2 2 rfl rfl
    have f22 := HN.out.free 2 2 rfl
    have k30 := HN.out.cell 3 0 rfl rfl
    have f30 := HN.out.free 3 0 rfl
    have k31 := HN.out.cell 3 1 rfl rfl
    have f31 := HN.out.free 3 1 rfl
    go_upto_region 2 with fail
    clear k00 f00 k01 f01 k02 f02 k10 f10 k11 f11 k12 f12 k20 f20 k21 f21 k22 f22 k30 f30 k31 f31
    go_cut [6] (fun v6 wx => ∃ p6 a8 c8 b9 d9, v6 = .pointer (some ⟨p6, 0, none⟩) ∧ BS w [⟨w.heap.size, 40, [.bool sp, .slice a (lenW mp) c, .slice b (lenW dp) d]⟩, ⟨w.heap.size + 1, 40, [.bool sq, .slice e (lenW mq) i, .slice f (lenW dq) g]⟩, ⟨w.heap.size + 1 + 1, 40, [.bool false, .slice none 0 0, .slice none 0 0]⟩, ⟨p5, 38, [.bool su, .slice a5 (lenW mu) c5]⟩, ⟨p6, 40, [.bool (decide (r.num < 0)), .slice a8 (lenW r.num.natAbs) c8, .slice b9 (lenW (denN r.den)) d9]⟩] [⟨a8, c8, r.num.natAbs⟩, ⟨b9, d9, denN r.den⟩] wx)
    case first =>
      replace HN := Lib.hid HN.out.drew
      refine wp_region_held_drew (S := fun W => W.cell? ⟨w.heap.size, 0, none⟩ = some (.bool sp) ∧ W.cell? ⟨w.heap.size, 1, none⟩ = some (.slice a (lenW mp) c) ∧ W.cell? ⟨w.heap.size, 2, none⟩ = some (.slice b (lenW dp) d) ∧ W.cell? ⟨w.heap.size + 1, 0, none⟩ = some (.bool sq) ∧ W.cell? ⟨w.heap.size + 1, 1, none⟩ = some (.slice e (lenW mq) i) ∧ W.cell? ⟨w.heap.size + 1, 2, none⟩ = some (.slice f (lenW dq) g) ∧ W.cell? ⟨p5, 0, none⟩ = some (.bool su) ∧ W.cell? ⟨p5, 1, none⟩ = some (.slice a5 (lenW mu) c5)) (by kernel_rfl) (⟨HN.out.cell 0 0 rfl rfl, HN.out.cell 0 1 rfl rfl, HN.out.cell 0 2 rfl rfl, HN.out.cell 1 0 rfl rfl, HN.out.cell 1 1 rfl rfl, HN.out.cell 1 2 rfl rfl, HN.out.cell 3 0 rfl rfl, HN.out.cell 3 1 rfl rfl⟩) (fun hHeld => ?_)
      generalize w1.drew = wd at HN hHeld ⊢
      refine tk 0 (some 20) (v := ?_) rfl rfl ?_ ?_
      rotate_left
      · (intro w hSw; (try dsimp only at hSw); go_simp; (try with_reducible rfl))
      simp only [Act.put, stB, stZ, stS]
      refine tk 1 (some 21) (v := ?_) rfl rfl ?_ ?_
      rotate_left
      · (intro w hSw; (try dsimp only at hSw); go_simp; (try with_reducible rfl))
      simp only [Act.put, stB, stZ, stS]
      refine tk 3 (some 23) (v := ?_) rfl rfl ?_ ?_
      rotate_left
      · (intro w hSw; (try dsimp only at hSw); go_simp; (try with_reducible rfl))
      simp only [Act.put, stB, stZ, stS]
      refine wpAnyH_ready (rs := [2, 11]) (by kernel_rfl) (by simp) ?_
      refine (AllReadyH.cons (o := { dst := some 22, op := Op.call { callee := Callee.value (Operand.func 52), args := #[Operand.tmp 21], argTypes := #[40] }, type := 36, pos := "rat.go:76", after := #[{ on := 1, ground := Ground.data }], guard := none }) rfl (fun K hK => ?_) (AllReadyH.cons (o := { dst := some 6, op := Op.alloc 40, type := 0, pos := "rat.go:76", after := #[], guard := none }) rfl (fun K hK => ?_) AllReadyH.nil))
      · skip
        go_simp
        refine (HDp.out _ (HN.out.nat 1 rfl)).mono ?_
        rintro e w2 ⟨a2, c2, rfl, hq0, hb⟩
        replace HN := Lib.hid ((HN.out.call hb).got hq0)
        clear hb hq0
        go_wp2_with fail
        refine hK.out _ _ (⟨HN.out.cell 0 0 rfl rfl, HN.out.cell 0 1 rfl rfl, HN.out.cell 0 2 rfl rfl, HN.out.cell 1 0 rfl rfl, HN.out.cell 1 1 rfl rfl, HN.out.cell 1 2 rfl rfl, HN.out.cell 3 0 rfl rfl, HN.out.cell 3 1 rfl rfl⟩) (fun hHeld2 => ?_)
        clear hK K hHeld
        rename _ => hHeld
        try simp only [Act.put, stB, stZ, stS]
        refine wpAnyH_ready (rs := [4, 11]) (by kernel_rfl) (by simp) ?_
        refine (AllReadyH.cons (o := { dst := some 24, op := Op.call { callee := Callee.value (Operand.func 52), args := #[Operand.tmp 23], argTypes := #[40] }, type := 36, pos := "rat.go:76", after := #[{ on := 3, ground := Ground.data }, { on := 2, ground := Ground.chain }], guard := none }) rfl (fun K hK => ?_) (AllReadyH.cons (o := { dst := some 6, op := Op.alloc 40, type := 0, pos := "rat.go:76", after := #[], guard := none }) rfl (fun K hK => ?_) AllReadyH.nil))
        · skip
          go_simp
          refine (HDq.out _ (HN.out.nat 3 rfl)).mono ?_
          rintro e w3 ⟨a3, c3, rfl, hq0, hb⟩
          replace HN := Lib.hid ((HN.out.call hb).got hq0)
          clear hb hq0
          go_wp2_with fail
          refine hK.out _ _ (⟨HN.out.cell 0 0 rfl rfl, HN.out.cell 0 1 rfl rfl, HN.out.cell 0 2 rfl rfl, HN.out.cell 1 0 rfl rfl, HN.out.cell 1 1 rfl rfl, HN.out.cell 1 2 rfl rfl, HN.out.cell 3 0 rfl rfl, HN.out.cell 3 1 rfl rfl⟩) (fun hHeld2 => ?_)
          clear hK K hHeld
          rename _ => hHeld
          try simp only [Act.put, stB, stZ, stS]
          refine wpAnyH_ready (rs := [5, 11]) (by kernel_rfl) (by simp) ?_
          refine (AllReadyH.cons (o := { dst := some 25, op := Op.call { callee := Callee.value (Operand.func 51), args := #[Operand.tmp 22, Operand.tmp 24], argTypes := #[36, 36] }, type := 36, pos := "rat.go:76", after := #[{ on := 2, ground := Ground.data }, { on := 4, ground := Ground.data }, { on := 4, ground := Ground.chain }], guard := none }) rfl (fun K hK => ?_) (AllReadyH.cons (o := { dst := some 6, op := Op.alloc 40, type := 0, pos := "rat.go:76", after := #[], guard := none }) rfl (fun K hK => ?_) AllReadyH.nil))
          · skip
            go_simp
            refine (HPM.out _ _ _ _ _ (HN.out.nat 5 rfl) (HN.out.nat 6 rfl)).mono ?_
            rintro e w4 ⟨a4, c4, rfl, hq0, hb⟩
            replace HN := Lib.hid ((HN.out.call hb).got hq0)
            clear hb hq0
            go_wp2_with fail
            refine hK.out _ _ (⟨HN.out.cell 0 0 rfl rfl, HN.out.cell 0 1 rfl rfl, HN.out.cell 0 2 rfl rfl, HN.out.cell 1 0 rfl rfl, HN.out.cell 1 1 rfl rfl, HN.out.cell 1 2 rfl rfl, HN.out.cell 3 0 rfl rfl, HN.out.cell 3 1 rfl rfl⟩) (fun hHeld2 => ?_)
            clear hK K hHeld
            rename _ => hHeld
            try simp only [Act.put, stB, stZ, stS]
            refine wpAnyH_ready (rs := [6, 11]) (by kernel_rfl) (by simp) ?_
            refine (AllReadyH.cons (o := { dst := some 26, op := Op.call { callee := Callee.value (Operand.func 50), args := #[Operand.const (Value.bool false), Operand.tmp 25], argTypes := #[4, 36] }, type := 38, pos := "rat.go:76", after := #[{ on := 5, ground := Ground.data }, { on := 5, ground := Ground.chain }], guard := none }) rfl (fun K hK => ?_) (AllReadyH.cons (o := { dst := some 6, op := Op.alloc 40, type := 0, pos := "rat.go:76", after := #[], guard := none }) rfl (fun K hK => ?_) AllReadyH.nil))
            · skip
              go_simp
              refine (HNI.out _ _ _ (HN.out.nat 7 rfl)).mono ?_
              rintro e w5 ⟨a7, c7, rfl, hq0, hb⟩
              replace HN := Lib.hid ((HN.out.call hb).got hq0)
              clear hb hq0
              go_wp2_with fail
              refine hK.out _ _ (⟨HN.out.cell 0 0 rfl rfl, HN.out.cell 0 1 rfl rfl, HN.out.cell 0 2 rfl rfl, HN.out.cell 1 0 rfl rfl, HN.out.cell 1 1 rfl rfl, HN.out.cell 1 2 rfl rfl, HN.out.cell 3 0 rfl rfl, HN.out.cell 3 1 rfl rfl⟩) (fun hHeld2 => ?_)
              clear hK K hHeld
              rename _ => hHeld
              try simp only [Act.put, stB, stZ, stS]
              refine wpAnyH_ready (rs := [7, 11]) (by kernel_rfl) (by simp) ?_
              refine (AllReadyH.cons (o := { dst := some 27, op := Op.call { callee := Callee.value (Operand.func 49), args := #[Operand.tmp 20, Operand.tmp 26], argTypes := #[38, 38] }, type := 41, pos := "rat.go:76", after := #[{ on := 0, ground := Ground.data }, { on := 6, ground := Ground.data }, { on := 6, ground := Ground.chain }], guard := none }) rfl (fun K hK => ?_) (AllReadyH.cons (o := { dst := some 6, op := Op.alloc 40, type := 0, pos := "rat.go:76", after := #[], guard := none }) rfl (fun K hK => ?_) AllReadyH.nil))
              · skip
                go_simp
                refine (HRN.out _ _ _ _ _ (HN.out.nat 4 rfl) (HN.out.nat 8 rfl)).mono ?_
                rintro e w6 ⟨a8, c8, b9, d9, rfl, hq0, hq1, hb⟩
                replace HN := Lib.hid (((HN.out.call hb).got hq0).got hq1)
                clear hb hq0 hq1
                go_wp2_with fail
                refine hK.out _ _ (⟨HN.out.cell 0 0 rfl rfl, HN.out.cell 0 1 rfl rfl, HN.out.cell 0 2 rfl rfl, HN.out.cell 1 0 rfl rfl, HN.out.cell 1 1 rfl rfl, HN.out.cell 1 2 rfl rfl, HN.out.cell 3 0 rfl rfl, HN.out.cell 3 1 rfl rfl⟩) (fun hHeld2 => ?_)
                clear hK K hHeld
                rename _ => hHeld
                try simp only [Act.put, stB, stZ, stS]
                refine tk 8 (some 19) (v := ?_) rfl rfl ?_ ?_
                rotate_left
                · (intro w _; go_simp; (try with_reducible rfl))
                simp only [Act.put, stB, stZ, stS]
                refine tk 9 (some 28) (v := ?_) rfl rfl ?_ ?_
                rotate_left
                · (intro w _; go_simp; (try with_reducible rfl))
                simp only [Act.put, stB, stZ, stS]
                refine tk 10 (some 29) (v := ?_) rfl rfl ?_ ?_
                rotate_left
                · (intro w _; go_simp; (try with_reducible rfl))
                simp only [Act.put, stB, stZ, stS]
                refine wpAnyH_ready (rs := [11]) (by kernel_rfl) (by simp) ?_
                refine (AllReadyH.cons (o := { dst := some 6, op := Op.alloc 40, type := 0, pos := "rat.go:76", after := #[], guard := none }) rfl (fun K hK => ?_) AllReadyH.nil)
                go_simp
                replace HN := Lib.hid (HN.out.alloc (p := w6.heap.size) rfl 40 [.bool false, .slice none 0 0, .slice none 0 0] rfl)
                generalize w6.alloc (.cells #[.bool false, .slice none 0 0, .slice none 0 0] 40) = wa7 at HN ⊢
                refine hK.out _ _ (⟨HN.out.cell 0 0 rfl rfl, HN.out.cell 0 1 rfl rfl, HN.out.cell 0 2 rfl rfl, HN.out.cell 1 0 rfl rfl, HN.out.cell 1 1 rfl rfl, HN.out.cell 1 2 rfl rfl, HN.out.cell 3 0 rfl rfl, HN.out.cell 3 1 rfl rfl⟩) (fun hHeld2 => ?_)
                clear hK K hHeld
                rename _ => hHeld
                try simp only [Act.put, stB, stZ, stS]
                refine wpAnyH_ready (rs := [12]) (by kernel_rfl) (by simp) ?_
                refine (AllReadyH.cons (o := { dst := none, op := Op.store 40 (Operand.tmp 6) (Operand.tmp 28), type := 0, pos := "rat.go:76", after := #[{ on := 11, ground := Ground.data }, { on := 9, ground := Ground.data }, { on := 7, ground := Ground.chain }, { on := 0, ground := Ground.phase }, { on := 1, ground := Ground.phase }, { on := 2, ground := Ground.phase }, { on := 3, ground := Ground.phase }, { on := 4, ground := Ground.phase }, { on := 5, ground := Ground.phase }, { on := 6, ground := Ground.phase }, { on := 7, ground := Ground.phase }, { on := 8, ground := Ground.phase }, { on := 9, ground := Ground.phase }, { on := 10, ground := Ground.textOnly Departure.lateStores }, { on := 11, ground := Ground.phase }], guard := none }) rfl (fun K hK => ?_) AllReadyH.nil)
                have hc0 := HN.out.cell 4 0 rfl rfl
                have hf0 := HN.out.free 4 0 rfl
                have hc1 := HN.out.cell 4 1 rfl rfl
                have hf1 := HN.out.free 4 1 rfl
                have hc2 := HN.out.cell 4 2 rfl rfl
                have hf2 := HN.out.free 4 2 rfl
                go_simp
                clear hc0 hf0 hc1 hf1 hc2 hf2
                replace HN := Lib.hid ((((HN.out).set 4 0 rfl rfl (fun _ => by simp) (.bool (decide (r.num < 0)))).set 4 1 rfl rfl (fun _ => by simp) (.slice a8 (lenW r.num.natAbs) c8)).set 4 2 rfl rfl (fun _ => by simp) (.slice b9 (lenW (denN r.den)) d9))
                generalize (((wa7.setCell ⟨w6.heap.size, 0, none⟩ (.bool (decide (r.num < 0)))).setCell ⟨w6.heap.size, 1, none⟩ (.slice a8 (lenW r.num.natAbs) c8)).setCell ⟨w6.heap.size, 2, none⟩ (.slice b9 (lenW (denN r.den)) d9)) = wa8 at HN ⊢
                refine hK.out _ _ (⟨HN.out.cell 0 0 rfl rfl, HN.out.cell 0 1 rfl rfl, HN.out.cell 0 2 rfl rfl, HN.out.cell 1 0 rfl rfl, HN.out.cell 1 1 rfl rfl, HN.out.cell 1 2 rfl rfl, HN.out.cell 3 0 rfl rfl, HN.out.cell 3 1 rfl rfl⟩) (fun hHeld2 => ?_)
                clear hK K hHeld
                rename _ => hHeld
                try simp only [Act.put, stB, stZ, stS]
                refine tk 13 (some 7) (v := ?_) rfl rfl ?_ ?_
                rotate_left
                · (intro w _; go_simp; (try with_reducible rfl))
                simp only [Act.put, stB, stZ, stS]
                refine wpAnyH_done (by kernel_rfl) ?_ _
                go_wp2_with fail
                go_meet
                exact ⟨_, _, _, _, _, rfl, HN.out.only (List.Sublist.refl _) (fun z hz => by
                  simp only [List.mem_cons, List.not_mem_nil, or_false] at hz
                  rcases hz with rfl | rfl <;> simp)⟩
              · skip
                go_simp
                replace HN := Lib.hid (HN.out.alloc (p := w5.heap.size) rfl 40 [.bool false, .slice none 0 0, .slice none 0 0] rfl)
                generalize w5.alloc (.cells #[.bool false, .slice none 0 0, .slice none 0 0] 40) = wa6 at HN ⊢
                refine hK.out _ _ (⟨HN.out.cell 0 0 rfl rfl, HN.out.cell 0 1 rfl rfl, HN.out.cell 0 2 rfl rfl, HN.out.cell 1 0 rfl rfl, HN.out.cell 1 1 rfl rfl, HN.out.cell 1 2 rfl rfl, HN.out.cell 3 0 rfl rfl, HN.out.cell 3 1 rfl rfl⟩) (fun hHeld2 => ?_)
                clear hK K hHeld
                rename _ => hHeld
                try simp only [Act.put, stB, stZ, stS]
                refine wpAnyH_ready (rs := [7]) (by kernel_rfl) (by simp) ?_
                refine (AllReadyH.cons (o := { dst := some 27, op := Op.call { callee := Callee.value (Operand.func 49), args := #[Operand.tmp 20, Operand.tmp 26], argTypes := #[38, 38] }, type := 41, pos := "rat.go:76", after := #[{ on := 0, ground := Ground.data }, { on := 6, ground := Ground.data }, { on := 6, ground := Ground.chain }], guard := none }) rfl (fun K hK => ?_) AllReadyH.nil)
                go_simp
                refine (HRN.out _ _ _ _ _ (HN.out.nat 4 rfl) (HN.out.nat 8 rfl)).mono ?_
                rintro e w7 ⟨a8, c8, b9, d9, rfl, hq0, hq1, hb⟩
                replace HN := Lib.hid (((HN.out.call hb).got hq0).got hq1)
                clear hb hq0 hq1
                go_wp2_with fail
                refine hK.out _ _ (⟨HN.out.cell 0 0 rfl rfl, HN.out.cell 0 1 rfl rfl, HN.out.cell 0 2 rfl rfl, HN.out.cell 1 0 rfl rfl, HN.out.cell 1 1 rfl rfl, HN.out.cell 1 2 rfl rfl, HN.out.cell 3 0 rfl rfl, HN.out.cell 3 1 rfl rfl⟩) (fun hHeld2 => ?_)
                clear hK K hHeld
                rename _ => hHeld
                try simp only [Act.put, stB, stZ, stS]
                refine tk 8 (some 19) (v := ?_) rfl rfl ?_ ?_
                rotate_left
                · (intro w _; go_simp; (try with_reducible rfl))
                simp only [Act.put, stB, stZ, stS]
                refine tk 9 (some 28) (v := ?_) rfl rfl ?_ ?_
                rotate_left
                · (intro w _; go_simp; (try with_reducible rfl))
                simp only [Act.put, stB, stZ, stS]
                refine tk 10 (some 29) (v := ?_) rfl rfl ?_ ?_
                rotate_left
                · (intro w _; go_simp; (try with_reducible rfl))
                simp only [Act.put, stB, stZ, stS]
                refine wpAnyH_ready (rs := [12]) (by kernel_rfl) (by simp) ?_
                refine (AllReadyH.cons (o := { dst := none, op := Op.store 40 (Operand.tmp 6) (Operand.tmp 28), type := 0, pos := "rat.go:76", after := #[{ on := 11, ground := Ground.data }, { on := 9, ground := Ground.data }, { on := 7, ground := Ground.chain }, { on := 0, ground := Ground.phase }, { on := 1, ground := Ground.phase }, { on := 2, ground := Ground.phase }, { on := 3, ground := Ground.phase }, { on := 4, ground := Ground.phase }, { on := 5, ground := Ground.phase }, { on := 6, ground := Ground.phase }, { on := 7, ground := Ground.phase }, { on := 8, ground := Ground.phase }, { on := 9, ground := Ground.phase }, { on := 10, ground := Ground.textOnly Departure.lateStores }, { on := 11, ground := Ground.phase }], guard := none }) rfl (fun K hK => ?_) AllReadyH.nil)
                have hc0 := HN.out.cell 4 0 rfl rfl
                have hf0 := HN.out.free 4 0 rfl
                have hc1 := HN.out.cell 4 1 rfl rfl
                have hf1 := HN.out.free 4 1 rfl
                have hc2 := HN.out.cell 4 2 rfl rfl
                have hf2 := HN.out.free 4 2 rfl
                go_simp
                clear hc0 hf0 hc1 hf1 hc2 hf2
                replace HN := Lib.hid ((((HN.out).set 4 0 rfl rfl (fun _ => by simp) (.bool (decide (r.num < 0)))).set 4 1 rfl rfl (fun _ => by simp) (.slice a8 (lenW r.num.natAbs) c8)).set 4 2 rfl rfl (fun _ => by simp) (.slice b9 (lenW (denN r.den)) d9))
                generalize (((w7.setCell ⟨w5.heap.size, 0, none⟩ (.bool (decide (r.num < 0)))).setCell ⟨w5.heap.size, 1, none⟩ (.slice a8 (lenW r.num.natAbs) c8)).setCell ⟨w5.heap.size, 2, none⟩ (.slice b9 (lenW (denN r.den)) d9)) = wa8 at HN ⊢
                refine hK.out _ _ (⟨HN.out.cell 0 0 rfl rfl, HN.out.cell 0 1 rfl rfl, HN.out.cell 0 2 rfl rfl, HN.out.cell 1 0 rfl rfl, HN.out.cell 1 1 rfl rfl, HN.out.cell 1 2 rfl rfl, HN.out.cell 3 0 rfl rfl, HN.out.cell 3 1 rfl rfl⟩) (fun hHeld2 => ?_)
                clear hK K hHeld
                rename _ => hHeld
                try simp only [Act.put, stB, stZ, stS]
                refine tk 13 (some 7) (v := ?_) rfl rfl ?_ ?_
                rotate_left
                · (intro w _; go_simp; (try with_reducible rfl))
                simp only [Act.put, stB, stZ, stS]
                refine wpAnyH_done (by kernel_rfl) ?_ _
                go_wp2_with fail
                go_meet
                exact ⟨_, _, _, _, _, rfl, HN.out.only (List.Sublist.refl _) (fun z hz => by
                  simp only [List.mem_cons, List.not_mem_nil, or_false] at hz
                  rcases hz with rfl | rfl <;> simp)⟩
            · skip
              go_simp
              replace HN := Lib.hid (HN.out.alloc (p := w4.heap.size) rfl 40 [.bool false, .slice none 0 0, .slice none 0 0] rfl)
              generalize w4.alloc (.cells #[.bool false, .slice none 0 0, .slice none 0 0] 40) = wa5 at HN ⊢
              refine hK.out _ _ (⟨HN.out.cell 0 0 rfl rfl, HN.out.cell 0 1 rfl rfl, HN.out.cell 0 2 rfl rfl, HN.out.cell 1 0 rfl rfl, HN.out.cell 1 1 rfl rfl, HN.out.cell 1 2 rfl rfl, HN.out.cell 3 0 rfl rfl, HN.out.cell 3 1 rfl rfl⟩) (fun hHeld2 => ?_)
              clear hK K hHeld
              rename _ => hHeld
              try simp only [Act.put, stB, stZ, stS]
              refine wpAnyH_ready (rs := [6]) (by kernel_rfl) (by simp) ?_
              refine (AllReadyH.cons (o := { dst := some 26, op := Op.call { callee := Callee.value (Operand.func 50), args := #[Operand.const (Value.bool false), Operand.tmp 25], argTypes := #[4, 36] }, type := 38, pos := "rat.go:76", after := #[{ on := 5, ground := Ground.data }, { on := 5, ground := Ground.chain }], guard := none }) rfl (fun K hK => ?_) AllReadyH.nil)
              go_simp
              refine (HNI.out _ _ _ (HN.out.nat 7 rfl)).mono ?_
              rintro e w6 ⟨a7, c7, rfl, hq0, hb⟩
              replace HN := Lib.hid ((HN.out.call hb).got hq0)
              clear hb hq0
              go_wp2_with fail
              refine hK.out _ _ (⟨HN.out.cell 0 0 rfl rfl, HN.out.cell 0 1 rfl rfl, HN.out.cell 0 2 rfl rfl, HN.out.cell 1 0 rfl rfl, HN.out.cell 1 1 rfl rfl, HN.out.cell 1 2 rfl rfl, HN.out.cell 3 0 rfl rfl, HN.out.cell 3 1 rfl rfl⟩) (fun hHeld2 => ?_)
              clear hK K hHeld
              rename _ => hHeld
              try simp only [Act.put, stB, stZ, stS]
              refine wpAnyH_ready (rs := [7]) (by kernel_rfl) (by simp) ?_
              refine (AllReadyH.cons (o := { dst := some 27, op := Op.call { callee := Callee.value (Operand.func 49), args := #[Operand.tmp 20, Operand.tmp 26], argTypes := #[38, 38] }, type := 41, pos := "rat.go:76", after := #[{ on := 0, ground := Ground.data }, { on := 6, ground := Ground.data }, { on := 6, ground := Ground.chain }], guard := none }) rfl (fun K hK => ?_) AllReadyH.nil)
              go_simp
              refine (HRN.out _ _ _ _ _ (HN.out.nat 4 rfl) (HN.out.nat 8 rfl)).mono ?_
              rintro e w7 ⟨a8, c8, b9, d9, rfl, hq0, hq1, hb⟩
              replace HN := Lib.hid (((HN.out.call hb).got hq0).got hq1)
              clear hb hq0 hq1
              go_wp2_with fail
              refine hK.out _ _ (⟨HN.out.cell 0 0 rfl rfl, HN.out.cell 0 1 rfl rfl, HN.out.cell 0 2 rfl rfl, HN.out.cell 1 0 rfl rfl, HN.out.cell 1 1 rfl rfl, HN.out.cell 1 2 rfl rfl, HN.out.cell 3 0 rfl rfl, HN.out.cell 3 1 rfl rfl⟩) (fun hHeld2 => ?_)
              clear hK K hHeld
              rename _ => hHeld
              try simp only [Act.put, stB, stZ, stS]
              refine tk 8 (some 19) (v := ?_) rfl rfl ?_ ?_
              rotate_left
              · (intro w _; go_simp; (try with_reducible rfl))
              simp only [Act.put, stB, stZ, stS]
              refine tk 9 (some 28) (v := ?_) rfl rfl ?_ ?_
              rotate_left
              · (intro w _; go_simp; (try with_reducible rfl))
              simp only [Act.put, stB, stZ, stS]
              refine tk 10 (some 29) (v := ?_) rfl rfl ?_ ?_
              rotate_left
              · (intro w _; go_simp; (try with_reducible rfl))
              simp only [Act.put, stB, stZ, stS]
              refine wpAnyH_ready (rs := [12]) (by kernel_rfl) (by simp) ?_
              refine (AllReadyH.cons (o := { dst := none, op := Op.store 40 (Operand.tmp 6) (Operand.tmp 28), type := 0, pos := "rat.go:76", after := #[{ on := 11, ground := Ground.data }, { on := 9, ground := Ground.data }, { on := 7, ground := Ground.chain }, { on := 0, ground := Ground.phase }, { on := 1, ground := Ground.phase }, { on := 2, ground := Ground.phase }, { on := 3, ground := Ground.phase }, { on := 4, ground := Ground.phase }, { on := 5, ground := Ground.phase }, { on := 6, ground := Ground.phase }, { on := 7, ground := Ground.phase }, { on := 8, ground := Ground.phase }, { on := 9, ground := Ground.phase }, { on := 10, ground := Ground.textOnly Departure.lateStores }, { on := 11, ground := Ground.phase }], guard := none }) rfl (fun K hK => ?_) AllReadyH.nil)
              have hc0 := HN.out.cell 4 0 rfl rfl
              have hf0 := HN.out.free 4 0 rfl
              have hc1 := HN.out.cell 4 1 rfl rfl
              have hf1 := HN.out.free 4 1 rfl
              have hc2 := HN.out.cell 4 2 rfl rfl
              have hf2 := HN.out.free 4 2 rfl
              go_simp
              clear hc0 hf0 hc1 hf1 hc2 hf2
              replace HN := Lib.hid ((((HN.out).set 4 0 rfl rfl (fun _ => by simp) (.bool (decide (r.num < 0)))).set 4 1 rfl rfl (fun _ => by simp) (.slice a8 (lenW r.num.natAbs) c8)).set 4 2 rfl rfl (fun _ => by simp) (.slice b9 (lenW (denN r.den)) d9))
              generalize (((w7.setCell ⟨w4.heap.size, 0, none⟩ (.bool (decide (r.num < 0)))).setCell ⟨w4.heap.size, 1, none⟩ (.slice a8 (lenW r.num.natAbs) c8)).setCell ⟨w4.heap.size, 2, none⟩ (.slice b9 (lenW (denN r.den)) d9)) = wa8 at HN ⊢
              refine hK.out _ _ (⟨HN.out.cell 0 0 rfl rfl, HN.out.cell 0 1 rfl rfl, HN.out.cell 0 2 rfl rfl, HN.out.cell 1 0 rfl rfl, HN.out.cell 1 1 rfl rfl, HN.out.cell 1 2 rfl rfl, HN.out.cell 3 0 rfl rfl, HN.out.cell 3 1 rfl rfl⟩) (fun hHeld2 => ?_)
              clear hK K hHeld
              rename _ => hHeld
              try simp only [Act.put, stB, stZ, stS]
              refine tk 13 (some 7) (v := ?_) rfl rfl ?_ ?_
              rotate_left
              · (intro w _; go_simp; (try with_reducible rfl))
              simp only [Act.put, stB, stZ, stS]
              refine wpAnyH_done (by kernel_rfl) ?_ _
              go_wp2_with fail
              go_meet
              exact ⟨_, _, _, _, _, rfl, HN.out.only (List.Sublist.refl _) (fun z hz => by
                simp only [List.mem_cons, List.not_mem_nil, or_false] at hz
                rcases hz with rfl | rfl <;> simp)⟩
          · skip
            go_simp
            replace HN := Lib.hid (HN.out.alloc (p := w3.heap.size) rfl 40 [.bool false, .slice none 0 0, .slice none 0 0] rfl)
            generalize w3.alloc (.cells #[.bool false, .slice none 0 0, .slice none 0 0] 40) = wa4 at HN ⊢
            refine hK.out _ _ (⟨HN.out.cell 0 0 rfl rfl, HN.out.cell 0 1 rfl rfl, HN.out.cell 0 2 rfl rfl, HN.out.cell 1 0 rfl rfl, HN.out.cell 1 1 rfl rfl, HN.out.cell 1 2 rfl rfl, HN.out.cell 3 0 rfl rfl, HN.out.cell 3 1 rfl rfl⟩) (fun hHeld2 => ?_)
            clear hK K hHeld
            rename _ => hHeld
            try simp only [Act.put, stB, stZ, stS]
            refine wpAnyH_ready (rs := [5]) (by kernel_rfl) (by simp) ?_
            refine (AllReadyH.cons (o := { dst := some 25, op := Op.call { callee := Callee.value (Operand.func 51), args := #[Operand.tmp 22, Operand.tmp 24], argTypes := #[36, 36] }, type := 36, pos := "rat.go:76", after := #[{ on := 2, ground := Ground.data }, { on := 4, ground := Ground.data }, { on := 4, ground := Ground.chain }], guard := none }) rfl (fun K hK => ?_) AllReadyH.nil)
            go_simp
            refine (HPM.out _ _ _ _ _ (HN.out.nat 5 rfl) (HN.out.nat 6 rfl)).mono ?_
            rintro e w5 ⟨a4, c4, rfl, hq0, hb⟩
            replace HN := Lib.hid ((HN.out.call hb).got hq0)
            clear hb hq0
            go_wp2_with fail
            refine hK.out _ _ (⟨HN.out.cell 0 0 rfl rfl, HN.out.cell 0 1 rfl rfl, HN.out.cell 0 2 rfl rfl, HN.out.cell 1 0 rfl rfl, HN.out.cell 1 1 rfl rfl, HN.out.cell 1 2 rfl rfl, HN.out.cell 3 0 rfl rfl, HN.out.cell 3 1 rfl rfl⟩) (fun hHeld2 => ?_)
            clear hK K hHeld
            rename _ => hHeld
            try simp only [Act.put, stB, stZ, stS]
            refine wpAnyH_ready (rs := [6]) (by kernel_rfl) (by simp) ?_
            refine (AllReadyH.cons (o := { dst := some 26, op := Op.call { callee := Callee.value (Operand.func 50), args := #[Operand.const (Value.bool false), Operand.tmp 25], argTypes := #[4, 36] }, type := 38, pos := "rat.go:76", after := #[{ on := 5, ground := Ground.data }, { on := 5, ground := Ground.chain }], guard := none }) rfl (fun K hK => ?_) AllReadyH.nil)
            go_simp
            refine (HNI.out _ _ _ (HN.out.nat 7 rfl)).mono ?_
            rintro e w6 ⟨a7, c7, rfl, hq0, hb⟩
            replace HN := Lib.hid ((HN.out.call hb).got hq0)
            clear hb hq0
            go_wp2_with fail
            refine hK.out _ _ (⟨HN.out.cell 0 0 rfl rfl, HN.out.cell 0 1 rfl rfl, HN.out.cell 0 2 rfl rfl, HN.out.cell 1 0 rfl rfl, HN.out.cell 1 1 rfl rfl, HN.out.cell 1 2 rfl rfl, HN.out.cell 3 0 rfl rfl, HN.out.cell 3 1 rfl rfl⟩) (fun hHeld2 => ?_)
            clear hK K hHeld
            rename _ => hHeld
            try simp only [Act.put, stB, stZ, stS]
            refine wpAnyH_ready (rs := [7]) (by kernel_rfl) (by simp) ?_
            refine (AllReadyH.cons (o := { dst := some 27, op := Op.call { callee := Callee.value (Operand.func 49), args := #[Operand.tmp 20, Operand.tmp 26], argTypes := #[38, 38] }, type := 41, pos := "rat.go:76", after := #[{ on := 0, ground := Ground.data }, { on := 6, ground := Ground.data }, { on := 6, ground := Ground.chain }], guard := none }) rfl (fun K hK => ?_) AllReadyH.nil)
            go_simp
            refine (HRN.out _ _ _ _ _ (HN.out.nat 4 rfl) (HN.out.nat 8 rfl)).mono ?_
            rintro e w7 ⟨a8, c8, b9, d9, rfl, hq0, hq1, hb⟩
            replace HN := Lib.hid (((HN.out.call hb).got hq0).got hq1)
            clear hb hq0 hq1
            go_wp2_with fail
            refine hK.out _ _ (⟨HN.out.cell 0 0 rfl rfl, HN.out.cell 0 1 rfl rfl, HN.out.cell 0 2 rfl rfl, HN.out.cell 1 0 rfl rfl, HN.out.cell 1 1 rfl rfl, HN.out.cell 1 2 rfl rfl, HN.out.cell 3 0 rfl rfl, HN.out.cell 3 1 rfl rfl⟩) (fun hHeld2 => ?_)
            clear hK K hHeld
            rename _ => hHeld
            try simp only [Act.put, stB, stZ, stS]
            refine tk 8 (some 19) (v := ?_) rfl rfl ?_ ?_
            rotate_left
            · (intro w _; go_simp; (try with_reducible rfl))
            simp only [Act.put, stB, stZ, stS]
            refine tk 9 (some 28) (v := ?_) rfl rfl ?_ ?_
            rotate_left
            · (intro w _; go_simp; (try with_reducible rfl))
            simp only [Act.put, stB, stZ, stS]
            refine tk 10 (some 29) (v := ?_) rfl rfl ?_ ?_
            rotate_left
            · (intro w _; go_simp; (try with_reducible rfl))
            simp only [Act.put, stB, stZ, stS]
            refine wpAnyH_ready (rs := [12]) (by kernel_rfl) (by simp) ?_
            refine (AllReadyH.cons (o := { dst := none, op := Op.store 40 (Operand.tmp 6) (Operand.tmp 28), type := 0, pos := "rat.go:76", after := #[{ on := 11, ground := Ground.data }, { on := 9, ground := Ground.data }, { on := 7, ground := Ground.chain }, { on := 0, ground := Ground.phase }, { on := 1, ground := Ground.phase }, { on := 2, ground := Ground.phase }, { on := 3, ground := Ground.phase }, { on := 4, ground := Ground.phase }, { on := 5, ground := Ground.phase }, { on := 6, ground := Ground.phase }, { on := 7, ground := Ground.phase }, { on := 8, ground := Ground.phase }, { on := 9, ground := Ground.phase }, { on := 10, ground := Ground.textOnly Departure.lateStores }, { on := 11, ground := Ground.phase }], guard := none }) rfl (fun K hK => ?_) AllReadyH.nil)
            have hc0 := HN.out.cell 4 0 rfl rfl
            have hf0 := HN.out.free 4 0 rfl
            have hc1 := HN.out.cell 4 1 rfl rfl
            have hf1 := HN.out.free 4 1 rfl
            have hc2 := HN.out.cell 4 2 rfl rfl
            have hf2 := HN.out.free 4 2 rfl
            go_simp
            clear hc0 hf0 hc1 hf1 hc2 hf2
            replace HN := Lib.hid ((((HN.out).set 4 0 rfl rfl (fun _ => by simp) (.bool (decide (r.num < 0)))).set 4 1 rfl rfl (fun _ => by simp) (.slice a8 (lenW r.num.natAbs) c8)).set 4 2 rfl rfl (fun _ => by simp) (.slice b9 (lenW (denN r.den)) d9))
            generalize (((w7.setCell ⟨w3.heap.size, 0, none⟩ (.bool (decide (r.num < 0)))).setCell ⟨w3.heap.size, 1, none⟩ (.slice a8 (lenW r.num.natAbs) c8)).setCell ⟨w3.heap.size, 2, none⟩ (.slice b9 (lenW (denN r.den)) d9)) = wa8 at HN ⊢
            refine hK.out _ _ (⟨HN.out.cell 0 0 rfl rfl, HN.out.cell 0 1 rfl rfl, HN.out.cell 0 2 rfl rfl, HN.out.cell 1 0 rfl rfl, HN.out.cell 1 1 rfl rfl, HN.out.cell 1 2 rfl rfl, HN.out.cell 3 0 rfl rfl, HN.out.cell 3 1 rfl rfl⟩) (fun hHeld2 => ?_)
            clear hK K hHeld
            rename _ => hHeld
            try simp only [Act.put, stB, stZ, stS]
            refine tk 13 (some 7) (v := ?_) rfl rfl ?_ ?_
            rotate_left
            · (intro w _; go_simp; (try with_reducible rfl))
            simp only [Act.put, stB, stZ, stS]
            refine wpAnyH_done (by kernel_rfl) ?_ _
            go_wp2_with fail
            go_meet
            exact ⟨_, _, _, _, _, rfl, HN.out.only (List.Sublist.refl _) (fun z hz => by
              simp only [List.mem_cons, List.not_mem_nil, or_false] at hz
              rcases hz with rfl | rfl <;> simp)⟩
        · skip
          go_simp
          replace HN := Lib.hid (HN.out.alloc (p := w2.heap.size) rfl 40 [.bool false, .slice none 0 0, .slice none 0 0] rfl)
          generalize w2.alloc (.cells #[.bool false, .slice none 0 0, .slice none 0 0] 40) = wa3 at HN ⊢
          refine hK.out _ _ (⟨HN.out.cell 0 0 rfl rfl, HN.out.cell 0 1 rfl rfl, HN.out.cell 0 2 rfl rfl, HN.out.cell 1 0 rfl rfl, HN.out.cell 1 1 rfl rfl, HN.out.cell 1 2 rfl rfl, HN.out.cell 3 0 rfl rfl, HN.out.cell 3 1 rfl rfl⟩) (fun hHeld2 => ?_)
          clear hK K hHeld
          rename _ => hHeld
          try simp only [Act.put, stB, stZ, stS]
          refine wpAnyH_ready (rs := [4]) (by kernel_rfl) (by simp) ?_
          refine (AllReadyH.cons (o := { dst := some 24, op := Op.call { callee := Callee.value (Operand.func 52), args := #[Operand.tmp 23], argTypes := #[40] }, type := 36, pos := "rat.go:76", after := #[{ on := 3, ground := Ground.data }, { on := 2, ground := Ground.chain }], guard := none }) rfl (fun K hK => ?_) AllReadyH.nil)
          go_simp
          refine (HDq.out _ (HN.out.nat 3 rfl)).mono ?_
          rintro e w4 ⟨a3, c3, rfl, hq0, hb⟩
          replace HN := Lib.hid ((HN.out.call hb).got hq0)
          clear hb hq0
          go_wp2_with fail
          refine hK.out _ _ (⟨HN.out.cell 0 0 rfl rfl, HN.out.cell 0 1 rfl rfl, HN.out.cell 0 2 rfl rfl, HN.out.cell 1 0 rfl rfl, HN.out.cell 1 1 rfl rfl, HN.out.cell 1 2 rfl rfl, HN.out.cell 3 0 rfl rfl, HN.out.cell 3 1 rfl rfl⟩) (fun hHeld2 => ?_)
          clear hK K hHeld
          rename _ => hHeld
          try simp only [Act.put, stB, stZ, stS]
          refine wpAnyH_ready (rs := [5]) (by kernel_rfl) (by simp) ?_
          refine (AllReadyH.cons (o := { dst := some 25, op := Op.call { callee := Callee.value (Operand.func 51), args := #[Operand.tmp 22, Operand.tmp 24], argTypes := #[36, 36] }, type := 36, pos := "rat.go:76", after := #[{ on := 2, ground := Ground.data }, { on := 4, ground := Ground.data }, { on := 4, ground := Ground.chain }], guard := none }) rfl (fun K hK => ?_) AllReadyH.nil)
          go_simp
          refine (HPM.out _ _ _ _ _ (HN.out.nat 5 rfl) (HN.out.nat 6 rfl)).mono ?_
          rintro e w5 ⟨a4, c4, rfl, hq0, hb⟩
          replace HN := Lib.hid ((HN.out.call hb).got hq0)
          clear hb hq0
          go_wp2_with fail
          refine hK.out _ _ (⟨HN.out.cell 0 0 rfl rfl, HN.out.cell 0 1 rfl rfl, HN.out.cell 0 2 rfl rfl, HN.out.cell 1 0 rfl rfl, HN.out.cell 1 1 rfl rfl, HN.out.cell 1 2 rfl rfl, HN.out.cell 3 0 rfl rfl, HN.out.cell 3 1 rfl rfl⟩) (fun hHeld2 => ?_)
          clear hK K hHeld
          rename _ => hHeld
          try simp only [Act.put, stB, stZ, stS]
          refine wpAnyH_ready (rs := [6]) (by kernel_rfl) (by simp) ?_
          refine (AllReadyH.cons (o := { dst := some 26, op := Op.call { callee := Callee.value (Operand.func 50), args := #[Operand.const (Value.bool false), Operand.tmp 25], argTypes := #[4, 36] }, type := 38, pos := "rat.go:76", after := #[{ on := 5, ground := Ground.data }, { on := 5, ground := Ground.chain }], guard := none }) rfl (fun K hK => ?_) AllReadyH.nil)
          go_simp
          refine (HNI.out _ _ _ (HN.out.nat 7 rfl)).mono ?_
          rintro e w6 ⟨a7, c7, rfl, hq0, hb⟩
          replace HN := Lib.hid ((HN.out.call hb).got hq0)
          clear hb hq0
          go_wp2_with fail
          refine hK.out _ _ (⟨HN.out.cell 0 0 rfl rfl, HN.out.cell 0 1 rfl rfl, HN.out.cell 0 2 rfl rfl, HN.out.cell 1 0 rfl rfl, HN.out.cell 1 1 rfl rfl, HN.out.cell 1 2 rfl rfl, HN.out.cell 3 0 rfl rfl, HN.out.cell 3 1 rfl rfl⟩) (fun hHeld2 => ?_)
          clear hK K hHeld
          rename _ => hHeld
          try simp only [Act.put, stB, stZ, stS]
          refine wpAnyH_ready (rs := [7]) (by kernel_rfl) (by simp) ?_
          refine (AllReadyH.cons (o := { dst := some 27, op := Op.call { callee := Callee.value (Operand.func 49), args := #[Operand.tmp 20, Operand.tmp 26], argTypes := #[38, 38] }, type := 41, pos := "rat.go:76", after := #[{ on := 0, ground := Ground.data }, { on := 6, ground := Ground.data }, { on := 6, ground := Ground.chain }], guard := none }) rfl (fun K hK => ?_) AllReadyH.nil)
          go_simp
          refine (HRN.out _ _ _ _ _ (HN.out.nat 4 rfl) (HN.out.nat 8 rfl)).mono ?_
          rintro e w7 ⟨a8, c8, b9, d9, rfl, hq0, hq1, hb⟩
          replace HN := Lib.hid (((HN.out.call hb).got hq0).got hq1)
          clear hb hq0 hq1
          go_wp2_with fail
          refine hK.out _ _ (⟨HN.out.cell 0 0 rfl rfl, HN.out.cell 0 1 rfl rfl, HN.out.cell 0 2 rfl rfl, HN.out.cell 1 0 rfl rfl, HN.out.cell 1 1 rfl rfl, HN.out.cell 1 2 rfl rfl, HN.out.cell 3 0 rfl rfl, HN.out.cell 3 1 rfl rfl⟩) (fun hHeld2 => ?_)
          clear hK K hHeld
          rename _ => hHeld
          try simp only [Act.put, stB, stZ, stS]
          refine tk 8 (some 19) (v := ?_) rfl rfl ?_ ?_
          rotate_left
          · (intro w _; go_simp; (try with_reducible rfl))
          simp only [Act.put, stB, stZ, stS]
          refine tk 9 (some 28) (v := ?_) rfl rfl ?_ ?_
          rotate_left
          · (intro w _; go_simp; (try with_reducible rfl))
          simp only [Act.put, stB, stZ, stS]
          refine tk 10 (some 29) (v := ?_) rfl rfl ?_ ?_
          rotate_left
          · (intro w _; go_simp; (try with_reducible rfl))
          simp only [Act.put, stB, stZ, stS]
          refine wpAnyH_ready (rs := [12]) (by kernel_rfl) (by simp) ?_
          refine (AllReadyH.cons (o := { dst := none, op := Op.store 40 (Operand.tmp 6) (Operand.tmp 28), type := 0, pos := "rat.go:76", after := #[{ on := 11, ground := Ground.data }, { on := 9, ground := Ground.data }, { on := 7, ground := Ground.chain }, { on := 0, ground := Ground.phase }, { on := 1, ground := Ground.phase }, { on := 2, ground := Ground.phase }, { on := 3, ground := Ground.phase }, { on := 4, ground := Ground.phase }, { on := 5, ground := Ground.phase }, { on := 6, ground := Ground.phase }, { on := 7, ground := Ground.phase }, { on := 8, ground := Ground.phase }, { on := 9, ground := Ground.phase }, { on := 10, ground := Ground.textOnly Departure.lateStores }, { on := 11, ground := Ground.phase }], guard := none }) rfl (fun K hK => ?_) AllReadyH.nil)
          have hc0 := HN.out.cell 4 0 rfl rfl
          have hf0 := HN.out.free 4 0 rfl
          have hc1 := HN.out.cell 4 1 rfl rfl
          have hf1 := HN.out.free 4 1 rfl
          have hc2 := HN.out.cell 4 2 rfl rfl
          have hf2 := HN.out.free 4 2 rfl
          go_simp
          clear hc0 hf0 hc1 hf1 hc2 hf2
          replace HN := Lib.hid ((((HN.out).set 4 0 rfl rfl (fun _ => by simp) (.bool (decide (r.num < 0)))).set 4 1 rfl rfl (fun _ => by simp) (.slice a8 (lenW r.num.natAbs) c8)).set 4 2 rfl rfl (fun _ => by simp) (.slice b9 (lenW (denN r.den)) d9))
          generalize (((w7.setCell ⟨w2.heap.size, 0, none⟩ (.bool (decide (r.num < 0)))).setCell ⟨w2.heap.size, 1, none⟩ (.slice a8 (lenW r.num.natAbs) c8)).setCell ⟨w2.heap.size, 2, none⟩ (.slice b9 (lenW (denN r.den)) d9)) = wa8 at HN ⊢
          refine hK.out _ _ (⟨HN.out.cell 0 0 rfl rfl, HN.out.cell 0 1 rfl rfl, HN.out.cell 0 2 rfl rfl, HN.out.cell 1 0 rfl rfl, HN.out.cell 1 1 rfl rfl, HN.out.cell 1 2 rfl rfl, HN.out.cell 3 0 rfl rfl, HN.out.cell 3 1 rfl rfl⟩) (fun hHeld2 => ?_)
          clear hK K hHeld
          rename _ => hHeld
          try simp only [Act.put, stB, stZ, stS]
          refine tk 13 (some 7) (v := ?_) rfl rfl ?_ ?_
          rotate_left
          · (intro w _; go_simp; (try with_reducible rfl))
          simp only [Act.put, stB, stZ, stS]
          refine wpAnyH_done (by kernel_rfl) ?_ _
          go_wp2_with fail
          go_meet
          exact ⟨_, _, _, _, _, rfl, HN.out.only (List.Sublist.refl _) (fun z hz => by
            simp only [List.mem_cons, List.not_mem_nil, or_false] at hz
            rcases hz with rfl | rfl <;> simp)⟩
      · skip
        go_simp
        replace HN := Lib.hid (HN.out.alloc (p := wd.heap.size) rfl 40 [.bool false, .slice none 0 0, .slice none 0 0] rfl)
        generalize wd.alloc (.cells #[.bool false, .slice none 0 0, .slice none 0 0] 40) = wa2 at HN ⊢
        refine hK.out _ _ (⟨HN.out.cell 0 0 rfl rfl, HN.out.cell 0 1 rfl rfl, HN.out.cell 0 2 rfl rfl, HN.out.cell 1 0 rfl rfl, HN.out.cell 1 1 rfl rfl, HN.out.cell 1 2 rfl rfl, HN.out.cell 3 0 rfl rfl, HN.out.cell 3 1 rfl rfl⟩) (fun hHeld2 => ?_)
        clear hK K hHeld
        rename _ => hHeld
        try simp only [Act.put, stB, stZ, stS]
        refine wpAnyH_ready (rs := [2]) (by kernel_rfl) (by simp) ?_
        refine (AllReadyH.cons (o := { dst := some 22, op := Op.call { callee := Callee.value (Operand.func 52), args := #[Operand.tmp 21], argTypes := #[40] }, type := 36, pos := "rat.go:76", after := #[{ on := 1, ground := Ground.data }], guard := none }) rfl (fun K hK => ?_) AllReadyH.nil)
        go_simp
        refine (HDp.out _ (HN.out.nat 1 rfl)).mono ?_
        rintro e w3 ⟨a2, c2, rfl, hq0, hb⟩
        replace HN := Lib.hid ((HN.out.call hb).got hq0)
        clear hb hq0
        go_wp2_with fail
        refine hK.out _ _ (⟨HN.out.cell 0 0 rfl rfl, HN.out.cell 0 1 rfl rfl, HN.out.cell 0 2 rfl rfl, HN.out.cell 1 0 rfl rfl, HN.out.cell 1 1 rfl rfl, HN.out.cell 1 2 rfl rfl, HN.out.cell 3 0 rfl rfl, HN.out.cell 3 1 rfl rfl⟩) (fun hHeld2 => ?_)
        clear hK K hHeld
        rename _ => hHeld
        try simp only [Act.put, stB, stZ, stS]
        refine wpAnyH_ready (rs := [4]) (by kernel_rfl) (by simp) ?_
        refine (AllReadyH.cons (o := { dst := some 24, op := Op.call { callee := Callee.value (Operand.func 52), args := #[Operand.tmp 23], argTypes := #[40] }, type := 36, pos := "rat.go:76", after := #[{ on := 3, ground := Ground.data }, { on := 2, ground := Ground.chain }], guard := none }) rfl (fun K hK => ?_) AllReadyH.nil)
        go_simp
        refine (HDq.out _ (HN.out.nat 3 rfl)).mono ?_
        rintro e w4 ⟨a3, c3, rfl, hq0, hb⟩
        replace HN := Lib.hid ((HN.out.call hb).got hq0)
        clear hb hq0
        go_wp2_with fail
        refine hK.out _ _ (⟨HN.out.cell 0 0 rfl rfl, HN.out.cell 0 1 rfl rfl, HN.out.cell 0 2 rfl rfl, HN.out.cell 1 0 rfl rfl, HN.out.cell 1 1 rfl rfl, HN.out.cell 1 2 rfl rfl, HN.out.cell 3 0 rfl rfl, HN.out.cell 3 1 rfl rfl⟩) (fun hHeld2 => ?_)
        clear hK K hHeld
        rename _ => hHeld
        try simp only [Act.put, stB, stZ, stS]
        refine wpAnyH_ready (rs := [5]) (by kernel_rfl) (by simp) ?_
        refine (AllReadyH.cons (o := { dst := some 25, op := Op.call { callee := Callee.value (Operand.func 51), args := #[Operand.tmp 22, Operand.tmp 24], argTypes := #[36, 36] }, type := 36, pos := "rat.go:76", after := #[{ on := 2, ground := Ground.data }, { on := 4, ground := Ground.data }, { on := 4, ground := Ground.chain }], guard := none }) rfl (fun K hK => ?_) AllReadyH.nil)
        go_simp
        refine (HPM.out _ _ _ _ _ (HN.out.nat 5 rfl) (HN.out.nat 6 rfl)).mono ?_
        rintro e w5 ⟨a4, c4, rfl, hq0, hb⟩
        replace HN := Lib.hid ((HN.out.call hb).got hq0)
        clear hb hq0
        go_wp2_with fail
        refine hK.out _ _ (⟨HN.out.cell 0 0 rfl rfl, HN.out.cell 0 1 rfl rfl, HN.out.cell 0 2 rfl rfl, HN.out.cell 1 0 rfl rfl, HN.out.cell 1 1 rfl rfl, HN.out.cell 1 2 rfl rfl, HN.out.cell 3 0 rfl rfl, HN.out.cell 3 1 rfl rfl⟩) (fun hHeld2 => ?_)
        clear hK K hHeld
        rename _ => hHeld
        try simp only [Act.put, stB, stZ, stS]
        refine wpAnyH_ready (rs := [6]) (by kernel_rfl) (by simp) ?_
        refine (AllReadyH.cons (o := { dst := some 26, op := Op.call { callee := Callee.value (Operand.func 50), args := #[Operand.const (Value.bool false), Operand.tmp 25], argTypes := #[4, 36] }, type := 38, pos := "rat.go:76", after := #[{ on := 5, ground := Ground.data }, { on := 5, ground := Ground.chain }], guard := none }) rfl (fun K hK => ?_) AllReadyH.nil)
        go_simp
        refine (HNI.out _ _ _ (HN.out.nat 7 rfl)).mono ?_
        rintro e w6 ⟨a7, c7, rfl, hq0, hb⟩
        replace HN := Lib.hid ((HN.out.call hb).got hq0)
        clear hb hq0
        go_wp2_with fail
        refine hK.out _ _ (⟨HN.out.cell 0 0 rfl rfl, HN.out.cell 0 1 rfl rfl, HN.out.cell 0 2 rfl rfl, HN.out.cell 1 0 rfl rfl, HN.out.cell 1 1 rfl rfl, HN.out.cell 1 2 rfl rfl, HN.out.cell 3 0 rfl rfl, HN.out.cell 3 1 rfl rfl⟩) (fun hHeld2 => ?_)
        clear hK K hHeld
        rename _ => hHeld
        try simp only [Act.put, stB, stZ, stS]
        refine wpAnyH_ready (rs := [7]) (by kernel_rfl) (by simp) ?_
        refine (AllReadyH.cons (o := { dst := some 27, op := Op.call { callee := Callee.value (Operand.func 49), args := #[Operand.tmp 20, Operand.tmp 26], argTypes := #[38, 38] }, type := 41, pos := "rat.go:76", after := #[{ on := 0, ground := Ground.data }, { on := 6, ground := Ground.data }, { on := 6, ground := Ground.chain }], guard := none }) rfl (fun K hK => ?_) AllReadyH.nil)
        go_simp
        refine (HRN.out _ _ _ _ _ (HN.out.nat 4 rfl) (HN.out.nat 8 rfl)).mono ?_
        rintro e w7 ⟨a8, c8, b9, d9, rfl, hq0, hq1, hb⟩
        replace HN := Lib.hid (((HN.out.call hb).got hq0).got hq1)
        clear hb hq0 hq1
        go_wp2_with fail
        refine hK.out _ _ (⟨HN.out.cell 0 0 rfl rfl, HN.out.cell 0 1 rfl rfl, HN.out.cell 0 2 rfl rfl, HN.out.cell 1 0 rfl rfl, HN.out.cell 1 1 rfl rfl, HN.out.cell 1 2 rfl rfl, HN.out.cell 3 0 rfl rfl, HN.out.cell 3 1 rfl rfl⟩) (fun hHeld2 => ?_)
        clear hK K hHeld
        rename _ => hHeld
        try simp only [Act.put, stB, stZ, stS]
        refine tk 8 (some 19) (v := ?_) rfl rfl ?_ ?_
        rotate_left
        · (intro w _; go_simp; (try with_reducible rfl))
        simp only [Act.put, stB, stZ, stS]
        refine tk 9 (some 28) (v := ?_) rfl rfl ?_ ?_
        rotate_left
        · (intro w _; go_simp; (try with_reducible rfl))
        simp only [Act.put, stB, stZ, stS]
        refine tk 10 (some 29) (v := ?_) rfl rfl ?_ ?_
        rotate_left
        · (intro w _; go_simp; (try with_reducible rfl))
        simp only [Act.put, stB, stZ, stS]
        refine wpAnyH_ready (rs := [12]) (by kernel_rfl) (by simp) ?_
        refine (AllReadyH.cons (o := { dst := none, op := Op.store 40 (Operand.tmp 6) (Operand.tmp 28), type := 0, pos := "rat.go:76", after := #[{ on := 11, ground := Ground.data }, { on := 9, ground := Ground.data }, { on := 7, ground := Ground.chain }, { on := 0, ground := Ground.phase }, { on := 1, ground := Ground.phase }, { on := 2, ground := Ground.phase }, { on := 3, ground := Ground.phase }, { on := 4, ground := Ground.phase }, { on := 5, ground := Ground.phase }, { on := 6, ground := Ground.phase }, { on := 7, ground := Ground.phase }, { on := 8, ground := Ground.phase }, { on := 9, ground := Ground.phase }, { on := 10, ground := Ground.textOnly Departure.lateStores }, { on := 11, ground := Ground.phase }], guard := none }) rfl (fun K hK => ?_) AllReadyH.nil)
        have hc0 := HN.out.cell 4 0 rfl rfl
        have hf0 := HN.out.free 4 0 rfl
        have hc1 := HN.out.cell 4 1 rfl rfl
        have hf1 := HN.out.free 4 1 rfl
        have hc2 := HN.out.cell 4 2 rfl rfl
        have hf2 := HN.out.free 4 2 rfl
        go_simp
        clear hc0 hf0 hc1 hf1 hc2 hf2
        replace HN := Lib.hid ((((HN.out).set 4 0 rfl rfl (fun _ => by simp) (.bool (decide (r.num < 0)))).set 4 1 rfl rfl (fun _ => by simp) (.slice a8 (lenW r.num.natAbs) c8)).set 4 2 rfl rfl (fun _ => by simp) (.slice b9 (lenW (denN r.den)) d9))
        generalize (((w7.setCell ⟨wd.heap.size, 0, none⟩ (.bool (decide (r.num < 0)))).setCell ⟨wd.heap.size, 1, none⟩ (.slice a8 (lenW r.num.natAbs) c8)).setCell ⟨wd.heap.size, 2, none⟩ (.slice b9 (lenW (denN r.den)) d9)) = wa8 at HN ⊢
        refine hK.out _ _ (⟨HN.out.cell 0 0 rfl rfl, HN.out.cell 0 1 rfl rfl, HN.out.cell 0 2 rfl rfl, HN.out.cell 1 0 rfl rfl, HN.out.cell 1 1 rfl rfl, HN.out.cell 1 2 rfl rfl, HN.out.cell 3 0 rfl rfl, HN.out.cell 3 1 rfl rfl⟩) (fun hHeld2 => ?_)
        clear hK K hHeld
        rename _ => hHeld
        try simp only [Act.put, stB, stZ, stS]
        refine tk 13 (some 7) (v := ?_) rfl rfl ?_ ?_
        rotate_left
        · (intro w _; go_simp; (try with_reducible rfl))
        simp only [Act.put, stB, stZ, stS]
        refine wpAnyH_done (by kernel_rfl) ?_ _
        go_wp2_with fail
        go_meet
        exact ⟨_, _, _, _, _, rfl, HN.out.only (List.Sublist.refl _) (fun z hz => by
          simp only [List.mem_cons, List.not_mem_nil, or_false] at hz
          rcases hz with rfl | rfl <;> simp)⟩
    case rest =>
      obtain ⟨w2, rfl⟩ : ∃ w2 : World, w2 = wc := ⟨_, rfl⟩
      obtain ⟨p6, a8, c8, b9, d9, rfl, hn0⟩ := hcut
      have HN := Lib.hid hn0
      clear hn0
      have k00 := HN.out.cell 0 0 rfl rfl
      have f00 := HN.out.free 0 0 rfl
      have k01 := HN.out.cell 0 1 rfl rfl
      have f01 := HN.out.free 0 1 rfl
      have k02 := HN.out.cell 0 2 rfl rfl
      have f02 := HN.out.free 0 2 rfl
      have k10 := HN.out.cell 1 0 rfl rfl
      have f10 := HN.out.free 1 0 rfl
      have k11 := HN.out.cell 1 1 rfl rfl
      have f11 := HN.out.free 1 1 rfl
      have k12 := HN.out.cell 1 2 rfl rfl
      have f12 := HN.out.free 1 2 rfl
      have k20 := HN.out.cell 2 0 rfl rfl
      have f20 := HN.out.free 2 0 rfl
      have k21 := HN.out.cell 2 1 rfl rfl
      have f21 := HN.out.free 2 1 rfl
      have k22 := HN.out.cell 2 2 rfl rfl
      have f22 := HN.out.free 2 2 rfl
      have k30 := HN.out.cell 3 0 rfl rfl
      have f30 := HN.out.free 3 0 rfl
      have k31 := HN.out.cell 3 1 rfl rfl
      have f31 := HN.out.free 3 1 rfl
      have k40 := HN.out.cell 4 0 rfl rfl
      have f40 := HN.out.free 4 0 rfl
      have k41 := HN.out.cell 4 1 rfl rfl
      have f41 := HN.out.free 4 1 rfl
      have k42 := HN.out.cell 4 2 rfl rfl
      have f42 := HN.out.free 4 2 rfl
      have HE := Lib.hid ((((HN.out).set 2 0 rfl rfl (fun _ => by simp) (.bool (decide (r.num < 0)))).set 2 1 rfl rfl (fun _ => by simp) (.slice a8 (lenW r.num.natAbs) c8)).set 2 2 rfl rfl (fun _ => by simp) (.slice b9 (lenW (denN r.den)) d9))
      have j0_2 := HE.out.cell 2 0 rfl rfl
      have j1_2 := HE.out.cell 2 1 rfl rfl
      have j2_2 := HE.out.cell 2 2 rfl rfl
      go_wp2_with fail
      refine bodyPost_ret (v := .agg #[.bool (decide (r.num < 0)), .slice a8 (lenW r.num.natAbs) c8, .slice b9 (lenW (denN r.den)) d9]) (by simp [results, Try.results16, go_sem, j0_2, j1_2, j2_2, k00, k01, k02, k10, k11, k12, k20, k21, k22, k30, k31, k40, k41, k42]) rfl ?_
      exact ⟨a8, c8, b9, d9, rfl, HE.out.nat 0 rfl, HE.out.nat 1 rfl, HE.out.bel⟩
end Go.Proofs.Ytndndfobkbeolaa
namespace Go.Proofs.Ytndndfobkbeolaa
open Go.RowKit Go.Extern.Stop Go.Stop Go.Extern
set_option maxRecDepth 100000 in
set_option maxHeartbeats 16000000 in
theorem rmul_any {K K2 L : Nat} (hK : MulUpto K) (hKs : K ≤ 17592186044416) (hKL : L ≤ K2) (hD : DivUpto K2 L) (p q : Rat) (a b e f : Option Addr) (c d i g : Nat) (w : World) (ha : NatW w a c p.num.natAbs) (hb : NatW w b d (denN p.den)) (he : NatW w e i q.num.natAbs) (hf : NatW w f g (denN q.den)) (h1 : lenW p.num.natAbs + lenW q.num.natAbs ≤ K) (h3 : lenW p.den + lenW q.den ≤ K) (h4 : lenW (p.num * q.num).natAbs ≤ K2) (h5 : lenW ((p.den * q.den : Nat) : Int).natAbs ≤ L) : Calls Try.prog 44 #[ratV a c b d p, ratV e i f g q] w (RetR (p * q) w) := by
  have hM := fun (W : World) (q1 : NatW W a c p.num.natAbs) (q2 : NatW W e i q.num.natAbs) => imul_any hK p.num q.num a e c i W q1 q2 h1
  have hDp := fun (W : World) (h : NatW W b d (denN p.den)) => den_any (decide (p.num < 0)) a b (lenW p.num.natAbs) c d p W h
  have hDq := fun (W : World) (h : NatW W f g (denN q.den)) => den_any (decide (q.num < 0)) e f (lenW q.num.natAbs) i g q W h
  have hPM := fun (a2 a3 : Option Addr) (c2 c3 : Nat) (W : World) (q1 : NatW W a2 c2 p.den) (q2 : NatW W a3 c3 q.den) => hK a2 a3 c2 c3 p.den q.den W q1 q2 h3
  have hNI := fun (a2 : Option Addr) (c2 : Nat) (W : World) (q1 : NatW W a2 c2 (p.den * q.den)) => newI_false (p.den * q.den) ▸ inew_any false a2 c2 (p.den * q.den) W q1
  have hRN := fun (a2 a3 : Option Addr) (c2 c3 : Nat) (W : World) (q1 : NatW W a2 c2 (p.num * q.num).natAbs) (q2 : NatW W a3 c3 ((p.den * q.den : Nat) : Int).natAbs) => rnew_any hKL hD (p.num * q.num) ((p.den * q.den : Nat) : Int) a2 a3 c2 c3 W q1 q2 h4 h5 (by have := Nat.mul_ne_zero p.den_nz q.den_nz; omega)
  rw [rat_mul p q] at hRN
  obtain ⟨r, hr⟩ : ∃ r, p * q = r := ⟨_, rfl⟩
  rw [hr] at hRN
  rw [hr]
  obtain ⟨sp, hsp⟩ : ∃ z, decide (p.num < 0) = z := ⟨_, rfl⟩
  obtain ⟨mp, hmp⟩ : ∃ z, p.num.natAbs = z := ⟨_, rfl⟩
  obtain ⟨sq, hsq⟩ : ∃ z, decide (q.num < 0) = z := ⟨_, rfl⟩
  obtain ⟨mq, hmq⟩ : ∃ z, q.num.natAbs = z := ⟨_, rfl⟩
  obtain ⟨dp, hdp⟩ : ∃ z, denN p.den = z := ⟨_, rfl⟩
  obtain ⟨dq, hdq⟩ : ∃ z, denN q.den = z := ⟨_, rfl⟩
  obtain ⟨u, hu⟩ : ∃ z, p.num * q.num = z := ⟨_, rfl⟩
  obtain ⟨v, hv⟩ : ∃ z, p.den * q.den = z := ⟨_, rfl⟩
  rw [hu] at hRN hM
  rw [hv] at hPM hNI hRN
  obtain ⟨su, hsu⟩ : ∃ z, decide (u < 0) = z := ⟨_, rfl⟩
  obtain ⟨mu, hmu⟩ : ∃ z, u.natAbs = z := ⟨_, rfl⟩
  obtain ⟨sv, hsv⟩ : ∃ z, decide ((v : Int) < 0) = z := ⟨_, rfl⟩
  obtain ⟨mv, hmv⟩ : ∃ z, (v : Int).natAbs = z := ⟨_, rfl⟩
  unfold RetI at hM hNI
  unfold RetRB ratV at hRN
  unfold ratV
  rw [hsp, hmp, hsq, hmq, hsu, hmu] at hM
  rw [hsp, hmp, hdp] at hDp
  rw [hsq, hmq, hdq] at hDq
  rw [hsv, hmv] at hNI
  rw [hsu, hmu, hsv, hmv] at hRN
  rw [hsp, hmp, hdp, hsq, hmq, hdq]
  rw [hmp] at ha
  rw [hdp] at hb
  rw [hmq] at he
  rw [hdq] at hf
  have HM := Lib.hid hM
  have HDp := Lib.hid hDp
  have HDq := Lib.hid hDq
  have HPM := Lib.hid hPM
  have HNI := Lib.hid hNI
  have HRN := Lib.hid hRN
  clear hM hDp hDq hPM hNI hRN hr hu hv hsu hmu hsv hmv hsp hmp hsq hmq hdp hdq h1 h3 h4 h5 hK hKL hD hKs
  obtain ⟨W0, hW0⟩ : ∃ W0, W0 = (((w.alloc (.cells #[.bool sp, .slice a (lenW mp) c, .slice b (lenW dp) d] 40)).alloc (.cells #[.bool sq, .slice e (lenW mq) i, .slice f (lenW dq) g] 40)).alloc (.cells #[.bool false, .slice none 0 0, .slice none 0 0] 40)) := ⟨_, rfl⟩
  have hbs : BS w [⟨w.heap.size, 40, [.bool sp, .slice a (lenW mp) c, .slice b (lenW dp) d]⟩, ⟨w.heap.size + 1, 40, [.bool sq, .slice e (lenW mq) i, .slice f (lenW dq) g]⟩, ⟨w.heap.size + 1 + 1, 40, [.bool false, .slice none 0 0, .slice none 0 0]⟩] [⟨a, c, mp⟩, ⟨b, d, dp⟩, ⟨e, i, mq⟩, ⟨f, g, dq⟩] (((w.alloc (.cells #[.bool sp, .slice a (lenW mp) c, .slice b (lenW dp) d] 40)).alloc (.cells #[.bool sq, .slice e (lenW mq) i, .slice f (lenW dq) g] 40)).alloc (.cells #[.bool false, .slice none 0 0, .slice none 0 0] 40)) :=
      ((((BS.begin [⟨a, c, mp⟩, ⟨b, d, dp⟩, ⟨e, i, mq⟩, ⟨f, g, dq⟩] (fun y hy => by
        rcases List.mem_cons.1 hy with rfl | hy
        · exact ha
        rcases List.mem_cons.1 hy with rfl | hy
        · exact hb
        rcases List.mem_cons.1 hy with rfl | hy
        · exact he
        rw [List.mem_singleton.1 hy]; exact hf)).alloc (p := w.heap.size) rfl 40 [.bool sp, .slice a (lenW mp) c, .slice b (lenW dp) d] rfl).alloc (p := w.heap.size + 1) (by simp) 40 [.bool sq, .slice e (lenW mq) i, .slice f (lenW dq) g] rfl).alloc (p := w.heap.size + 1 + 1) (by simp) 40 [.bool false, .slice none 0 0, .slice none 0 0] rfl)
  rw [← hW0] at hbs
  have HW0 := Lib.hid hW0
  have HN := Lib.hid hbs
  clear hW0 hbs
  clear ha hb he hf
  go_enter Try.func44, Try.ntmps44
  go_upto_region 1 with fail
  rw [← HW0.out]
  go_cut [5] (fun v5 wx => ∃ p5 a8 c8 b9 d9, v5 = .pointer (some ⟨p5, 0, none⟩) ∧ BS w [⟨w.heap.size, 40, [.bool sp, .slice a (lenW mp) c, .slice b (lenW dp) d]⟩, ⟨w.heap.size + 1, 40, [.bool sq, .slice e (lenW mq) i, .slice f (lenW dq) g]⟩, ⟨w.heap.size + 1 + 1, 40, [.bool false, .slice none 0 0, .slice none 0 0]⟩, ⟨p5, 40, [.bool (decide (r.num < 0)), .slice a8 (lenW r.num.natAbs) c8, .slice b9 (lenW (denN r.den)) d9]⟩] [⟨a8, c8, r.num.natAbs⟩, ⟨b9, d9, denN r.den⟩] wx)
  case first =>
    replace HN := Lib.hid HN.out.drew
    refine wp_region_held_drew (S := fun W => W.cell? ⟨w.heap.size, 0, none⟩ = some (.bool sp) ∧ W.cell? ⟨w.heap.size, 1, none⟩ = some (.slice a (lenW mp) c) ∧ W.cell? ⟨w.heap.size, 2, none⟩ = some (.slice b (lenW dp) d) ∧ W.cell? ⟨w.heap.size + 1, 0, none⟩ = some (.bool sq) ∧ W.cell? ⟨w.heap.size + 1, 1, none⟩ = some (.slice e (lenW mq) i) ∧ W.cell? ⟨w.heap.size + 1, 2, none⟩ = some (.slice f (lenW dq) g)) (by kernel_rfl) (⟨HN.out.cell 0 0 rfl rfl, HN.out.cell 0 1 rfl rfl, HN.out.cell 0 2 rfl rfl, HN.out.cell 1 0 rfl rfl, HN.out.cell 1 1 rfl rfl, HN.out.cell 1 2 rfl rfl⟩) (fun hHeld => ?_)
    generalize W0.drew = wd at HN hHeld ⊢
    refine tk 0 (some 8) (v := ?_) rfl rfl ?_ ?_
    rotate_left
    · (intro w _; go_simp; (try with_reducible rfl))
    simp only [Act.put, stB, stZ, stS]
    refine tk 1 (some 9) (v := ?_) rfl rfl ?_ ?_
    rotate_left
    · (intro w hSw; (try dsimp only at hSw); go_simp; (try with_reducible rfl))
    simp only [Act.put, stB, stZ, stS]
    refine tk 2 (some 10) (v := ?_) rfl rfl ?_ ?_
    rotate_left
    · (intro w _; go_simp; (try with_reducible rfl))
    simp only [Act.put, stB, stZ, stS]
    refine tk 3 (some 11) (v := ?_) rfl rfl ?_ ?_
    rotate_left
    · (intro w hSw; (try dsimp only at hSw); go_simp; (try with_reducible rfl))
    simp only [Act.put, stB, stZ, stS]
    refine tk 5 (some 13) (v := ?_) rfl rfl ?_ ?_
    rotate_left
    · (intro w hSw; (try dsimp only at hSw); go_simp; (try with_reducible rfl))
    simp only [Act.put, stB, stZ, stS]
    refine tk 7 (some 15) (v := ?_) rfl rfl ?_ ?_
    rotate_left
    · (intro w hSw; (try dsimp only at hSw); go_simp; (try with_reducible rfl))
    simp only [Act.put, stB, stZ, stS]
    refine wpAnyH_ready (rs := [4, 15]) (by kernel_rfl) (by simp) ?_
    refine (AllReadyH.cons (o := { dst := some 12, op := Op.call { callee := Callee.value (Operand.func 46), args := #[Operand.tmp 9, Operand.tmp 11], argTypes := #[38, 38] }, type := 38, pos := "rat.go:85", after := #[{ on := 1, ground := Ground.data }, { on := 3, ground := Ground.data }], guard := none }) rfl (fun K hK => ?_) (AllReadyH.cons (o := { dst := some 5, op := Op.alloc 40, type := 0, pos := "rat.go:85", after := #[], guard := none }) rfl (fun K hK => ?_) AllReadyH.nil))
    · skip
      go_simp
      refine (HM.out _ (HN.out.nat 0 rfl) (HN.out.nat 2 rfl)).mono ?_
      rintro e w1 ⟨a2, c2, rfl, hq0, hb⟩
      replace HN := Lib.hid ((HN.out.call hb).got hq0)
      clear hb hq0
      go_wp2_with fail
      refine hK.out _ _ (⟨HN.out.cell 0 0 rfl rfl, HN.out.cell 0 1 rfl rfl, HN.out.cell 0 2 rfl rfl, HN.out.cell 1 0 rfl rfl, HN.out.cell 1 1 rfl rfl, HN.out.cell 1 2 rfl rfl⟩) (fun hHeld2 => ?_)
      clear hK K hHeld
      rename _ => hHeld
      try simp only [Act.put, stB, stZ, stS]
      refine wpAnyH_ready (rs := [6, 15]) (by kernel_rfl) (by simp) ?_
      refine (AllReadyH.cons (o := { dst := some 14, op := Op.call { callee := Callee.value (Operand.func 52), args := #[Operand.tmp 13], argTypes := #[40] }, type := 36, pos := "rat.go:85", after := #[{ on := 5, ground := Ground.data }, { on := 4, ground := Ground.chain }], guard := none }) rfl (fun K hK => ?_) (AllReadyH.cons (o := { dst := some 5, op := Op.alloc 40, type := 0, pos := "rat.go:85", after := #[], guard := none }) rfl (fun K hK => ?_) AllReadyH.nil))
      · skip
        go_simp
        refine (HDp.out _ (HN.out.nat 1 rfl)).mono ?_
        rintro e w2 ⟨a3, c3, rfl, hq0, hb⟩
        replace HN := Lib.hid ((HN.out.call hb).got hq0)
        clear hb hq0
        go_wp2_with fail
        refine hK.out _ _ (⟨HN.out.cell 0 0 rfl rfl, HN.out.cell 0 1 rfl rfl, HN.out.cell 0 2 rfl rfl, HN.out.cell 1 0 rfl rfl, HN.out.cell 1 1 rfl rfl, HN.out.cell 1 2 rfl rfl⟩) (fun hHeld2 => ?_)
        clear hK K hHeld
        rename _ => hHeld
        try simp only [Act.put, stB, stZ, stS]
        refine wpAnyH_ready (rs := [8, 15]) (by kernel_rfl) (by simp) ?_
        refine (AllReadyH.cons (o := { dst := some 16, op := Op.call { callee := Callee.value (Operand.func 52), args := #[Operand.tmp 15], argTypes := #[40] }, type := 36, pos := "rat.go:85", after := #[{ on := 7, ground := Ground.data }, { on := 6, ground := Ground.chain }], guard := none }) rfl (fun K hK => ?_) (AllReadyH.cons (o := { dst := some 5, op := Op.alloc 40, type := 0, pos := "rat.go:85", after := #[], guard := none }) rfl (fun K hK => ?_) AllReadyH.nil))
        · skip
          go_simp
          refine (HDq.out _ (HN.out.nat 3 rfl)).mono ?_
          rintro e w3 ⟨a4, c4, rfl, hq0, hb⟩
          replace HN := Lib.hid ((HN.out.call hb).got hq0)
          clear hb hq0
          go_wp2_with fail
          refine hK.out _ _ (⟨HN.out.cell 0 0 rfl rfl, HN.out.cell 0 1 rfl rfl, HN.out.cell 0 2 rfl rfl, HN.out.cell 1 0 rfl rfl, HN.out.cell 1 1 rfl rfl, HN.out.cell 1 2 rfl rfl⟩) (fun hHeld2 => ?_)
          clear hK K hHeld
          rename _ => hHeld
          try simp only [Act.put, stB, stZ, stS]
          refine wpAnyH_ready (rs := [9, 15]) (by kernel_rfl) (by simp) ?_
          refine (AllReadyH.cons (o := { dst := some 17, op := Op.call { callee := Callee.value (Operand.func 51), args := #[Operand.tmp 14, Operand.tmp 16], argTypes := #[36, 36] }, type := 36, pos := "rat.go:85", after := #[{ on := 6, ground := Ground.data }, { on := 8, ground := Ground.data }, { on := 8, ground := Ground.chain }], guard := none }) rfl (fun K hK => ?_) (AllReadyH.cons (o := { dst := some 5, op := Op.alloc 40, type := 0, pos := "rat.go:85", after := #[], guard := none }) rfl (fun K hK => ?_) AllReadyH.nil))
          · skip
            go_simp
            refine (HPM.out _ _ _ _ _ (HN.out.nat 5 rfl) (HN.out.nat 6 rfl)).mono ?_
            rintro e w4 ⟨a5, c5, rfl, hq0, hb⟩
            replace HN := Lib.hid ((HN.out.call hb).got hq0)
            clear hb hq0
            go_wp2_with fail
            refine hK.out _ _ (⟨HN.out.cell 0 0 rfl rfl, HN.out.cell 0 1 rfl rfl, HN.out.cell 0 2 rfl rfl, HN.out.cell 1 0 rfl rfl, HN.out.cell 1 1 rfl rfl, HN.out.cell 1 2 rfl rfl⟩) (fun hHeld2 => ?_)
            clear hK K hHeld
            rename _ => hHeld
            try simp only [Act.put, stB, stZ, stS]
            refine wpAnyH_ready (rs := [10, 15]) (by kernel_rfl) (by simp) ?_
            refine (AllReadyH.cons (o := { dst := some 18, op := Op.call { callee := Callee.value (Operand.func 50), args := #[Operand.const (Value.bool false), Operand.tmp 17], argTypes := #[4, 36] }, type := 38, pos := "rat.go:85", after := #[{ on := 9, ground := Ground.data }, { on := 9, ground := Ground.chain }], guard := none }) rfl (fun K hK => ?_) (AllReadyH.cons (o := { dst := some 5, op := Op.alloc 40, type := 0, pos := "rat.go:85", after := #[], guard := none }) rfl (fun K hK => ?_) AllReadyH.nil))
            · skip
              go_simp
              refine (HNI.out _ _ _ (HN.out.nat 7 rfl)).mono ?_
              rintro e w5 ⟨a7, c7, rfl, hq0, hb⟩
              replace HN := Lib.hid ((HN.out.call hb).got hq0)
              clear hb hq0
              go_wp2_with fail
              refine hK.out _ _ (⟨HN.out.cell 0 0 rfl rfl, HN.out.cell 0 1 rfl rfl, HN.out.cell 0 2 rfl rfl, HN.out.cell 1 0 rfl rfl, HN.out.cell 1 1 rfl rfl, HN.out.cell 1 2 rfl rfl⟩) (fun hHeld2 => ?_)
              clear hK K hHeld
              rename _ => hHeld
              try simp only [Act.put, stB, stZ, stS]
              refine wpAnyH_ready (rs := [11, 15]) (by kernel_rfl) (by simp) ?_
              refine (AllReadyH.cons (o := { dst := some 19, op := Op.call { callee := Callee.value (Operand.func 49), args := #[Operand.tmp 12, Operand.tmp 18], argTypes := #[38, 38] }, type := 41, pos := "rat.go:85", after := #[{ on := 4, ground := Ground.data }, { on := 10, ground := Ground.data }, { on := 10, ground := Ground.chain }], guard := none }) rfl (fun K hK => ?_) (AllReadyH.cons (o := { dst := some 5, op := Op.alloc 40, type := 0, pos := "rat.go:85", after := #[], guard := none }) rfl (fun K hK => ?_) AllReadyH.nil))
              · skip
                go_simp
                refine (HRN.out _ _ _ _ _ (HN.out.nat 4 rfl) (HN.out.nat 8 rfl)).mono ?_
                rintro e w6 ⟨a8, c8, b9, d9, rfl, hq0, hq1, hb⟩
                replace HN := Lib.hid (((HN.out.call hb).got hq0).got hq1)
                clear hb hq0 hq1
                go_wp2_with fail
                refine hK.out _ _ (⟨HN.out.cell 0 0 rfl rfl, HN.out.cell 0 1 rfl rfl, HN.out.cell 0 2 rfl rfl, HN.out.cell 1 0 rfl rfl, HN.out.cell 1 1 rfl rfl, HN.out.cell 1 2 rfl rfl⟩) (fun hHeld2 => ?_)
                clear hK K hHeld
                rename _ => hHeld
                try simp only [Act.put, stB, stZ, stS]
                refine tk 12 (some 7) (v := ?_) rfl rfl ?_ ?_
                rotate_left
                · (intro w _; go_simp; (try with_reducible rfl))
                simp only [Act.put, stB, stZ, stS]
                refine tk 13 (some 20) (v := ?_) rfl rfl ?_ ?_
                rotate_left
                · (intro w _; go_simp; (try with_reducible rfl))
                simp only [Act.put, stB, stZ, stS]
                refine tk 14 (some 21) (v := ?_) rfl rfl ?_ ?_
                rotate_left
                · (intro w _; go_simp; (try with_reducible rfl))
                simp only [Act.put, stB, stZ, stS]
                refine wpAnyH_ready (rs := [15]) (by kernel_rfl) (by simp) ?_
                refine (AllReadyH.cons (o := { dst := some 5, op := Op.alloc 40, type := 0, pos := "rat.go:85", after := #[], guard := none }) rfl (fun K hK => ?_) AllReadyH.nil)
                go_simp
                replace HN := Lib.hid (HN.out.alloc (p := w6.heap.size) rfl 40 [.bool false, .slice none 0 0, .slice none 0 0] rfl)
                generalize w6.alloc (.cells #[.bool false, .slice none 0 0, .slice none 0 0] 40) = wa7 at HN ⊢
                refine hK.out _ _ (⟨HN.out.cell 0 0 rfl rfl, HN.out.cell 0 1 rfl rfl, HN.out.cell 0 2 rfl rfl, HN.out.cell 1 0 rfl rfl, HN.out.cell 1 1 rfl rfl, HN.out.cell 1 2 rfl rfl⟩) (fun hHeld2 => ?_)
                clear hK K hHeld
                rename _ => hHeld
                try simp only [Act.put, stB, stZ, stS]
                refine wpAnyH_ready (rs := [16]) (by kernel_rfl) (by simp) ?_
                refine (AllReadyH.cons (o := { dst := none, op := Op.store 40 (Operand.tmp 5) (Operand.tmp 20), type := 0, pos := "rat.go:85", after := #[{ on := 15, ground := Ground.data }, { on := 13, ground := Ground.data }, { on := 11, ground := Ground.chain }, { on := 0, ground := Ground.phase }, { on := 1, ground := Ground.phase }, { on := 2, ground := Ground.phase }, { on := 3, ground := Ground.phase }, { on := 4, ground := Ground.phase }, { on := 5, ground := Ground.phase }, { on := 6, ground := Ground.phase }, { on := 7, ground := Ground.phase }, { on := 8, ground := Ground.phase }, { on := 9, ground := Ground.phase }, { on := 10, ground := Ground.phase }, { on := 11, ground := Ground.phase }, { on := 12, ground := Ground.phase }, { on := 13, ground := Ground.phase }, { on := 14, ground := Ground.textOnly Departure.lateStores }, { on := 15, ground := Ground.phase }], guard := none }) rfl (fun K hK => ?_) AllReadyH.nil)
                have hc0 := HN.out.cell 3 0 rfl rfl
                have hf0 := HN.out.free 3 0 rfl
                have hc1 := HN.out.cell 3 1 rfl rfl
                have hf1 := HN.out.free 3 1 rfl
                have hc2 := HN.out.cell 3 2 rfl rfl
                have hf2 := HN.out.free 3 2 rfl
                go_simp
                clear hc0 hf0 hc1 hf1 hc2 hf2
                replace HN := Lib.hid ((((HN.out).set 3 0 rfl rfl (fun _ => by simp) (.bool (decide (r.num < 0)))).set 3 1 rfl rfl (fun _ => by simp) (.slice a8 (lenW r.num.natAbs) c8)).set 3 2 rfl rfl (fun _ => by simp) (.slice b9 (lenW (denN r.den)) d9))
                generalize (((wa7.setCell ⟨w6.heap.size, 0, none⟩ (.bool (decide (r.num < 0)))).setCell ⟨w6.heap.size, 1, none⟩ (.slice a8 (lenW r.num.natAbs) c8)).setCell ⟨w6.heap.size, 2, none⟩ (.slice b9 (lenW (denN r.den)) d9)) = wa8 at HN ⊢
                refine hK.out _ _ (⟨HN.out.cell 0 0 rfl rfl, HN.out.cell 0 1 rfl rfl, HN.out.cell 0 2 rfl rfl, HN.out.cell 1 0 rfl rfl, HN.out.cell 1 1 rfl rfl, HN.out.cell 1 2 rfl rfl⟩) (fun hHeld2 => ?_)
                clear hK K hHeld
                rename _ => hHeld
                try simp only [Act.put, stB, stZ, stS]
                refine tk 17 (some 6) (v := ?_) rfl rfl ?_ ?_
                rotate_left
                · (intro w _; go_simp; (try with_reducible rfl))
                simp only [Act.put, stB, stZ, stS]
                refine wpAnyH_done (by kernel_rfl) ?_ _
                go_wp2_with fail
                go_meet
                exact ⟨_, _, _, _, _, rfl, HN.out.only (List.Sublist.refl _) (fun z hz => by
                  simp only [List.mem_cons, List.not_mem_nil, or_false] at hz
                  rcases hz with rfl | rfl <;> simp)⟩
              · skip
                go_simp
                replace HN := Lib.hid (HN.out.alloc (p := w5.heap.size) rfl 40 [.bool false, .slice none 0 0, .slice none 0 0] rfl)
                generalize w5.alloc (.cells #[.bool false, .slice none 0 0, .slice none 0 0] 40) = wa6 at HN ⊢
                refine hK.out _ _ (⟨HN.out.cell 0 0 rfl rfl, HN.out.cell 0 1 rfl rfl, HN.out.cell 0 2 rfl rfl, HN.out.cell 1 0 rfl rfl, HN.out.cell 1 1 rfl rfl, HN.out.cell 1 2 rfl rfl⟩) (fun hHeld2 => ?_)
                clear hK K hHeld
                rename _ => hHeld
                try simp only [Act.put, stB, stZ, stS]
                refine wpAnyH_ready (rs := [11]) (by kernel_rfl) (by simp) ?_
                refine (AllReadyH.cons (o := { dst := some 19, op := Op.call { callee := Callee.value (Operand.func 49), args := #[Operand.tmp 12, Operand.tmp 18], argTypes := #[38, 38] }, type := 41, pos := "rat.go:85", after := #[{ on := 4, ground := Ground.data }, { on := 10, ground := Ground.data }, { on := 10, ground := Ground.chain }], guard := none }) rfl (fun K hK => ?_) AllReadyH.nil)
                go_simp
                refine (HRN.out _ _ _ _ _ (HN.out.nat 4 rfl) (HN.out.nat 8 rfl)).mono ?_
                rintro e w7 ⟨a8, c8, b9, d9, rfl, hq0, hq1, hb⟩
                replace HN := Lib.hid (((HN.out.call hb).got hq0).got hq1)
                clear hb hq0 hq1
                go_wp2_with fail
                refine hK.out _ _ (⟨HN.out.cell 0 0 rfl rfl, HN.out.cell 0 1 rfl rfl, HN.out.cell 0 2 rfl rfl, HN.out.cell 1 0 rfl rfl, HN.out.cell 1 1 rfl rfl, HN.out.cell 1 2 rfl rfl⟩) (fun hHeld2 => ?_)
                clear hK K hHeld
                rename _ => hHeld
                try simp only [Act.put, stB, stZ, stS]
                refine tk 12 (some 7) (v := ?_) rfl rfl ?_ ?_
                rotate_left
                · (intro w _; go_simp; (try with_reducible rfl))
                simp only [Act.put, stB, stZ, stS]
                refine tk 13 (some 20) (v := ?_) rfl rfl ?_ ?_
                rotate_left
                · (intro w _; go_simp; (try with_reducible rfl))
                simp only [Act.put, stB, stZ, stS]
                refine tk 14 (some 21) (v := ?_) rfl rfl ?_ ?_
                rotate_left
                · (intro w _; go_simp; (try with_reducible rfl))
                simp only [Act.put, stB, stZ, stS]
                refine wpAnyH_ready (rs := [16]) (by kernel_rfl) (by simp) ?_
                refine (AllReadyH.cons (o := { dst := none, op := Op.store 40 (Operand.tmp 5) (Operand.tmp 20), type := 0, pos := "rat.go:85", after := #[{ on := 15, ground := Ground.data }, { on := 13, ground := Ground.data }, { on := 11, ground := Ground.chain }, { on := 0, ground := Ground.phase }, { on := 1, ground := Ground.phase }, { on := 2, ground := Ground.phase }, { on := 3, ground := Ground.phase }, { on := 4, ground := Ground.phase }, { on := 5, ground := Ground.phase }, { on := 6, ground := Ground.phase }, { on := 7, ground := Ground.phase }, { on := 8, ground := Ground.phase }, { on := 9, ground := Ground.phase }, { on := 10, ground := Ground.phase }, { on := 11, ground := Ground.phase }, { on := 12, ground := Ground.phase }, { on := 13, ground := Ground.phase }, { on := 14, ground := Ground.textOnly Departure.lateStores }, { on := 15, ground := Ground.phase }], guard := none }) rfl (fun K hK => ?_) AllReadyH.nil)
                have hc0 := HN.out.cell 3 0 rfl rfl
                have hf0 := HN.out.free 3 0 rfl
                have hc1 := HN.out.cell 3 1 rfl rfl
                have hf1 := HN.out.free 3 1 rfl
                have hc2 := HN.out.cell 3 2 rfl rfl
                have hf2 := HN.out.free 3 2 rfl
                go_simp
                clear hc0 hf0 hc1 hf1 hc2 hf2
                replace HN := Lib.hid ((((HN.out).set 3 0 rfl rfl (fun _ => by simp) (.bool (decide (r.num < 0)))).set 3 1 rfl rfl (fun _ => by simp) (.slice a8 (lenW r.num.natAbs) c8)).set 3 2 rfl rfl (fun _ => by simp) (.slice b9 (lenW (denN r.den)) d9))
                generalize (((w7.setCell ⟨w5.heap.size, 0, none⟩ (.bool (decide (r.num < 0)))).setCell ⟨w5.heap.size, 1, none⟩ (.slice a8 (lenW r.num.natAbs) c8)).setCell ⟨w5.heap.size, 2, none⟩ (.slice b9 (lenW (denN r.den)) d9)) = wa8 at HN ⊢
                refine hK.out _ _ (⟨HN.out.cell 0 0 rfl rfl, HN.out.cell 0 1 rfl rfl, HN.out.cell 0 2 rfl rfl, HN.out.cell 1 0 rfl rfl, HN.out.cell 1 1 rfl rfl, HN.out.cell 1 2 rfl rfl⟩) (fun hHeld2 => ?_)
                clear hK K hHeld
                rename _ => hHeld
                try simp only [Act.put, stB, stZ, stS]
                refine tk 17 (some 6) (v := ?_) rfl rfl ?_ ?_
                rotate_left
                · (intro w _; go_simp; (try with_reducible rfl))
                simp only [Act.put, stB, stZ, stS]
                refine wpAnyH_done (by kernel_rfl) ?_ _
                go_wp2_with fail
                go_meet
                exact ⟨_, _, _, _, _, rfl, HN.out.only (List.Sublist.refl _) (fun z hz => by
                  simp only [List.mem_cons, List.not_mem_nil, or_false] at hz
                  rcases hz with rfl | rfl <;> simp)⟩
            · skip
              go_simp
              replace HN := Lib.hid (HN.out.alloc (p := w4.heap.size) rfl 40 [.bool false, .slice none 0 0, .slice none 0 0] rfl)
              generalize w4.alloc (.cells #[.bool false, .slice none 0 0, .slice none 0 0] 40) = wa5 at HN ⊢
              refine hK.out _ _ (⟨HN.out.cell 0 0 rfl rfl, HN.out.cell 0 1 rfl rfl, HN.out.cell 0 2 rfl rfl, HN.out.cell 1 0 rfl rfl, HN.out.cell 1 1 rfl rfl, HN.out.cell 1 2 rfl rfl⟩) (fun hHeld2 => ?_)
              clear hK K hHeld
              rename _ => hHeld
              try simp only [Act.put, stB, stZ, stS]
              refine wpAnyH_ready (rs := [10]) (by kernel_rfl) (by simp) ?_
              refine (AllReadyH.cons (o := { dst := some 18, op := Op.call { callee := Callee.value (Operand.func 50), args := #[Operand.const (Value.bool false), Operand.tmp 17], argTypes := #[4, 36] }, type := 38, pos := "rat.go:85", after := #[{ on := 9, ground := Ground.data }, { on := 9, ground := Ground.chain }], guard := none }) rfl (fun K hK => ?_) AllReadyH.nil)
              go_simp
              refine (HNI.out _ _ _ (HN.out.nat 7 rfl)).mono ?_
              rintro e w6 ⟨a7, c7, rfl, hq0, hb⟩
              replace HN := Lib.hid ((HN.out.call hb).got hq0)
              clear hb hq0
              go_wp2_with fail
              refine hK.out _ _ (⟨HN.out.cell 0 0 rfl rfl, HN.out.cell 0 1 rfl rfl, HN.out.cell 0 2 rfl rfl, HN.out.cell 1 0 rfl rfl, HN.out.cell 1 1 rfl rfl, HN.out.cell 1 2 rfl rfl⟩) (fun hHeld2 => ?_)
              clear hK K hHeld
              rename _ => hHeld
              try simp only [Act.put, stB, stZ, stS]
              refine wpAnyH_ready (rs := [11]) (by kernel_rfl) (by simp) ?_
              refine (AllReadyH.cons (o := { dst := some 19, op := Op.call { callee := Callee.value (Operand.func 49), args := #[Operand.tmp 12, Operand.tmp 18], argTypes := #[38, 38] }, type := 41, pos := "rat.go:85", after := #[{ on := 4, ground := Ground.data }, { on := 10, ground := Ground.data }, { on := 10, ground := Ground.chain }], guard := none }) rfl (fun K hK => ?_) AllReadyH.nil)
              go_simp
              refine (HRN.out _ _ _ _ _ (HN.out.nat 4 rfl) (HN.out.nat 8 rfl)).mono ?_
              rintro e w7 ⟨a8, c8, b9, d9, rfl, hq0, hq1, hb⟩
              replace HN := Lib.hid (((HN.out.call hb).got hq0).got hq1)
              clear hb hq0 hq1
              go_wp2_with fail
              refine hK.out _ _ (⟨HN.out.cell 0 0 rfl rfl, HN.out.cell 0 1 rfl rfl, HN.out.cell 0 2 rfl rfl, HN.out.cell 1 0 rfl rfl, HN.out.cell 1 1 rfl rfl, HN.out.cell 1 2 rfl rfl⟩) (fun hHeld2 => ?_)
              clear hK K hHeld
              rename _ => hHeld
              try simp only [Act.put, stB, stZ, stS]
              refine tk 12 (some 7) (v := ?_) rfl rfl ?_ ?_
              rotate_left
              · (intro w _; go_simp; (try with_reducible rfl))
              simp only [Act.put, stB, stZ, stS]
              refine tk 13 (some 20) (v := ?_) rfl rfl ?_ ?_
              rotate_left
              · (intro w _; go_simp; (try with_reducible rfl))
              simp only [Act.put, stB, stZ, stS]
              refine tk 14 (some 21) (v := ?_) rfl rfl ?_ ?_
              rotate_left
              · (intro w _; go_simp; (try with_reducible rfl))
              simp only [Act.put, stB, stZ, stS]
              refine wpAnyH_ready (rs := [16]) (by kernel_rfl) (by simp) ?_
              refine (AllReadyH.cons (o := { dst := none, op := Op.store 40 (Operand.tmp 5) (Operand.tmp 20), type := 0, pos := "rat.go:85", after := #[{ on := 15, ground := Ground.data }, { on := 13, ground := Ground.data }, { on := 11, ground := Ground.chain }, { on := 0, ground := Ground.phase }, { on := 1, ground := Ground.phase }, { on := 2, ground := Ground.phase }, { on := 3, ground := Ground.phase }, { on := 4, ground := Ground.phase }, { on := 5, ground := Ground.phase }, { on := 6, ground := Ground.phase }, { on := 7, ground := Ground.phase }, { on := 8, ground := Ground.phase }, { on := 9, ground := Ground.phase }, { on := 10, ground := Ground.phase }, { on := 11, ground := Ground.phase }, { on := 12, ground := Ground.phase }, { on := 13, ground := Ground.phase }, { on := 14, ground := Ground.textOnly Departure.lateStores }, { on := 15, ground := Ground.phase }], guard := none }) rfl (fun K hK => ?_) AllReadyH.nil)
              have hc0 := HN.out.cell 3 0 rfl rfl
              have hf0 := HN.out.free 3 0 rfl
              have hc1 := HN.out.cell 3 1 rfl rfl
              have hf1 := HN.out.free 3 1 rfl
              have hc2 := HN.out.cell 3 2 rfl rfl
              have hf2 := HN.out.free 3 2 rfl
              go_simp
              clear hc0 hf0 hc1 hf1 hc2 hf2
              replace HN := Lib.hid ((((HN.out).set 3 0 rfl rfl (fun _ => by simp) (.bool (decide (r.num < 0)))).set 3 1 rfl rfl (fun _ => by simp) (.slice a8 (lenW r.num.natAbs) c8)).set 3 2 rfl rfl (fun _ => by simp) (.slice b9 (lenW (denN r.den)) d9))
              generalize (((w7.setCell ⟨w4.heap.size, 0, none⟩ (.bool (decide (r.num < 0)))).setCell ⟨w4.heap.size, 1, none⟩ (.slice a8 (lenW r.num.natAbs) c8)).setCell ⟨w4.heap.size, 2, none⟩ (.slice b9 (lenW (denN r.den)) d9)) = wa8 at HN ⊢
              refine hK.out _ _ (⟨HN.out.cell 0 0 rfl rfl, HN.out.cell 0 1 rfl rfl, HN.out.cell 0 2 rfl rfl, HN.out.cell 1 0 rfl rfl, HN.out.cell 1 1 rfl rfl, HN.out.cell 1 2 rfl rfl⟩) (fun hHeld2 => ?_)
              clear hK K hHeld
              rename _ => hHeld
              try simp only [Act.put, stB, stZ, stS]
              refine tk 17 (some 6) (v := ?_) rfl rfl ?_ ?_
              rotate_left
              · (intro w _; go_simp; (try with_reducible rfl))
              simp only [Act.put, stB, stZ, stS]
              refine wpAnyH_done (by kernel_rfl) ?_ _
              go_wp2_with fail
              go_meet
              exact ⟨_, _, _, _, _, rfl, HN.out.only (List.Sublist.refl _) (fun z hz => by
                simp only [List.mem_cons, List.not_mem_nil, or_false] at hz
                rcases hz with rfl | rfl <;> simp)⟩
          · skip
            go_simp
            replace HN := Lib.hid (HN.out.alloc (p := w3.heap.size) rfl 40 [.bool false, .slice none 0 0, .slice none 0 0] rfl)
            generalize w3.alloc (.cells #[.bool false, .slice none 0 0, .slice none 0 0] 40) = wa4 at HN ⊢
            refine hK.out _ _ (⟨HN.out.cell 0 0 rfl rfl, HN.out.cell 0 1 rfl rfl, HN.out.cell 0 2 rfl rfl, HN.out.cell 1 0 rfl rfl, HN.out.cell 1 1 rfl rfl, HN.out.cell 1 2 rfl rfl⟩) (fun hHeld2 => ?_)
            clear hK K hHeld
            rename _ => hHeld
            try simp only [Act.put, stB, stZ, stS]
            refine wpAnyH_ready (rs := [9]) (by kernel_rfl) (by simp) ?_
            refine (AllReadyH.cons (o := { dst := some 17, op := Op.call { callee := Callee.value (Operand.func 51), args := #[Operand.tmp 14, Operand.tmp 16], argTypes := #[36, 36] }, type := 36, pos := "rat.go:85", after := #[{ on := 6, ground := Ground.data }, { on := 8, ground := Ground.data }, { on := 8, ground := Ground.chain }], guard := none }) rfl (fun K hK => ?_) AllReadyH.nil)
            go_simp
            refine (HPM.out _ _ _ _ _ (HN.out.nat 5 rfl) (HN.out.nat 6 rfl)).mono ?_
            rintro e w5 ⟨a5, c5, rfl, hq0, hb⟩
            replace HN := Lib.hid ((HN.out.call hb).got hq0)
            clear hb hq0
            go_wp2_with fail
            refine hK.out _ _ (⟨HN.out.cell 0 0 rfl rfl, HN.out.cell 0 1 rfl rfl, HN.out.cell 0 2 rfl rfl, HN.out.cell 1 0 rfl rfl, HN.out.cell 1 1 rfl rfl, HN.out.cell 1 2 rfl rfl⟩) (fun hHeld2 => ?_)
            clear hK K hHeld
            rename _ => hHeld
            try simp only [Act.put, stB, stZ, stS]
            refine wpAnyH_ready (rs := [10]) (by kernel_rfl) (by simp) ?_
            refine (AllReadyH.cons (o := { dst := some 18, op := Op.call { callee := Callee.value (Operand.func 50), args := #[Operand.const (Value.bool false), Operand.tmp 17], argTypes := #[4, 36] }, type := 38, pos := "rat.go:85", after := #[{ on := 9, ground := Ground.data }, { on := 9, ground := Ground.chain }], guard := none }) rfl (fun K hK => ?_) AllReadyH.nil)
            go_simp
            refine (HNI.out _ _ _ (HN.out.nat 7 rfl)).mono ?_
            rintro e w6 ⟨a7, c7, rfl, hq0, hb⟩
            replace HN := Lib.hid ((HN.out.call hb).got hq0)
            clear hb hq0
            go_wp2_with fail
            refine hK.out _ _ (⟨HN.out.cell 0 0 rfl rfl, HN.out.cell 0 1 rfl rfl, HN.out.cell 0 2 rfl rfl, HN.out.cell 1 0 rfl rfl, HN.out.cell 1 1 rfl rfl, HN.out.cell 1 2 rfl rfl⟩) (fun hHeld2 => ?_)
            clear hK K hHeld
            rename _ => hHeld
            try simp only [Act.put, stB, stZ, stS]
            refine wpAnyH_ready (rs := [11]) (by kernel_rfl) (by simp) ?_
            refine (AllReadyH.cons (o := { dst := some 19, op := Op.call { callee := Callee.value (Operand.func 49), args := #[Operand.tmp 12, Operand.tmp 18], argTypes := #[38, 38] }, type := 41, pos := "rat.go:85", after := #[{ on := 4, ground := Ground.data }, { on := 10, ground := Ground.data }, { on := 10, ground := Ground.chain }], guard := none }) rfl (fun K hK => ?_) AllReadyH.nil)
            go_simp
            refine (HRN.out _ _ _ _ _ (HN.out.nat 4 rfl) (HN.out.nat 8 rfl)).mono ?_
            rintro e w7 ⟨a8, c8, b9, d9, rfl, hq0, hq1, hb⟩
            replace HN := Lib.hid (((HN.out.call hb).got hq0).got hq1)
            clear hb hq0 hq1
            go_wp2_with fail
            refine hK.out _ _ (⟨HN.out.cell 0 0 rfl rfl, HN.out.cell 0 1 rfl rfl, HN.out.cell 0 2 rfl rfl, HN.out.cell 1 0 rfl rfl, HN.out.cell 1 1 rfl rfl, HN.out.cell 1 2 rfl rfl⟩) (fun hHeld2 => ?_)
            clear hK K hHeld
            rename _ => hHeld
            try simp only [Act.put, stB, stZ, stS]
            refine tk 12 (some 7) (v := ?_) rfl rfl ?_ ?_
            rotate_left
            · (intro w _; go_simp; (try with_reducible rfl))
            simp only [Act.put, stB, stZ, stS]
            refine tk 13 (some 20) (v := ?_) rfl rfl ?_ ?_
            rotate_left
            · (intro w _; go_simp; (try with_reducible rfl))
            simp only [Act.put, stB, stZ, stS]
            refine tk 14 (some 21) (v := ?_) rfl rfl ?_ ?_
            rotate_left
            · (intro w _; go_simp; (try with_reducible rfl))
            simp only [Act.put, stB, stZ, stS]
            refine wpAnyH_ready (rs := [16]) (by kernel_rfl) (by simp) ?_
            refine (AllReadyH.cons (o := { dst := none, op := Op.store 40 (Operand.tmp 5) (Operand.tmp 20), type := 0, pos := "rat.go:85", after := #[{ on := 15, ground := Ground.data }, { on := 13, ground := Ground.data }, { on := 11, ground := Ground.chain }, { on := 0, ground := Ground.phase }, { on := 1, ground := Ground.phase }, { on := 2, ground := Ground.phase }, { on := 3, ground := Ground.phase }, { on := 4, ground := Ground.phase }, { on := 5, ground := Ground.phase }, { on := 6, ground := Ground.phase }, { on := 7, ground := Ground.phase }, { on := 8, ground := Ground.phase }, { on := 9, ground := Ground.phase }, { on := 10, ground := Ground.phase }, { on := 11, ground := Ground.phase }, { on := 12, ground := Ground.phase }, { on := 13, ground := Ground.phase }, { on := 14, ground := Ground.textOnly Departure.lateStores }, { on := 15, ground := Ground.phase }], guard := none }) rfl (fun K hK => ?_) AllReadyH.nil)
            have hc0 := HN.out.cell 3 0 rfl rfl
            have hf0 := HN.out.free 3 0 rfl
            have hc1 := HN.out.cell 3 1 rfl rfl
            have hf1 := HN.out.free 3 1 rfl
            have hc2 := HN.out.cell 3 2 rfl rfl
            have hf2 := HN.out.free 3 2 rfl
            go_simp
            clear hc0 hf0 hc1 hf1 hc2 hf2
            replace HN := Lib.hid ((((HN.out).set 3 0 rfl rfl (fun _ => by simp) (.bool (decide (r.num < 0)))).set 3 1 rfl rfl (fun _ => by simp) (.slice a8 (lenW r.num.natAbs) c8)).set 3 2 rfl rfl (fun _ => by simp) (.slice b9 (lenW (denN r.den)) d9))
            generalize (((w7.setCell ⟨w3.heap.size, 0, none⟩ (.bool (decide (r.num < 0)))).setCell ⟨w3.heap.size, 1, none⟩ (.slice a8 (lenW r.num.natAbs) c8)).setCell ⟨w3.heap.size, 2, none⟩ (.slice b9 (lenW (denN r.den)) d9)) = wa8 at HN ⊢
            refine hK.out _ _ (⟨HN.out.cell 0 0 rfl rfl, HN.out.cell 0 1 rfl rfl, HN.out.cell 0 2 rfl rfl, HN.out.cell 1 0 rfl rfl, HN.out.cell 1 1 rfl rfl, HN.out.cell 1 2 rfl rfl⟩) (fun hHeld2 => ?_)
            clear hK K hHeld
            rename _ => hHeld
            try simp only [Act.put, stB, stZ, stS]
            refine tk 17 (some 6) (v := ?_) rfl rfl ?_ ?_
            rotate_left
            · (intro w _; go_simp; (try with_reducible rfl))
            simp only [Act.put, stB, stZ, stS]
            refine wpAnyH_done (by kernel_rfl) ?_ _
            go_wp2_with fail
            go_meet
            exact ⟨_, _, _, _, _, rfl, HN.out.only (List.Sublist.refl _) (fun z hz => by
              simp only [List.mem_cons, List.not_mem_nil, or_false] at hz
              rcases hz with rfl | rfl <;> simp)⟩
        · skip
          go_simp
          replace HN := Lib.hid (HN.out.alloc (p := w2.heap.size) rfl 40 [.bool false, .slice none 0 0, .slice none 0 0] rfl)
          generalize w2.alloc (.cells #[.bool false, .slice none 0 0, .slice none 0 0] 40) = wa3 at HN ⊢
          refine hK.out _ _ (⟨HN.out.cell 0 0 rfl rfl, HN.out.cell 0 1 rfl rfl, HN.out.cell 0 2 rfl rfl, HN.out.cell 1 0 rfl rfl, HN.out.cell 1 1 rfl rfl, HN.out.cell 1 2 rfl rfl⟩) (fun hHeld2 => ?_)
          clear hK K hHeld
          rename _ => hHeld
          try simp only [Act.put, stB, stZ, stS]
          refine wpAnyH_ready (rs := [8]) (by kernel_rfl) (by simp) ?_
          refine (AllReadyH.cons (o := { dst := some 16, op := Op.call { callee := Callee.value (Operand.func 52), args := #[Operand.tmp 15], argTypes := #[40] }, type := 36, pos := "rat.go:85", after := #[{ on := 7, ground := Ground.data }, { on := 6, ground := Ground.chain }], guard := none }) rfl (fun K hK => ?_) AllReadyH.nil)
          go_simp
          refine (HDq.out _ (HN.out.nat 3 rfl)).mono ?_
          rintro e w4 ⟨a4, c4, rfl, hq0, hb⟩
          replace HN := Lib.hid ((HN.out.call hb).got hq0)
          clear hb hq0
          go_wp2_with fail
          refine hK.out _ _ (⟨HN.out.cell 0 0 rfl rfl, HN.out.cell 0 1 rfl rfl, HN.out.cell 0 2 rfl rfl, HN.out.cell 1 0 rfl rfl, HN.out.cell 1 1 rfl rfl, HN.out.cell 1 2 rfl rfl⟩) (fun hHeld2 => ?_)
          clear hK K hHeld
          rename _ => hHeld
          try simp only [Act.put, stB, stZ, stS]
          refine wpAnyH_ready (rs := [9]) (by kernel_rfl) (by simp) ?_
          refine (AllReadyH.cons (o := { dst := some 17, op := Op.call { callee := Callee.value (Operand.func 51), args := #[Operand.tmp 14, Operand.tmp 16], argTypes := #[36, 36] }, type := 36, pos := "rat.go:85", after := #[{ on := 6, ground := Ground.data }, { on := 8, ground := Ground.data }, { on := 8, ground := Ground.chain }], guard := none }) rfl (fun K hK => ?_) AllReadyH.nil)
          go_simp
          refine (HPM.out _ _ _ _ _ (HN.out.nat 5 rfl) (HN.out.nat 6 rfl)).mono ?_
          rintro e w5 ⟨a5, c5, rfl, hq0, hb⟩
          replace HN := Lib.hid ((HN.out.call hb).got hq0)
          clear hb hq0
          go_wp2_with fail
          refine hK.out _ _ (⟨HN.out.cell 0 0 rfl rfl, HN.out.cell 0 1 rfl rfl, HN.out.cell 0 2 rfl rfl, HN.out.cell 1 0 rfl rfl, HN.out.cell 1 1 rfl rfl, HN.out.cell 1 2 rfl rfl⟩) (fun hHeld2 => ?_)
          clear hK K hHeld
          rename _ => hHeld
          try simp only [Act.put, stB, stZ, stS]
          refine wpAnyH_ready (rs := [10]) (by kernel_rfl) (by simp) ?_
          refine (AllReadyH.cons (o := { dst := some 18, op := Op.call { callee := Callee.value (Operand.func 50), args := #[Operand.const (Value.bool false), Operand.tmp 17], argTypes := #[4, 36] }, type := 38, pos := "rat.go:85", after := #[{ on := 9, ground := Ground.data }, { on := 9, ground := Ground.chain }], guard := none }) rfl (fun K hK => ?_) AllReadyH.nil)
          go_simp
          refine (HNI.out _ _ _ (HN.out.nat 7 rfl)).mono ?_
          rintro e w6 ⟨a7, c7, rfl, hq0, hb⟩
          replace HN := Lib.hid ((HN.out.call hb).got hq0)
          clear hb hq0
          go_wp2_with fail
          refine hK.out _ _ (⟨HN.out.cell 0 0 rfl rfl, HN.out.cell 0 1 rfl rfl, HN.out.cell 0 2 rfl rfl, HN.out.cell 1 0 rfl rfl, HN.out.cell 1 1 rfl rfl, HN.out.cell 1 2 rfl rfl⟩) (fun hHeld2 => ?_)
          clear hK K hHeld
          rename _ => hHeld
          try simp only [Act.put, stB, stZ, stS]
          refine wpAnyH_ready (rs := [11]) (by kernel_rfl) (by simp) ?_
          refine (AllReadyH.cons (o := { dst := some 19, op := Op.call { callee := Callee.value (Operand.func 49), args := #[Operand.tmp 12, Operand.tmp 18], argTypes := #[38, 38] }, type := 41, pos := "rat.go:85", after := #[{ on := 4, ground := Ground.data }, { on := 10, ground := Ground.data }, { on := 10, ground := Ground.chain }], guard := none }) rfl (fun K hK => ?_) AllReadyH.nil)
          go_simp
          refine (HRN.out _ _ _ _ _ (HN.out.nat 4 rfl) (HN.out.nat 8 rfl)).mono ?_
          rintro e w7 ⟨a8, c8, b9, d9, rfl, hq0, hq1, hb⟩
          replace HN := Lib.hid (((HN.out.call hb).got hq0).got hq1)
          clear hb hq0 hq1
          go_wp2_with fail
          refine hK.out _ _ (⟨HN.out.cell 0 0 rfl rfl, HN.out.cell 0 1 rfl rfl, HN.out.cell 0 2 rfl rfl, HN.out.cell 1 0 rfl rfl, HN.out.cell 1 1 rfl rfl, HN.out.cell 1 2 rfl rfl⟩) (fun hHeld2 => ?_)
          clear hK K hHeld
          rename _ => hHeld
          try simp only [Act.put, stB, stZ, stS]
          refine tk 12 (some 7) (v := ?_) rfl rfl ?_ ?_
          rotate_left
          · (intro w _; go_simp; (try with_reducible rfl))
          simp only [Act.put, stB, stZ, stS]
          refine tk 13 (some 20) (v := ?_) rfl rfl ?_ ?_
          rotate_left
          · (intro w _; go_simp; (try with_reducible rfl))
          simp only [Act.put, stB, stZ, stS]
          refine tk 14 (some 21) (v := ?_) rfl rfl ?_ ?_
          rotate_left
          · (intro w _; go_simp; (try with_reducible rfl))
          simp only [Act.put, stB, stZ, stS]
          refine wpAnyH_ready (rs := [16]) (by kernel_rfl) (by simp) ?_
          refine (AllReadyH.cons (o := { dst := none, op := Op.store 40 (Operand.tmp 5) (Operand.tmp 20), type := 0, pos := "rat.go:85", after := #[{ on := 15, ground := Ground.data }, { on := 13, ground := Ground.data }, { on := 11, ground := Ground.chain }, { on := 0, ground := Ground.phase }, { on := 1, ground := Ground.phase }, { on := 2, ground := Ground.phase }, { on := 3, ground := Ground.phase }, { on := 4, ground := Ground.phase }, { on := 5, ground := Ground.phase }, { on := 6, ground := Ground.phase }, { on := 7, ground := Ground.phase }, { on := 8, ground := Ground.phase }, { on := 9, ground := Ground.phase }, { on := 10, ground := Ground.phase }, { on := 11, ground := Ground.phase }, { on := 12, ground := Ground.phase }, { on := 13, ground := Ground.phase }, { on := 14, ground := Ground.textOnly Departure.lateStores }, { on := 15, ground := Ground.phase }], guard := none }) rfl (fun K hK => ?_) AllReadyH.nil)
          have hc0 := HN.out.cell 3 0 rfl rfl
          have hf0 := HN.out.free 3 0 rfl
          have hc1 := HN.out.cell 3 1 rfl rfl
          have hf1 := HN.out.free 3 1 rfl
          have hc2 := HN.out.cell 3 2 rfl rfl
          have hf2 := HN.out.free 3 2 rfl
          go_simp
          clear hc0 hf0 hc1 hf1 hc2 hf2
          replace HN := Lib.hid ((((HN.out).set 3 0 rfl rfl (fun _ => by simp) (.bool (decide (r.num < 0)))).set 3 1 rfl rfl (fun _ => by simp) (.slice a8 (lenW r.num.natAbs) c8)).set 3 2 rfl rfl (fun _ => by simp) (.slice b9 (lenW (denN r.den)) d9))
          generalize (((w7.setCell ⟨w2.heap.size, 0, none⟩ (.bool (decide (r.num < 0)))).setCell ⟨w2.heap.size, 1, none⟩ (.slice a8 (lenW r.num.natAbs) c8)).setCell ⟨w2.heap.size, 2, none⟩ (.slice b9 (lenW (denN r.den)) d9)) = wa8 at HN ⊢
          refine hK.out _ _ (⟨HN.out.cell 0 0 rfl rfl, HN.out.cell 0 1 rfl rfl, HN.out.cell 0 2 rfl rfl, HN.out.cell 1 0 rfl rfl, HN.out.cell 1 1 rfl rfl, HN.out.cell 1 2 rfl rfl⟩) (fun hHeld2 => ?_)
          clear hK K hHeld
          rename _ => hHeld
          try simp only [Act.put, stB, stZ, stS]
          refine tk 17 (some 6) (v := ?_) rfl rfl ?_ ?_
          rotate_left
          · (intro w _; go_simp; (try with_reducible rfl))
          simp only [Act.put, stB, stZ, stS]
          refine wpAnyH_done (by kernel_rfl) ?_ _
          go_wp2_with fail
          go_meet
          exact ⟨_, _, _, _, _, rfl, HN.out.only (List.Sublist.refl _) (fun z hz => by
            simp only [List.mem_cons, List.not_mem_nil, or_false] at hz
            rcases hz with rfl | rfl <;> simp)⟩
      · skip
        go_simp
        replace HN := Lib.hid (HN.out.alloc (p := w1.heap.size) rfl 40 [.bool false, .slice none 0 0, .slice none 0 0] rfl)
        generalize w1.alloc (.cells #[.bool false, .slice none 0 0, .slice none 0 0] 40) = wa2 at HN ⊢
        refine hK.out _ _ (⟨HN.out.cell 0 0 rfl rfl, HN.out.cell 0 1 rfl rfl, HN.out.cell 0 2 rfl rfl, HN.out.cell 1 0 rfl rfl, HN.out.cell 1 1 rfl rfl, HN.out.cell 1 2 rfl rfl⟩) (fun hHeld2 => ?_)
        clear hK K hHeld
        rename _ => hHeld
        try simp only [Act.put, stB, stZ, stS]
        refine wpAnyH_ready (rs := [6]) (by kernel_rfl) (by simp) ?_
        refine (AllReadyH.cons (o := { dst := some 14, op := Op.call { callee := Callee.value (Operand.func 52), args := #[Operand.tmp 13], argTypes := #[40] }, type := 36, pos := "rat.go:85", after := #[{ on := 5, ground := Ground.data }, { on := 4, ground := Ground.chain }], guard := none }) rfl (fun K hK => ?_) AllReadyH.nil)
        go_simp
        refine (HDp.out _ (HN.out.nat 1 rfl)).mono ?_
        rintro e w3 ⟨a3, c3, rfl, hq0, hb⟩
        replace HN := Lib.hid ((HN.out.call hb).got hq0)
        clear hb hq0
        go_wp2_with fail
        refine hK.out _ _ (⟨HN.out.cell 0 0 rfl rfl, HN.out.cell 0 1 rfl rfl, HN.out.cell 0 2 rfl rfl, HN.out.cell 1 0 rfl rfl, HN.out.cell 1 1 rfl rfl, HN.out.cell 1 2 rfl rfl⟩) (fun hHeld2 => ?_)
        clear hK K hHeld
        rename _ => hHeld
        try simp only [Act.put, stB, stZ, stS]
        refine wpAnyH_ready (rs := [8]) (by kernel_rfl) (by simp) ?_
        refine (AllReadyH.cons (o := { dst := some 16, op := Op.call { callee := Callee.value (Operand.func 52), args := #[Operand.tmp 15], argTypes := #[40] }, type := 36, pos := "rat.go:85", after := #[{ on := 7, ground := Ground.data }, { on := 6, ground := Ground.chain }], guard := none }) rfl (fun K hK => ?_) AllReadyH.nil)
        go_simp
        refine (HDq.out _ (HN.out.nat 3 rfl)).mono ?_
        rintro e w4 ⟨a4, c4, rfl, hq0, hb⟩
        replace HN := Lib.hid ((HN.out.call hb).got hq0)
        clear hb hq0
        go_wp2_with fail
        refine hK.out _ _ (⟨HN.out.cell 0 0 rfl rfl, HN.out.cell 0 1 rfl rfl, HN.out.cell 0 2 rfl rfl, HN.out.cell 1 0 rfl rfl, HN.out.cell 1 1 rfl rfl, HN.out.cell 1 2 rfl rfl⟩) (fun hHeld2 => ?_)
        clear hK K hHeld
        rename _ => hHeld
        try simp only [Act.put, stB, stZ, stS]
        refine wpAnyH_ready (rs := [9]) (by kernel_rfl) (by simp) ?_
        refine (AllReadyH.cons (o := { dst := some 17, op := Op.call { callee := Callee.value (Operand.func 51), args := #[Operand.tmp 14, Operand.tmp 16], argTypes := #[36, 36] }, type := 36, pos := "rat.go:85", after := #[{ on := 6, ground := Ground.data }, { on := 8, ground := Ground.data }, { on := 8, ground := Ground.chain }], guard := none }) rfl (fun K hK => ?_) AllReadyH.nil)
        go_simp
        refine (HPM.out _ _ _ _ _ (HN.out.nat 5 rfl) (HN.out.nat 6 rfl)).mono ?_
        rintro e w5 ⟨a5, c5, rfl, hq0, hb⟩
        replace HN := Lib.hid ((HN.out.call hb).got hq0)
        clear hb hq0
        go_wp2_with fail
        refine hK.out _ _ (⟨HN.out.cell 0 0 rfl rfl, HN.out.cell 0 1 rfl rfl, HN.out.cell 0 2 rfl rfl, HN.out.cell 1 0 rfl rfl, HN.out.cell 1 1 rfl rfl, HN.out.cell 1 2 rfl rfl⟩) (fun hHeld2 => ?_)
        clear hK K hHeld
        rename _ => hHeld
        try simp only [Act.put, stB, stZ, stS]
        refine wpAnyH_ready (rs := [10]) (by kernel_rfl) (by simp) ?_
        refine (AllReadyH.cons (o := { dst := some 18, op := Op.call { callee := Callee.value (Operand.func 50), args := #[Operand.const (Value.bool false), Operand.tmp 17], argTypes := #[4, 36] }, type := 38, pos := "rat.go:85", after := #[{ on := 9, ground := Ground.data }, { on := 9, ground := Ground.chain }], guard := none }) rfl (fun K hK => ?_) AllReadyH.nil)
        go_simp
        refine (HNI.out _ _ _ (HN.out.nat 7 rfl)).mono ?_
        rintro e w6 ⟨a7, c7, rfl, hq0, hb⟩
        replace HN := Lib.hid ((HN.out.call hb).got hq0)
        clear hb hq0
        go_wp2_with fail
        refine hK.out _ _ (⟨HN.out.cell 0 0 rfl rfl, HN.out.cell 0 1 rfl rfl, HN.out.cell 0 2 rfl rfl, HN.out.cell 1 0 rfl rfl, HN.out.cell 1 1 rfl rfl, HN.out.cell 1 2 rfl rfl⟩) (fun hHeld2 => ?_)
        clear hK K hHeld
        rename _ => hHeld
        try simp only [Act.put, stB, stZ, stS]
        refine wpAnyH_ready (rs := [11]) (by kernel_rfl) (by simp) ?_
        refine (AllReadyH.cons (o := { dst := some 19, op := Op.call { callee := Callee.value (Operand.func 49), args := #[Operand.tmp 12, Operand.tmp 18], argTypes := #[38, 38] }, type := 41, pos := "rat.go:85", after := #[{ on := 4, ground := Ground.data }, { on := 10, ground := Ground.data }, { on := 10, ground := Ground.chain }], guard := none }) rfl (fun K hK => ?_) AllReadyH.nil)
        go_simp
        refine (HRN.out _ _ _ _ _ (HN.out.nat 4 rfl) (HN.out.nat 8 rfl)).mono ?_
        rintro e w7 ⟨a8, c8, b9, d9, rfl, hq0, hq1, hb⟩
        replace HN := Lib.hid (((HN.out.call hb).got hq0).got hq1)
        clear hb hq0 hq1
        go_wp2_with fail
        refine hK.out _ _ (⟨HN.out.cell 0 0 rfl rfl, HN.out.cell 0 1 rfl rfl, HN.out.cell 0 2 rfl rfl, HN.out.cell 1 0 rfl rfl, HN.out.cell 1 1 rfl rfl, HN.out.cell 1 2 rfl rfl⟩) (fun hHeld2 => ?_)
        clear hK K hHeld
        rename _ => hHeld
        try simp only [Act.put, stB, stZ, stS]
        refine tk 12 (some 7) (v := ?_) rfl rfl ?_ ?_
        rotate_left
        · (intro w _; go_simp; (try with_reducible rfl))
        simp only [Act.put, stB, stZ, stS]
        refine tk 13 (some 20) (v := ?_) rfl rfl ?_ ?_
        rotate_left
        · (intro w _; go_simp; (try with_reducible rfl))
        simp only [Act.put, stB, stZ, stS]
        refine tk 14 (some 21) (v := ?_) rfl rfl ?_ ?_
        rotate_left
        · (intro w _; go_simp; (try with_reducible rfl))
        simp only [Act.put, stB, stZ, stS]
        refine wpAnyH_ready (rs := [16]) (by kernel_rfl) (by simp) ?_
        refine (AllReadyH.cons (o := { dst := none, op := Op.store 40 (Operand.tmp 5) (Operand.tmp 20), type := 0, pos := "rat.go:85", after := #[{ on := 15, ground := Ground.data }, { on := 13, ground := Ground.data }, { on := 11, ground := Ground.chain }, { on := 0, ground := Ground.phase }, { on := 1, ground := Ground.phase }, { on := 2, ground := Ground.phase }, { on := 3, ground := Ground.phase }, { on := 4, ground := Ground.phase }, { on := 5, ground := Ground.phase }, { on := 6, ground := Ground.phase }, { on := 7, ground := Ground.phase }, { on := 8, ground := Ground.phase }, { on := 9, ground := Ground.phase }, { on := 10, ground := Ground.phase }, { on := 11, ground := Ground.phase }, { on := 12, ground := Ground.phase }, { on := 13, ground := Ground.phase }, { on := 14, ground := Ground.textOnly Departure.lateStores }, { on := 15, ground := Ground.phase }], guard := none }) rfl (fun K hK => ?_) AllReadyH.nil)
        have hc0 := HN.out.cell 3 0 rfl rfl
        have hf0 := HN.out.free 3 0 rfl
        have hc1 := HN.out.cell 3 1 rfl rfl
        have hf1 := HN.out.free 3 1 rfl
        have hc2 := HN.out.cell 3 2 rfl rfl
        have hf2 := HN.out.free 3 2 rfl
        go_simp
        clear hc0 hf0 hc1 hf1 hc2 hf2
        replace HN := Lib.hid ((((HN.out).set 3 0 rfl rfl (fun _ => by simp) (.bool (decide (r.num < 0)))).set 3 1 rfl rfl (fun _ => by simp) (.slice a8 (lenW r.num.natAbs) c8)).set 3 2 rfl rfl (fun _ => by simp) (.slice b9 (lenW (denN r.den)) d9))
        generalize (((w7.setCell ⟨w1.heap.size, 0, none⟩ (.bool (decide (r.num < 0)))).setCell ⟨w1.heap.size, 1, none⟩ (.slice a8 (lenW r.num.natAbs) c8)).setCell ⟨w1.heap.size, 2, none⟩ (.slice b9 (lenW (denN r.den)) d9)) = wa8 at HN ⊢
        refine hK.out _ _ (⟨HN.out.cell 0 0 rfl rfl, HN.out.cell 0 1 rfl rfl, HN.out.cell 0 2 rfl rfl, HN.out.cell 1 0 rfl rfl, HN.out.cell 1 1 rfl rfl, HN.out.cell 1 2 rfl rfl⟩) (fun hHeld2 => ?_)
        clear hK K hHeld
        rename _ => hHeld
        try simp only [Act.put, stB, stZ, stS]
        refine tk 17 (some 6) (v := ?_) rfl rfl ?_ ?_
        rotate_left
        · (intro w _; go_simp; (try with_reducible rfl))
        simp only [Act.put, stB, stZ, stS]
        refine wpAnyH_done (by kernel_rfl) ?_ _
        go_wp2_with fail
        go_meet
        exact ⟨_, _, _, _, _, rfl, HN.out.only (List.Sublist.refl _) (fun z hz => by
          simp only [List.mem_cons, List.not_mem_nil, or_false] at hz
          rcases hz with rfl | rfl <;> simp)⟩
    · skip
      go_simp
      replace HN := Lib.hid (HN.out.alloc (p := wd.heap.size) rfl 40 [.bool false, .slice none 0 0, .slice none 0 0] rfl)
      generalize wd.alloc (.cells #[.bool false, .slice none 0 0, .slice none 0 0] 40) = wa1 at HN ⊢
      refine hK.out _ _ (⟨HN.out.cell 0 0 rfl rfl, HN.out.cell 0 1 rfl rfl, HN.out.cell 0 2 rfl rfl, HN.out.cell 1 0 rfl rfl, HN.out.cell 1 1 rfl rfl, HN.out.cell 1 2 rfl rfl⟩) (fun hHeld2 => ?_)
      clear hK K hHeld
      rename _ => hHeld
      try simp only [Act.put, stB, stZ, stS]
      refine wpAnyH_ready (rs := [4]) (by kernel_rfl) (by simp) ?_
      refine (AllReadyH.cons (o := { dst := some 12, op := Op.call { callee := Callee.value (Operand.func 46), args := #[Operand.tmp 9, Operand.tmp 11], argTypes := #[38, 38] }, type := 38, pos := "rat.go:85", after := #[{ on := 1, ground := Ground.data }, { on := 3, ground := Ground.data }], guard := none }) rfl (fun K hK => ?_) AllReadyH.nil)
      go_simp
      refine (HM.out _ (HN.out.nat 0 rfl) (HN.out.nat 2 rfl)).mono ?_
      rintro e w2 ⟨a2, c2, rfl, hq0, hb⟩
      replace HN := Lib.hid ((HN.out.call hb).got hq0)
      clear hb hq0
      go_wp2_with fail
      refine hK.out _ _ (⟨HN.out.cell 0 0 rfl rfl, HN.out.cell 0 1 rfl rfl, HN.out.cell 0 2 rfl rfl, HN.out.cell 1 0 rfl rfl, HN.out.cell 1 1 rfl rfl, HN.out.cell 1 2 rfl rfl⟩) (fun hHeld2 => ?_)
      clear hK K hHeld
      rename _ => hHeld
      try simp only [Act.put, stB, stZ, stS]
      refine wpAnyH_ready (rs := [6]) (by kernel_rfl) (by simp) ?_
      refine (AllReadyH.cons (o := { dst := some 14, op := Op.call { callee := Callee.value (Operand.func 52), args := #[Operand.tmp 13], argTypes := #[40] }, type := 36, pos := "rat.go:85", after := #[{ on := 5, ground := Ground.data }, { on := 4, ground := Ground.chain }], guard := none }) rfl (fun K hK => ?_) AllReadyH.nil)
      go_simp
      refine (HDp.out _ (HN.out.nat 1 rfl)).mono ?_
      rintro e w3 ⟨a3, c3, rfl, hq0, hb⟩
      replace HN := Lib.hid ((HN.out.call hb).got hq0)
      clear hb hq0
      go_wp2_with fail
      refine hK.out _ _ (⟨HN.out.cell 0 0 rfl rfl, HN.out.cell 0 1 rfl rfl, HN.out.cell 0 2 rfl rfl, HN.out.cell 1 0 rfl rfl, HN.out.cell 1 1 rfl rfl, HN.out.cell 1 2 rfl rfl⟩) (fun hHeld2 => ?_)
      clear hK K hHeld
      rename _ => hHeld
      try simp only [Act.put, stB, stZ, stS]
      refine wpAnyH_ready (rs := [8]) (by kernel_rfl) (by simp) ?_
      refine (AllReadyH.cons (o := { dst := some 16, op := Op.call { callee := Callee.value (Operand.func 52), args := #[Operand.tmp 15], argTypes := #[40] }, type := 36, pos := "rat.go:85", after := #[{ on := 7, ground := Ground.data }, { on := 6, ground := Ground.chain }], guard := none }) rfl (fun K hK => ?_) AllReadyH.nil)
      go_simp
      refine (HDq.out _ (HN.out.nat 3 rfl)).mono ?_
      rintro e w4 ⟨a4, c4, rfl, hq0, hb⟩
      replace HN := Lib.hid ((HN.out.call hb).got hq0)
      clear hb hq0
      go_wp2_with fail
      refine hK.out _ _ (⟨HN.out.cell 0 0 rfl rfl, HN.out.cell 0 1 rfl rfl, HN.out.cell 0 2 rfl rfl, HN.out.cell 1 0 rfl rfl, HN.out.cell 1 1 rfl rfl, HN.out.cell 1 2 rfl rfl⟩) (fun hHeld2 => ?_)
      clear hK K hHeld
      rename _ => hHeld
      try simp only [Act.put, stB, stZ, stS]
      refine wpAnyH_ready (rs := [9]) (by kernel_rfl) (by simp) ?_
      refine (AllReadyH.cons (o := { dst := some 17, op := Op.call { callee := Callee.value (Operand.func 51), args := #[Operand.tmp 14, Operand.tmp 16], argTypes := #[36, 36] }, type := 36, pos := "rat.go:85", after := #[{ on := 6, ground := Ground.data }, { on := 8, ground := Ground.data }, { on := 8, ground := Ground.chain }], guard := none }) rfl (fun K hK => ?_) AllReadyH.nil)
      go_simp
      refine (HPM.out _ _ _ _ _ (HN.out.nat 5 rfl) (HN.out.nat 6 rfl)).mono ?_
      rintro e w5 ⟨a5, c5, rfl, hq0, hb⟩
      replace HN := Lib.hid ((HN.out.call hb).got hq0)
      clear hb hq0
      go_wp2_with fail
      refine hK.out _ _ (⟨HN.out.cell 0 0 rfl rfl, HN.out.cell 0 1 rfl rfl, HN.out.cell 0 2 rfl rfl, HN.out.cell 1 0 rfl rfl, HN.out.cell 1 1 rfl rfl, HN.out.cell 1 2 rfl rfl⟩) (fun hHeld2 => ?_)
      clear hK K hHeld
      rename _ => hHeld
      try simp only [Act.put, stB, stZ, stS]
      refine wpAnyH_ready (rs := [10]) (by kernel_rfl) (by simp) ?_
      refine (AllReadyH.cons (o := { dst := some 18, op := Op.call { callee := Callee.value (Operand.func 50), args := #[Operand.const (Value.bool false), Operand.tmp 17], argTypes := #[4, 36] }, type := 38, pos := "rat.go:85", after := #[{ on := 9, ground := Ground.data }, { on := 9, ground := Ground.chain }], guard := none }) rfl (fun K hK => ?_) AllReadyH.nil)
      go_simp
      refine (HNI.out _ _ _ (HN.out.nat 7 rfl)).mono ?_
      rintro e w6 ⟨a7, c7, rfl, hq0, hb⟩
      replace HN := Lib.hid ((HN.out.call hb).got hq0)
      clear hb hq0
      go_wp2_with fail
      refine hK.out _ _ (⟨HN.out.cell 0 0 rfl rfl, HN.out.cell 0 1 rfl rfl, HN.out.cell 0 2 rfl rfl, HN.out.cell 1 0 rfl rfl, HN.out.cell 1 1 rfl rfl, HN.out.cell 1 2 rfl rfl⟩) (fun hHeld2 => ?_)
      clear hK K hHeld
      rename _ => hHeld
      try simp only [Act.put, stB, stZ, stS]
      refine wpAnyH_ready (rs := [11]) (by kernel_rfl) (by simp) ?_
      refine (AllReadyH.cons (o := { dst := some 19, op := Op.call { callee := Callee.value (Operand.func 49), args := #[Operand.tmp 12, Operand.tmp 18], argTypes := #[38, 38] }, type := 41, pos := "rat.go:85", after := #[{ on := 4, ground := Ground.data }, { on := 10, ground := Ground.data }, { on := 10, ground := Ground.chain }], guard := none }) rfl (fun K hK => ?_) AllReadyH.nil)
      go_simp
      refine (HRN.out _ _ _ _ _ (HN.out.nat 4 rfl) (HN.out.nat 8 rfl)).mono ?_
      rintro e w7 ⟨a8, c8, b9, d9, rfl, hq0, hq1, hb⟩
      replace HN := Lib.hid (((HN.out.call hb).got hq0).got hq1)
      clear hb hq0 hq1
      go_wp2_with fail
      refine hK.out _ _ (⟨HN.out.cell 0 0 rfl rfl, HN.out.cell 0 1 rfl rfl, HN.out.cell 0 2 rfl rfl, HN.out.cell 1 0 rfl rfl, HN.out.cell 1 1 rfl rfl, HN.out.cell 1 2 rfl rfl⟩) (fun hHeld2 => ?_)
      clear hK K hHeld
      rename _ => hHeld
      try simp only [Act.put, stB, stZ, stS]
      refine tk 12 (some 7) (v := ?_) rfl rfl ?_ ?_
      rotate_left
      · (intro w _; go_simp; (try with_reducible rfl))
      simp only [Act.put, stB, stZ, stS]
      refine tk 13 (some 20) (v := ?_) rfl rfl ?_ ?_
      rotate_left
      · (intro w _; go_simp; (try with_reducible rfl))
      simp only [Act.put, stB, stZ, stS]
      refine tk 14 (some 21) (v := ?_) rfl rfl ?_ ?_
      rotate_left
      · (intro w _; go_simp; (try with_reducible rfl))
      simp only [Act.put, stB, stZ, stS]
      refine wpAnyH_ready (rs := [16]) (by kernel_rfl) (by simp) ?_
      refine (AllReadyH.cons (o := { dst := none, op := Op.store 40 (Operand.tmp 5) (Operand.tmp 20), type := 0, pos := "rat.go:85", after := #[{ on := 15, ground := Ground.data }, { on := 13, ground := Ground.data }, { on := 11, ground := Ground.chain }, { on := 0, ground := Ground.phase }, { on := 1, ground := Ground.phase }, { on := 2, ground := Ground.phase }, { on := 3, ground := Ground.phase }, { on := 4, ground := Ground.phase }, { on := 5, ground := Ground.phase }, { on := 6, ground := Ground.phase }, { on := 7, ground := Ground.phase }, { on := 8, ground := Ground.phase }, { on := 9, ground := Ground.phase }, { on := 10, ground := Ground.phase }, { on := 11, ground := Ground.phase }, { on := 12, ground := Ground.phase }, { on := 13, ground := Ground.phase }, { on := 14, ground := Ground.textOnly Departure.lateStores }, { on := 15, ground := Ground.phase }], guard := none }) rfl (fun K hK => ?_) AllReadyH.nil)
      have hc0 := HN.out.cell 3 0 rfl rfl
      have hf0 := HN.out.free 3 0 rfl
      have hc1 := HN.out.cell 3 1 rfl rfl
      have hf1 := HN.out.free 3 1 rfl
      have hc2 := HN.out.cell 3 2 rfl rfl
      have hf2 := HN.out.free 3 2 rfl
      go_simp
      clear hc0 hf0 hc1 hf1 hc2 hf2
      replace HN := Lib.hid ((((HN.out).set 3 0 rfl rfl (fun _ => by simp) (.bool (decide (r.num < 0)))).set 3 1 rfl rfl (fun _ => by simp) (.slice a8 (lenW r.num.natAbs) c8)).set 3 2 rfl rfl (fun _ => by simp) (.slice b9 (lenW (denN r.den)) d9))
      generalize (((w7.setCell ⟨wd.heap.size, 0, none⟩ (.bool (decide (r.num < 0)))).setCell ⟨wd.heap.size, 1, none⟩ (.slice a8 (lenW r.num.natAbs) c8)).setCell ⟨wd.heap.size, 2, none⟩ (.slice b9 (lenW (denN r.den)) d9)) = wa8 at HN ⊢
      refine hK.out _ _ (⟨HN.out.cell 0 0 rfl rfl, HN.out.cell 0 1 rfl rfl, HN.out.cell 0 2 rfl rfl, HN.out.cell 1 0 rfl rfl, HN.out.cell 1 1 rfl rfl, HN.out.cell 1 2 rfl rfl⟩) (fun hHeld2 => ?_)
      clear hK K hHeld
      rename _ => hHeld
      try simp only [Act.put, stB, stZ, stS]
      refine tk 17 (some 6) (v := ?_) rfl rfl ?_ ?_
      rotate_left
      · (intro w _; go_simp; (try with_reducible rfl))
      simp only [Act.put, stB, stZ, stS]
      refine wpAnyH_done (by kernel_rfl) ?_ _
      go_wp2_with fail
      go_meet
      exact ⟨_, _, _, _, _, rfl, HN.out.only (List.Sublist.refl _) (fun z hz => by
        simp only [List.mem_cons, List.not_mem_nil, or_false] at hz
        rcases hz with rfl | rfl <;> simp)⟩
  case rest =>
    obtain ⟨w1, rfl⟩ : ∃ w1 : World, w1 = wc := ⟨_, rfl⟩
    obtain ⟨p5, a8, c8, b9, d9, rfl, hn0⟩ := hcut
    have HN := Lib.hid hn0
    clear hn0
    have k00 := HN.out.cell 0 0 rfl rfl
    have f00 := HN.out.free 0 0 rfl
    have k01 := HN.out.cell 0 1 rfl rfl
    have f01 := HN.out.free 0 1 rfl
    have k02 := HN.out.cell 0 2 rfl rfl
    have f02 := HN.out.free 0 2 rfl
    have k10 := HN.out.cell 1 0 rfl rfl
    have f10 := HN.out.free 1 0 rfl
    have k11 := HN.out.cell 1 1 rfl rfl
    have f11 := HN.out.free 1 1 rfl
    have k12 := HN.out.cell 1 2 rfl rfl
    have f12 := HN.out.free 1 2 rfl
    have k20 := HN.out.cell 2 0 rfl rfl
    have f20 := HN.out.free 2 0 rfl
    have k21 := HN.out.cell 2 1 rfl rfl
    have f21 := HN.out.free 2 1 rfl
    have k22 := HN.out.cell 2 2 rfl rfl
    have f22 := HN.out.free 2 2 rfl
    have k30 := HN.out.cell 3 0 rfl rfl
    have f30 := HN.out.free 3 0 rfl
    have k31 := HN.out.cell 3 1 rfl rfl
    have f31 := HN.out.free 3 1 rfl
    have k32 := HN.out.cell 3 2 rfl rfl
    have f32 := HN.out.free 3 2 rfl
    have HE := Lib.hid ((((HN.out).set 2 0 rfl rfl (fun _ => by simp) (.bool (decide (r.num < 0)))).set 2 1 rfl rfl (fun _ => by simp) (.slice a8 (lenW r.num.natAbs) c8)).set 2 2 rfl rfl (fun _ => by simp) (.slice b9 (lenW (denN r.den)) d9))
    have j0_2 := HE.out.cell 2 0 rfl rfl
    have j1_2 := HE.out.cell 2 1 rfl rfl
    have j2_2 := HE.out.cell 2 2 rfl rfl
    go_wp2_with fail
    refine bodyPost_ret (v := .agg #[.bool (decide (r.num < 0)), .slice a8 (lenW r.num.natAbs) c8, .slice b9 (lenW (denN r.den)) d9]) (by simp [results, Try.results44, go_sem, j0_2, j1_2, j2_2, k00, k01, k02, k10, k11, k12, k20, k21, k22, k30, k31, k32]) rfl ?_
    exact ⟨a8, c8, b9, d9, rfl, HE.out.nat 0 rfl, HE.out.nat 1 rfl, HE.out.bel⟩
set_option maxRecDepth 100000 in
set_option maxHeartbeats 4000000 in
theorem ineg_any (z : Int) (a : Option Addr) (c : Nat) (w : World) (ha : NatW w a c z.natAbs) : Calls Try.prog 81 #[.agg #[.bool (decide (z < 0)), .slice a (lenW z.natAbs) c]] w (RetI (-z) w) := by
  have hI := fun (W : World) (h : NatW W a c z.natAbs) => newI_not z ▸ inew_any (!decide (z < 0)) a c z.natAbs W h
  unfold RetI at hI
  obtain ⟨s0, hs0⟩ : ∃ s, decide (z < 0) = s := ⟨_, rfl⟩
  obtain ⟨m0, hm0⟩ : ∃ s, z.natAbs = s := ⟨_, rfl⟩
  obtain ⟨s1, hs1⟩ : ∃ s, decide (-z < 0) = s := ⟨_, rfl⟩
  obtain ⟨m1, hm1⟩ : ∃ s, (-z).natAbs = s := ⟨_, rfl⟩
  unfold RetI
  rw [hs0, hm0, hs1, hm1] at hI
  rw [hs0, hm0, hs1, hm1]
  rw [hm0] at ha
  have HI := Lib.hid hI
  clear hI hs0 hm0 hs1 hm1
  obtain ⟨W0, hW0⟩ : ∃ W0, W0 = ((w.alloc (.cells #[.bool s0, .slice a (lenW m0) c] 38)).alloc (.cells #[.bool false, .slice none 0 0] 38)) := ⟨_, rfl⟩
  have hbs : BS w [⟨w.heap.size, 38, [.bool s0, .slice a (lenW m0) c]⟩, ⟨w.heap.size + 1, 38, [.bool false, .slice none 0 0]⟩] [⟨a, c, m0⟩] ((w.alloc (.cells #[.bool s0, .slice a (lenW m0) c] 38)).alloc (.cells #[.bool false, .slice none 0 0] 38)) :=
      (((BS.begin [⟨a, c, m0⟩] (fun y hy => by
        rw [List.mem_singleton.1 hy]; exact ha)).alloc (p := w.heap.size) rfl 38 [.bool s0, .slice a (lenW m0) c] rfl).alloc (p := w.heap.size + 1) (by simp) 38 [.bool false, .slice none 0 0] rfl)
  rw [← hW0] at hbs
  have HW0 := Lib.hid hW0
  have HN := Lib.hid hbs
  clear hW0 hbs
  clear ha
  go_enter Try.func81, Try.ntmps81
  go_wp2_with fail
  rw [← HW0.out]
  refine (HI.out _ (HN.out.nat 0 rfl)).mono ?_
  rintro e w1 ⟨a2, c2, rfl, hq0, hb⟩
  replace HN := Lib.hid ((HN.out.call hb).got hq0)
  clear hb hq0
  have k00 := HN.out.cell 0 0 rfl rfl
  have f00 := HN.out.free 0 0 rfl
  have k01 := HN.out.cell 0 1 rfl rfl
  have f01 := HN.out.free 0 1 rfl
  have k10 := HN.out.cell 1 0 rfl rfl
  have f10 := HN.out.free 1 0 rfl
  have k11 := HN.out.cell 1 1 rfl rfl
  have f11 := HN.out.free 1 1 rfl
  have HE := Lib.hid (((HN.out).set 1 0 rfl rfl (fun _ => by simp) (.bool s1)).set 1 1 rfl rfl (fun _ => by simp) (.slice a2 (lenW m1) c2))
  have j0_1 := HE.out.cell 1 0 rfl rfl
  have j1_1 := HE.out.cell 1 1 rfl rfl
  go_wp2_with fail
  refine bodyPost_ret (v := .agg #[.bool s1, .slice a2 (lenW m1) c2]) (by simp [results, Try.results81, go_sem, j0_1, j1_1, k00, k01, k10, k11]) rfl ?_
  exact ⟨a2, c2, rfl, HE.out.nat 1 rfl, HE.out.bel⟩
set_option maxRecDepth 100000 in
set_option maxHeartbeats 4000000 in
theorem rneg_any (p : Rat) (a b : Option Addr) (c d : Nat) (w : World) (ha : NatW w a c p.num.natAbs) (hb : NatW w b d (denN p.den)) : Calls Try.prog 63 #[ratV a c b d p] w (RetR (-p) w) := by
  have hI := fun (W : World) (h : NatW W a c p.num.natAbs) => ineg_any p.num a c W h
  unfold RetI at hI
  have hRN : (-p).num = -p.num := rfl
  have hRD : (-p).den = p.den := rfl
  unfold ratV RetR ratV
  rw [hRN, hRD]
  obtain ⟨s0, hs0⟩ : ∃ z, decide (p.num < 0) = z := ⟨_, rfl⟩
  obtain ⟨m0, hm0⟩ : ∃ z, p.num.natAbs = z := ⟨_, rfl⟩
  obtain ⟨s1, hs1⟩ : ∃ z, decide (-p.num < 0) = z := ⟨_, rfl⟩
  obtain ⟨m1, hm1⟩ : ∃ z, (-p.num).natAbs = z := ⟨_, rfl⟩
  obtain ⟨dp, hdp⟩ : ∃ z, denN p.den = z := ⟨_, rfl⟩
  rw [hs0, hm0, hs1, hm1] at hI
  rw [hs0, hm0, hs1, hm1, hdp]
  rw [hm0] at ha
  rw [hdp] at hb
  have HI := Lib.hid hI
  clear hI hs0 hm0 hs1 hm1 hdp hRN hRD
  obtain ⟨W0, hW0⟩ : ∃ W0, W0 = ((w.alloc (.cells #[.bool s0, .slice a (lenW m0) c, .slice b (lenW dp) d] 40)).alloc (.cells #[.bool false, .slice none 0 0, .slice none 0 0] 40)) := ⟨_, rfl⟩
  have hbs : BS w [⟨w.heap.size, 40, [.bool s0, .slice a (lenW m0) c, .slice b (lenW dp) d]⟩, ⟨w.heap.size + 1, 40, [.bool false, .slice none 0 0, .slice none 0 0]⟩] [⟨a, c, m0⟩, ⟨b, d, dp⟩] ((w.alloc (.cells #[.bool s0, .slice a (lenW m0) c, .slice b (lenW dp) d] 40)).alloc (.cells #[.bool false, .slice none 0 0, .slice none 0 0] 40)) :=
      (((BS.begin [⟨a, c, m0⟩, ⟨b, d, dp⟩] (fun y hy => by
        rcases List.mem_cons.1 hy with rfl | hy
        · exact ha
        rw [List.mem_singleton.1 hy]; exact hb)).alloc (p := w.heap.size) rfl 40 [.bool s0, .slice a (lenW m0) c, .slice b (lenW dp) d] rfl).alloc (p := w.heap.size + 1) (by simp) 40 [.bool false, .slice none 0 0, .slice none 0 0] rfl)
  rw [← hW0] at hbs
  have HW0 := Lib.hid hW0
  have HN := Lib.hid hbs
  clear hW0 hbs
  clear ha hb
  go_enter Try.func63, Try.ntmps63
  go_upto_region 1 with fail
  rw [← HW0.out]
  replace HN := Lib.hid HN.out.drew
  refine wp_region_held_drew (S := fun W => W.cell? ⟨w.heap.size, 0, none⟩ = some (.bool s0) ∧ W.cell? ⟨w.heap.size, 1, none⟩ = some (.slice a (lenW m0) c) ∧ W.cell? ⟨w.heap.size, 2, none⟩ = some (.slice b (lenW dp) d)) (by kernel_rfl) (⟨HN.out.cell 0 0 rfl rfl, HN.out.cell 0 1 rfl rfl, HN.out.cell 0 2 rfl rfl⟩) (fun hHeld => ?_)
  generalize W0.drew = wd at HN hHeld ⊢
  refine tk 0 (some 3) (v := ?_) rfl rfl ?_ ?_
  rotate_left
  · (intro w _; go_simp; (try with_reducible rfl))
  simp only [Act.put, stB, stZ, stS]
  refine tk 1 (some 4) (v := ?_) rfl rfl ?_ ?_
  rotate_left
  · (intro w hSw; (try dsimp only at hSw); go_simp; (try with_reducible rfl))
  simp only [Act.put, stB, stZ, stS]
  refine tk 3 (some 6) (v := ?_) rfl rfl ?_ ?_
  rotate_left
  · (intro w _; go_simp; (try with_reducible rfl))
  simp only [Act.put, stB, stZ, stS]
  refine tk 4 (some 7) (v := ?_) rfl rfl ?_ ?_
  rotate_left
  · (intro w hSw; (try dsimp only at hSw); go_simp; (try with_reducible rfl))
  simp only [Act.put, stB, stZ, stS]
  refine wpAnyH_ready (rs := [2]) (by kernel_rfl) (by simp) ?_
  refine (AllReadyH.cons (o := { dst := some 5, op := Op.call { callee := Callee.value (Operand.func 81), args := #[Operand.tmp 4], argTypes := #[38] }, type := 38, pos := "rat.go:66", after := #[{ on := 1, ground := Ground.data }], guard := none }) rfl (fun K hK => ?_) AllReadyH.nil)
  go_simp
  refine (HI.out _ (HN.out.nat 0 rfl)).mono ?_
  rintro e w1 ⟨a2, c2, rfl, hq0, hb⟩
  replace HN := Lib.hid ((HN.out.call hb).got hq0)
  clear hb hq0
  go_wp2_with fail
  refine hK.out _ _ (⟨HN.out.cell 0 0 rfl rfl, HN.out.cell 0 1 rfl rfl, HN.out.cell 0 2 rfl rfl⟩) (fun hHeld2 => ?_)
  clear hK K hHeld
  rename _ => hHeld
  try simp only [Act.put, stB, stZ, stS]
  refine tk 5 (some 8) (v := ?_) rfl rfl ?_ ?_
  rotate_left
  · (intro w _; go_simp; (try with_reducible rfl))
  simp only [Act.put, stB, stZ, stS]
  refine wpAnyH_ready (rs := [6]) (by kernel_rfl) (by simp) ?_
  refine (AllReadyH.cons (o := { dst := none, op := Op.store 40 (Operand.tmp 2) (Operand.tmp 8), type := 0, pos := "rat.go:66", after := #[{ on := 5, ground := Ground.data }, { on := 2, ground := Ground.chain }, { on := 0, ground := Ground.phase }, { on := 1, ground := Ground.phase }, { on := 2, ground := Ground.phase }, { on := 3, ground := Ground.phase }, { on := 4, ground := Ground.phase }, { on := 5, ground := Ground.phase }], guard := none }) rfl (fun K hK => ?_) AllReadyH.nil)
  have hc0 := HN.out.cell 1 0 rfl rfl
  have hf0 := HN.out.free 1 0 rfl
  have hc1 := HN.out.cell 1 1 rfl rfl
  have hf1 := HN.out.free 1 1 rfl
  have hc2 := HN.out.cell 1 2 rfl rfl
  have hf2 := HN.out.free 1 2 rfl
  go_simp
  clear hc0 hf0 hc1 hf1 hc2 hf2
  replace HN := Lib.hid ((((HN.out).set 1 0 rfl rfl (fun _ => by simp) (.bool s1)).set 1 1 rfl rfl (fun _ => by simp) (.slice a2 (lenW m1) c2)).set 1 2 rfl rfl (fun _ => by simp) (.slice b (lenW dp) d))
  refine hK.out _ _ (⟨HN.out.cell 0 0 rfl rfl, HN.out.cell 0 1 rfl rfl, HN.out.cell 0 2 rfl rfl⟩) (fun hHeld2 => ?_)
  clear hK K hHeld
  rename _ => hHeld
  try simp only [Act.put, stB, stZ, stS]
  refine wpAnyH_done (by kernel_rfl) ?_ _
  have j0_1 := HN.out.cell 1 0 rfl rfl
  have j1_1 := HN.out.cell 1 1 rfl rfl
  have j2_1 := HN.out.cell 1 2 rfl rfl
  go_wp2_with fail
  refine bodyPost_ret (v := .agg #[.bool s1, .slice a2 (lenW m1) c2, .slice b (lenW dp) d]) (by simp [results, Try.results63, go_sem, j0_1, j1_1, j2_1]) rfl ?_
  exact ⟨a2, c2, b, d, rfl, HN.out.nat 2 rfl, HN.out.nat 1 rfl, HN.out.bel⟩
set_option maxRecDepth 100000 in
set_option maxHeartbeats 4000000 in
theorem rsign_any (p : Rat) (a b : Option Addr) (c d : Nat) (w : World) : Calls Try.prog 42 #[ratV a c b d p] w fun e w' => e = .returned (.int .i64 (signZ p.num)) ∧ Below w.heap.size w w' := by
  have hI := fun (W : World) => isign_any p.num a c W
  unfold ratV
  obtain ⟨s0, hs0⟩ : ∃ z, decide (p.num < 0) = z := ⟨_, rfl⟩
  obtain ⟨m0, hm0⟩ : ∃ z, p.num.natAbs = z := ⟨_, rfl⟩
  obtain ⟨dp, hdp⟩ : ∃ z, denN p.den = z := ⟨_, rfl⟩
  obtain ⟨z, hz⟩ : ∃ z, signZ p.num = z := ⟨_, rfl⟩
  rw [hs0, hm0, hz] at hI
  rw [hs0, hm0, hdp, hz]
  have HI := Lib.hid hI
  clear hI hs0 hm0 hdp hz
  obtain ⟨W0, hW0⟩ : ∃ W0, W0 = (w.alloc (.cells #[.bool s0, .slice a (lenW m0) c, .slice b (lenW dp) d] 40)) := ⟨_, rfl⟩
  have hbs : BS w [⟨w.heap.size, 40, [.bool s0, .slice a (lenW m0) c, .slice b (lenW dp) d]⟩] [] (w.alloc (.cells #[.bool s0, .slice a (lenW m0) c, .slice b (lenW dp) d] 40)) :=
      ((BS.start w).alloc (p := w.heap.size) rfl 40 [.bool s0, .slice a (lenW m0) c, .slice b (lenW dp) d] rfl)
  rw [← hW0] at hbs
  have HW0 := Lib.hid hW0
  have HN := Lib.hid hbs
  clear hW0 hbs
  go_enter Try.func42, Try.ntmps42
  go_wp2_with fail
  rw [← HW0.out]
  refine (HI.out _).mono ?_
  rintro e w1 ⟨rfl, hb⟩
  replace HN := Lib.hid (HN.out.call hb)
  clear hb 
  have k00 := HN.out.cell 0 0 rfl rfl
  have f00 := HN.out.free 0 0 rfl
  have k01 := HN.out.cell 0 1 rfl rfl
  have f01 := HN.out.free 0 1 rfl
  have k02 := HN.out.cell 0 2 rfl rfl
  have f02 := HN.out.free 0 2 rfl
  go_wp2_with fail
  clear k00 f00 k01 f01 k02 f02
  go_ret
  exact ⟨rfl, HN.out.bel⟩
end Go.Proofs.Ytndndfobkbeolaa
