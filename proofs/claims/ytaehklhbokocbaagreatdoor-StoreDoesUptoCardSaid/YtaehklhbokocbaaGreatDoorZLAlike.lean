/-
  Alike of the laws by contract: it answers true where both stores are as one; the conditions are each law's own.
  Printed by a program of this repository (wip/law15.py).
-/
import Derived.Test.YtaehklhbokocbaaGreatDoorZLMay
import Derived.Deep.RegionHeld3
import Derived.Test.YtaehklhbokocbaaGreatDoorZV
set_option linter.unusedVariables false
set_option linter.unusedSimpArgs false
namespace Go.Proofs.YtaehklhbokocbaaGreatDoor
open Go.RowKit Go.Extern.Stop Go.Stop Go.Extern
theorem hu {w W : World} {b o : Nat} {v : Value} (hb : Below w.heap.size w W) (h : w.cell? ⟨b, o, none⟩ = some v) : W.cell? ⟨b, o, none⟩ = some v := (hb.cell (World.block_lt_of_cell? _ _ h)).trans h
theorem sumR_append (a b : List Rat) : sumR (a ++ b) = sumR a + sumR b := by
  induction a with
  | nil => simp [sumR]
  | cons x r ih => simp only [List.cons_append, sumR, ih]; omega
theorem sumR_take (l : List Rat) (k : Nat) (h : k < l.length) : sumR (l.take (k + 1)) = sumR (l.take k) + sizeQ l[k] := by
  rw [List.take_succ_eq_append_getElem h, sumR_append]; simp [sumR]
theorem sumR_le (l : List Rat) (k : Nat) (h : ∀ q, q ∈ l → sizeQ q ≤ 192) : sumR (l.take k) ≤ 192 * k := by
  induction l generalizing k with
  | nil => simp [sumR]
  | cons x r ih =>
    cases k with
    | zero => simp [sumR]
    | succ k =>
      have h1 := ih k fun q hq => h q (by simp [hq])
      have h2 := h x (by simp)
      simp only [List.take_succ_cons, sumR]
      omega
theorem sumAR_append (a b : List AR) : sumAR (a ++ b) = sumAR a + sumAR b := by
  induction a with
  | nil => simp [sumAR]
  | cons x r ih => simp only [List.cons_append, sumAR, ih]; omega
theorem sumAR_take (l : List AR) (k : Nat) (h : k < l.length) : sumAR (l.take (k + 1)) = sumAR (l.take k) + l[k].bits := by
  rw [List.take_succ_eq_append_getElem h, sumAR_append]; simp [sumAR]
theorem sumAR_le (l : List AR) (k : Nat) (h : ∀ r, r ∈ l → r.bits ≤ 5000) : sumAR (l.take k) ≤ 5000 * k := by
  induction l generalizing k with
  | nil => simp [sumAR]
  | cons x r ih =>
    cases k with
    | zero => simp [sumAR]
    | succ k =>
      have h1 := ih k fun q hq => h q (by simp [hq])
      have h2 := h x (by simp)
      simp only [List.take_succ_cons, sumAR]
      omega
set_option maxRecDepth 100000 in
set_option maxHeartbeats 64000000 in
theorem alike_any (w : World) (sb rb : Nat) (G H : Nat → Prop) (s : AS) (m : RM) (hsa : SA w sb G s) (hrb : RB w rb H m) (hw : WF s) (hco : Coup s m) (hvo : VOk m) :
    Calls Tryz.prog 29 #[.pointer (some ⟨sb, 0, none⟩), .pointer (some ⟨rb, 0, none⟩)] w fun e w' => e = .returned (.bool true) ∧ Below w.heap.size w w' := by
  obtain ⟨h, hq, hnw⟩ := hrb
  have hrw := hco.wf hw
  have HSA0 := Lib.hid hsa
  have HQ0 := Lib.hid hq
  have HNW0 := Lib.hid hnw
  have HW := Lib.hid hw
  have HCO := Lib.hid hco
  have HVO := Lib.hid hvo
  have HMK := Lib.hid hrw.kl
  have HMH := Lib.hid hrw.hl
  have HMO := Lib.hid hrw.ol
  have HMC := Lib.hid hrw.cl
  clear hsa hq hnw hw hco hvo hrw
  go_enter Tryz.func29, Tryz.ntmps29
  go_wp2_with fail
  refine (as_prob HSA0.out HW.out).mono ?_
  rintro e w1 ⟨F, ca, ra, cc, rc, cs, rows, rfl, hp, hF, hb1⟩
  obtain ⟨w2, hw2⟩ : ∃ w2, w1.alloc (.cells #[.slice ca cs.length cc, .slice ra rows.length rc] 73) = w2 := ⟨_, rfl⟩
  obtain ⟨pb, hpb⟩ : ∃ pb, w1.heap.size = pb := ⟨_, rfl⟩
  have hb2 : Below w1.heap.size w1 w2 := by rw [← hw2]; exact belowBox w1 (.cells #[.slice ca cs.length cc, .slice ra rows.length rc] 73)
  have p0 : w2.cell? ⟨pb, 0, none⟩ = some (.slice ca cs.length cc) := by rw [← hw2, ← hpb]; simp
  have p1 : w2.cell? ⟨pb, 1, none⟩ = some (.slice ra rows.length rc) := by rw [← hw2, ← hpb]; simp
  have hpl : pb < w2.heap.size := by rw [← hw2, ← hpb]; simp
  have hb02 := bthen hb1 hb2
  have HB02 := Lib.hid hb02
  have HP := Lib.hid (hp.below hb2)
  have HSA := Lib.hid (HSA0.out.below hb02)
  have HQ := Lib.hid (fun (W : World) (hW : Below w2.heap.size w2 W) => (Box.below (Box.below HQ0.out hb02) hW : RBx W rb H h m))
  have HNW := Lib.hid (fun (W : World) (hW : Below w2.heap.size w2 W) => (show RB W rb H m from (RB.below (RB.below ⟨h, HQ0.out, HNW0.out⟩ hb02) hW)).noWords)
  have c0 := RBx.c0 (HQ.out _ (Below.refl _ _))
  have c1 := RBx.c1 (HQ.out _ (Below.refl _ _))
  have hlc : cs.length = m.cols.length := by rw [hp.clen, List.length_map, HCO.out.clen]
  have hlr : rows.length = m.rows.length := by rw [hp.rlen, HCO.out.rlen]
  have hne1 : ((cs.length : Int) != (m.cols.length : Int)) = false := by rw [hlc]; simp
  have hne2 : ((rows.length : Int) != (m.rows.length : Int)) = false := by rw [hlr]; simp
  have HLC := Lib.hid hlc
  have HLRW := Lib.hid hlr
  have hs1 := hp.costs.lenI
  have hs2 := hp.rowsl.lenI
  have hs3 := (RBx.sl0 HQ0.out).lenI
  have hs4 := (RBx.sl1 HQ0.out).lenI
  have hs5 := (RBx.sl2 HQ0.out).lenI
  have hs6 := (RBx.sl3 HQ0.out).lenI
  have hs7 := (RBx.sl4 HQ0.out).lenI
  have HW2 := Lib.hid hw2
  have HPB := Lib.hid hpb
  have HB := Lib.hid (Below.drawn w2 1)
  clear hp hF hb1 hw2 hpb hb2 hb02 hlc hlr
  go_upto_region 2 with fail
  (try simp only [HW2.out, HPB.out])
  clear HW2 HPB
  go_cut [51] (fun v51 wx => v51 = .bool false ∧ Below w2.heap.size w2 wx)
  case first =>
    as_aux_lemma =>
      refine wp_region_held_drew (S := fun W => W.cell? ⟨rb, 0, none⟩ = some (.slice h.a0 m.rows.length h.c0) ∧ W.cell? ⟨rb, 1, none⟩ = some (.slice h.a1 m.cols.length h.c1) ∧ W.cell? ⟨pb, 0, none⟩ = some (.slice ca cs.length cc) ∧ W.cell? ⟨pb, 1, none⟩ = some (.slice ra rows.length rc)) (by as_aux_lemma => kernel_rfl) (⟨c0, c1, p0, p1⟩) (fun hHeld => ?_)
      refine tk 0 (some 12) (v := ?_) rfl rfl ?_ ?_
      rotate_left
      · (intro w _; go_simp; (try with_reducible rfl))
      simp only [Act.put, stB, stZ, stS]
      refine tk 2 (some 14) (v := ?_) rfl rfl ?_ ?_
      rotate_left
      · (intro w _; go_simp; (try with_reducible rfl))
      simp only [Act.put, stB, stZ, stS]
      refine wpAnyH_ready (rs := [1, 3]) (by as_aux_lemma => kernel_rfl) (by simp) ?_
      refine (AllReadyH.cons (o := { dst := some 13, op := Op.call { callee := Callee.value (Operand.func 13), args := #[Operand.tmp 12], argTypes := #[24] }, type := 27, pos := "law.go:115", after := #[{ on := 0, ground := Ground.data }], guard := none }) rfl (fun K hK => ?_) (AllReadyH.cons (o := { dst := some 15, op := Op.nilCheck (Operand.tmp 14), type := 0, pos := "law.go:115", after := #[{ on := 2, ground := Ground.data }], guard := none }) rfl (fun K hK => ?_) AllReadyH.nil))
      · skip
        go_simp
        refine (as_rows (HSA.out.below HB.out) HW.out).mono ?_
        rintro e V1 ⟨an, cn, rfl, hm, hb⟩
        have HMN := Lib.hid (Sl.ofMid hm)
        clear hm
        replace HB := Lib.hid (HB.out.trans (hb.mono HB.out.size))
        have hKK := And.intro (hu hb hHeld.1) <| And.intro (hu hb hHeld.2.1) <| And.intro (hu hb hHeld.2.2.1) <| hu hb hHeld.2.2.2
        clear hb
        refine hK.out _ _ (hKK) (fun hHeld2 => ?_)
        clear hK K hHeld
        rename _ => hHeld
        try simp only [Act.put, stB, stZ, stS]
        refine wpAnyH_ready (rs := [3]) (by as_aux_lemma => kernel_rfl) (by simp) ?_
        refine (AllReadyH.cons (o := { dst := some 15, op := Op.nilCheck (Operand.tmp 14), type := 0, pos := "law.go:115", after := #[{ on := 2, ground := Ground.data }], guard := none }) rfl (fun K hK => ?_) AllReadyH.nil)
        go_simp
        refine hK.out _ _ (hHeld) (fun hHeld2 => ?_)
        clear hK K hHeld
        rename _ => hHeld
        try simp only [Act.put, stB, stZ, stS]
        refine tk 4 (some 16) (v := ?_) rfl rfl ?_ ?_
        rotate_left
        · (intro w _; go_simp; (try with_reducible rfl))
        simp only [Act.put, stB, stZ, stS]
        refine tk 5 (some 17) (v := ?_) rfl rfl ?_ ?_
        rotate_left
        · (intro w hSw; (try dsimp only at hSw); ((try obtain ⟨hS0, hS1, hS2, hS3⟩ := hSw); go_simp); (try with_reducible rfl))
        simp only [Act.put, stB, stZ, stS]
        refine wpAnyH_ready (rs := [6]) (by as_aux_lemma => kernel_rfl) (by simp) ?_
        refine (AllReadyH.cons (o := { dst := some 18, op := Op.call { callee := Callee.value (Operand.func 33), args := #[Operand.tmp 13, Operand.tmp 17], argTypes := #[27, 27] }, type := 4, pos := "law.go:115", after := #[{ on := 1, ground := Ground.data }, { on := 5, ground := Ground.data }, { on := 1, ground := Ground.chain }], guard := none }) rfl (fun K hK => ?_) AllReadyH.nil)
        go_simp
        refine (ints_any an h.a0 cn h.c0 s.rids m.rows _ HMN.out (RBx.sl0 (HQ.out _ HB.out))).mono ?_
        rintro e V2 ⟨rfl, hb⟩
        rw [decide_eq_true (show s.rids = m.rows from HCO.out.rows.symm)]
        clear HMN
        replace HB := Lib.hid (HB.out.trans (hb.mono HB.out.size))
        have hKK := And.intro (hu hb hHeld.1) <| And.intro (hu hb hHeld.2.1) <| And.intro (hu hb hHeld.2.2.1) <| hu hb hHeld.2.2.2
        clear hb
        refine hK.out _ _ (hKK) (fun hHeld2 => ?_)
        clear hK K hHeld
        rename _ => hHeld
        try simp only [Act.put, stB, stZ, stS]
        refine tk 7 (some 19) (v := ?_) rfl rfl ?_ ?_
        rotate_left
        · (intro w _; go_simp; (try with_reducible rfl))
        simp only [Act.put, stB, stZ, stS]
        refine tk 8 (some 20) (v := ?_) rfl rfl ?_ ?_
        rotate_left
        · (intro w _; go_simp; (try with_reducible rfl))
        simp only [Act.put, stB, stZ, stS]
        refine tk 9 (some 21) (v := ?_) rfl rfl ?_ ?_
        rotate_left
        · (intro w _; go_simp; (try with_reducible rfl))
        simp only [Act.put, stB, stZ, stS]
        refine tk 11 (some 23) (v := ?_) rfl rfl ?_ ?_
        rotate_left
        · (intro w _; go_simp; (try with_reducible rfl))
        simp only [Act.put, stB, stZ, stS]
        refine wpAnyH_ready (rs := [10, 12]) (by as_aux_lemma => kernel_rfl) (by simp) ?_
        refine (AllReadyH.cons (o := { dst := some 22, op := Op.call { callee := Callee.value (Operand.func 14), args := #[Operand.tmp 21], argTypes := #[24] }, type := 27, pos := "law.go:115", after := #[{ on := 9, ground := Ground.data }, { on := 8, ground := Ground.chain }, { on := 8, ground := Ground.guard }], guard := some (8, false) }) rfl (fun K hK => ?_) (AllReadyH.cons (o := { dst := some 24, op := Op.nilCheck (Operand.tmp 23), type := 0, pos := "law.go:115", after := #[{ on := 11, ground := Ground.data }, { on := 8, ground := Ground.guard }], guard := some (8, false) }) rfl (fun K hK => ?_) AllReadyH.nil))
        · skip
          go_simp
          refine (as_cols (HSA.out.below HB.out) HW.out).mono ?_
          rintro e V3 ⟨an, cn, rfl, hm, hb⟩
          have HMN := Lib.hid (Sl.ofMid hm)
          clear hm
          replace HB := Lib.hid (HB.out.trans (hb.mono HB.out.size))
          have hKK := And.intro (hu hb hHeld.1) <| And.intro (hu hb hHeld.2.1) <| And.intro (hu hb hHeld.2.2.1) <| hu hb hHeld.2.2.2
          clear hb
          refine hK.out _ _ (hKK) (fun hHeld2 => ?_)
          clear hK K hHeld
          rename _ => hHeld
          try simp only [Act.put, stB, stZ, stS]
          refine wpAnyH_ready (rs := [12]) (by as_aux_lemma => kernel_rfl) (by simp) ?_
          refine (AllReadyH.cons (o := { dst := some 24, op := Op.nilCheck (Operand.tmp 23), type := 0, pos := "law.go:115", after := #[{ on := 11, ground := Ground.data }, { on := 8, ground := Ground.guard }], guard := some (8, false) }) rfl (fun K hK => ?_) AllReadyH.nil)
          go_simp
          refine hK.out _ _ (hHeld) (fun hHeld2 => ?_)
          clear hK K hHeld
          rename _ => hHeld
          try simp only [Act.put, stB, stZ, stS]
          refine tk 13 (some 25) (v := ?_) rfl rfl ?_ ?_
          rotate_left
          · (intro w _; go_simp; (try with_reducible rfl))
          simp only [Act.put, stB, stZ, stS]
          refine tk 14 (some 26) (v := ?_) rfl rfl ?_ ?_
          rotate_left
          · (intro w hSw; (try dsimp only at hSw); ((try obtain ⟨hS0, hS1, hS2, hS3⟩ := hSw); go_simp); (try with_reducible rfl))
          simp only [Act.put, stB, stZ, stS]
          refine wpAnyH_ready (rs := [15]) (by as_aux_lemma => kernel_rfl) (by simp) ?_
          refine (AllReadyH.cons (o := { dst := some 27, op := Op.call { callee := Callee.value (Operand.func 33), args := #[Operand.tmp 22, Operand.tmp 26], argTypes := #[27, 27] }, type := 4, pos := "law.go:115", after := #[{ on := 10, ground := Ground.data }, { on := 14, ground := Ground.data }, { on := 10, ground := Ground.chain }, { on := 8, ground := Ground.guard }], guard := some (8, false) }) rfl (fun K hK => ?_) AllReadyH.nil)
          go_simp
          refine (ints_any an h.a1 cn h.c1 s.cids m.cols _ HMN.out (RBx.sl1 (HQ.out _ HB.out))).mono ?_
          rintro e V4 ⟨rfl, hb⟩
          rw [decide_eq_true (show s.cids = m.cols from HCO.out.cols.symm)]
          clear HMN
          replace HB := Lib.hid (HB.out.trans (hb.mono HB.out.size))
          have hKK := And.intro (hu hb hHeld.1) <| And.intro (hu hb hHeld.2.1) <| And.intro (hu hb hHeld.2.2.1) <| hu hb hHeld.2.2.2
          clear hb
          refine hK.out _ _ (hKK) (fun hHeld2 => ?_)
          clear hK K hHeld
          rename _ => hHeld
          try simp only [Act.put, stB, stZ, stS]
          refine tk 16 (some 28) (v := ?_) rfl rfl ?_ ?_
          rotate_left
          · (intro w _; go_simp; (try with_reducible rfl))
          simp only [Act.put, stB, stZ, stS]
          refine tk 17 (some 29) (v := ?_) rfl rfl ?_ ?_
          rotate_left
          · (intro w _; go_simp; (try with_reducible rfl))
          simp only [Act.put, stB, stZ, stS]
          refine tk 18 (some 30) (v := ?_) rfl rfl ?_ ?_
          rotate_left
          · (intro w _; go_simp; (try with_reducible rfl))
          simp only [Act.put, stB, stZ, stS]
          refine tk 19 (some 31) (v := ?_) rfl rfl ?_ ?_
          rotate_left
          · (intro w _; go_simp; (try with_reducible rfl))
          simp only [Act.put, stB, stZ, stS]
          refine tk 20 (some 32) (v := ?_) rfl rfl ?_ ?_
          rotate_left
          · (intro w hSw; (try dsimp only at hSw); ((try obtain ⟨hS0, hS1, hS2, hS3⟩ := hSw); go_simp); (try with_reducible rfl))
          simp only [Act.put, stB, stZ, stS]
          refine tk 21 (some 33) (v := ?_) rfl rfl ?_ ?_
          rotate_left
          · (intro w _; go_simp; (try with_reducible rfl))
          simp only [Act.put, stB, stZ, stS]
          refine tk 22 (some 34) (v := ?_) rfl rfl ?_ ?_
          rotate_left
          · (intro w _; go_simp; (try with_reducible rfl))
          simp only [Act.put, stB, stZ, stS]
          refine wpAnyH_ready (rs := [23]) (by as_aux_lemma => kernel_rfl) (by simp) ?_
          refine (AllReadyH.cons (o := { dst := some 35, op := Op.nilCheck (Operand.tmp 34), type := 0, pos := "law.go:115", after := #[{ on := 22, ground := Ground.data }, { on := 18, ground := Ground.guard }], guard := some (18, false) }) rfl (fun K hK => ?_) AllReadyH.nil)
          go_simp
          refine hK.out _ _ (hHeld) (fun hHeld2 => ?_)
          clear hK K hHeld
          rename _ => hHeld
          try simp only [Act.put, stB, stZ, stS]
          refine tk 24 (some 36) (v := ?_) rfl rfl ?_ ?_
          rotate_left
          · (intro w _; go_simp; (try with_reducible rfl))
          simp only [Act.put, stB, stZ, stS]
          refine tk 25 (some 37) (v := ?_) rfl rfl ?_ ?_
          rotate_left
          · (intro w hSw; (try dsimp only at hSw); ((try obtain ⟨hS0, hS1, hS2, hS3⟩ := hSw); go_simp); (try with_reducible rfl))
          simp only [Act.put, stB, stZ, stS]
          refine tk 26 (some 38) (v := ?_) rfl rfl ?_ ?_
          rotate_left
          · (intro w _; go_simp; (try with_reducible rfl))
          simp only [Act.put, stB, stZ, stS]
          refine tk 27 (some 39) (v := ?_) rfl rfl ?_ ?_
          rotate_left
          · (intro w _; go_simp; (try with_reducible rfl))
          simp only [Act.put, stB, stZ, stS]
          refine tk 28 (some 40) (v := ?_) rfl rfl ?_ ?_
          rotate_left
          · (intro w _; go_simp; (try with_reducible rfl))
          simp only [Act.put, stB, stZ, stS]
          refine tk 29 (some 41) (v := ?_) rfl rfl ?_ ?_
          rotate_left
          · (intro w _; go_simp; (try with_reducible rfl))
          simp only [Act.put, stB, stZ, stS]
          refine tk 30 (some 42) (v := ?_) rfl rfl ?_ ?_
          rotate_left
          · (intro w _; go_simp; (try with_reducible rfl))
          simp only [Act.put, stB, stZ, stS]
          refine tk 31 (some 43) (v := ?_) rfl rfl ?_ ?_
          rotate_left
          · (intro w hSw; (try dsimp only at hSw); ((try obtain ⟨hS0, hS1, hS2, hS3⟩ := hSw); go_simp); (try with_reducible rfl))
          simp only [Act.put, stB, stZ, stS]
          refine tk 32 (some 44) (v := ?_) rfl rfl ?_ ?_
          rotate_left
          · (intro w _; go_simp; (try with_reducible rfl))
          simp only [Act.put, stB, stZ, stS]
          refine tk 33 (some 45) (v := ?_) rfl rfl ?_ ?_
          rotate_left
          · (intro w _; go_simp; (try with_reducible rfl))
          simp only [Act.put, stB, stZ, stS]
          refine wpAnyH_ready (rs := [34]) (by as_aux_lemma => kernel_rfl) (by simp) ?_
          refine (AllReadyH.cons (o := { dst := some 46, op := Op.nilCheck (Operand.tmp 45), type := 0, pos := "law.go:115", after := #[{ on := 33, ground := Ground.data }, { on := 29, ground := Ground.guard }], guard := some (29, false) }) rfl (fun K hK => ?_) AllReadyH.nil)
          go_simp
          refine hK.out _ _ (hHeld) (fun hHeld2 => ?_)
          clear hK K hHeld
          rename _ => hHeld
          try simp only [Act.put, stB, stZ, stS]
          refine tk 35 (some 47) (v := ?_) rfl rfl ?_ ?_
          rotate_left
          · (intro w _; go_simp; (try with_reducible rfl))
          simp only [Act.put, stB, stZ, stS]
          refine tk 36 (some 48) (v := ?_) rfl rfl ?_ ?_
          rotate_left
          · (intro w hSw; (try dsimp only at hSw); ((try obtain ⟨hS0, hS1, hS2, hS3⟩ := hSw); go_simp); (try with_reducible rfl))
          simp only [Act.put, stB, stZ, stS]
          refine tk 37 (some 49) (v := ?_) rfl rfl ?_ ?_
          rotate_left
          · (intro w _; go_simp; (try with_reducible rfl))
          simp only [Act.put, stB, stZ, stS]
          refine tk 38 (some 50) (v := ?_) rfl rfl ?_ ?_
          rotate_left
          · (intro w _; go_simp; (try with_reducible rfl))
          simp only [Act.put, stB, stZ, stS]
          refine tk 39 (some 51) (v := ?_) rfl rfl ?_ ?_
          rotate_left
          · (intro w _; go_simp; (try with_reducible rfl))
          simp only [Act.put, stB, stZ, stS]
          refine wpAnyH_done (by as_aux_lemma => kernel_rfl) ?_ _
          (try simp only [Exit.inBlock, Exit.then])
          clear hHeld
          go_wp2_with fail
          go_meet
          exact ⟨rfl, HB.out⟩
        · skip
          go_simp
          refine hK.out _ _ (hHeld) (fun hHeld2 => ?_)
          clear hK K hHeld
          rename _ => hHeld
          try simp only [Act.put, stB, stZ, stS]
          refine tk 13 (some 25) (v := ?_) rfl rfl ?_ ?_
          rotate_left
          · (intro w _; go_simp; (try with_reducible rfl))
          simp only [Act.put, stB, stZ, stS]
          refine tk 14 (some 26) (v := ?_) rfl rfl ?_ ?_
          rotate_left
          · (intro w hSw; (try dsimp only at hSw); ((try obtain ⟨hS0, hS1, hS2, hS3⟩ := hSw); go_simp); (try with_reducible rfl))
          simp only [Act.put, stB, stZ, stS]
          refine wpAnyH_ready (rs := [10]) (by as_aux_lemma => kernel_rfl) (by simp) ?_
          refine (AllReadyH.cons (o := { dst := some 22, op := Op.call { callee := Callee.value (Operand.func 14), args := #[Operand.tmp 21], argTypes := #[24] }, type := 27, pos := "law.go:115", after := #[{ on := 9, ground := Ground.data }, { on := 8, ground := Ground.chain }, { on := 8, ground := Ground.guard }], guard := some (8, false) }) rfl (fun K hK => ?_) AllReadyH.nil)
          go_simp
          refine (as_cols (HSA.out.below HB.out) HW.out).mono ?_
          rintro e V3 ⟨an, cn, rfl, hm, hb⟩
          have HMN := Lib.hid (Sl.ofMid hm)
          clear hm
          replace HB := Lib.hid (HB.out.trans (hb.mono HB.out.size))
          have hKK := And.intro (hu hb hHeld.1) <| And.intro (hu hb hHeld.2.1) <| And.intro (hu hb hHeld.2.2.1) <| hu hb hHeld.2.2.2
          clear hb
          refine hK.out _ _ (hKK) (fun hHeld2 => ?_)
          clear hK K hHeld
          rename _ => hHeld
          try simp only [Act.put, stB, stZ, stS]
          refine wpAnyH_ready (rs := [15]) (by as_aux_lemma => kernel_rfl) (by simp) ?_
          refine (AllReadyH.cons (o := { dst := some 27, op := Op.call { callee := Callee.value (Operand.func 33), args := #[Operand.tmp 22, Operand.tmp 26], argTypes := #[27, 27] }, type := 4, pos := "law.go:115", after := #[{ on := 10, ground := Ground.data }, { on := 14, ground := Ground.data }, { on := 10, ground := Ground.chain }, { on := 8, ground := Ground.guard }], guard := some (8, false) }) rfl (fun K hK => ?_) AllReadyH.nil)
          go_simp
          refine (ints_any an h.a1 cn h.c1 s.cids m.cols _ HMN.out (RBx.sl1 (HQ.out _ HB.out))).mono ?_
          rintro e V4 ⟨rfl, hb⟩
          rw [decide_eq_true (show s.cids = m.cols from HCO.out.cols.symm)]
          clear HMN
          replace HB := Lib.hid (HB.out.trans (hb.mono HB.out.size))
          have hKK := And.intro (hu hb hHeld.1) <| And.intro (hu hb hHeld.2.1) <| And.intro (hu hb hHeld.2.2.1) <| hu hb hHeld.2.2.2
          clear hb
          refine hK.out _ _ (hKK) (fun hHeld2 => ?_)
          clear hK K hHeld
          rename _ => hHeld
          try simp only [Act.put, stB, stZ, stS]
          refine tk 16 (some 28) (v := ?_) rfl rfl ?_ ?_
          rotate_left
          · (intro w _; go_simp; (try with_reducible rfl))
          simp only [Act.put, stB, stZ, stS]
          refine tk 17 (some 29) (v := ?_) rfl rfl ?_ ?_
          rotate_left
          · (intro w _; go_simp; (try with_reducible rfl))
          simp only [Act.put, stB, stZ, stS]
          refine tk 18 (some 30) (v := ?_) rfl rfl ?_ ?_
          rotate_left
          · (intro w _; go_simp; (try with_reducible rfl))
          simp only [Act.put, stB, stZ, stS]
          refine tk 19 (some 31) (v := ?_) rfl rfl ?_ ?_
          rotate_left
          · (intro w _; go_simp; (try with_reducible rfl))
          simp only [Act.put, stB, stZ, stS]
          refine tk 20 (some 32) (v := ?_) rfl rfl ?_ ?_
          rotate_left
          · (intro w hSw; (try dsimp only at hSw); ((try obtain ⟨hS0, hS1, hS2, hS3⟩ := hSw); go_simp); (try with_reducible rfl))
          simp only [Act.put, stB, stZ, stS]
          refine tk 21 (some 33) (v := ?_) rfl rfl ?_ ?_
          rotate_left
          · (intro w _; go_simp; (try with_reducible rfl))
          simp only [Act.put, stB, stZ, stS]
          refine tk 22 (some 34) (v := ?_) rfl rfl ?_ ?_
          rotate_left
          · (intro w _; go_simp; (try with_reducible rfl))
          simp only [Act.put, stB, stZ, stS]
          refine wpAnyH_ready (rs := [23]) (by as_aux_lemma => kernel_rfl) (by simp) ?_
          refine (AllReadyH.cons (o := { dst := some 35, op := Op.nilCheck (Operand.tmp 34), type := 0, pos := "law.go:115", after := #[{ on := 22, ground := Ground.data }, { on := 18, ground := Ground.guard }], guard := some (18, false) }) rfl (fun K hK => ?_) AllReadyH.nil)
          go_simp
          refine hK.out _ _ (hHeld) (fun hHeld2 => ?_)
          clear hK K hHeld
          rename _ => hHeld
          try simp only [Act.put, stB, stZ, stS]
          refine tk 24 (some 36) (v := ?_) rfl rfl ?_ ?_
          rotate_left
          · (intro w _; go_simp; (try with_reducible rfl))
          simp only [Act.put, stB, stZ, stS]
          refine tk 25 (some 37) (v := ?_) rfl rfl ?_ ?_
          rotate_left
          · (intro w hSw; (try dsimp only at hSw); ((try obtain ⟨hS0, hS1, hS2, hS3⟩ := hSw); go_simp); (try with_reducible rfl))
          simp only [Act.put, stB, stZ, stS]
          refine tk 26 (some 38) (v := ?_) rfl rfl ?_ ?_
          rotate_left
          · (intro w _; go_simp; (try with_reducible rfl))
          simp only [Act.put, stB, stZ, stS]
          refine tk 27 (some 39) (v := ?_) rfl rfl ?_ ?_
          rotate_left
          · (intro w _; go_simp; (try with_reducible rfl))
          simp only [Act.put, stB, stZ, stS]
          refine tk 28 (some 40) (v := ?_) rfl rfl ?_ ?_
          rotate_left
          · (intro w _; go_simp; (try with_reducible rfl))
          simp only [Act.put, stB, stZ, stS]
          refine tk 29 (some 41) (v := ?_) rfl rfl ?_ ?_
          rotate_left
          · (intro w _; go_simp; (try with_reducible rfl))
          simp only [Act.put, stB, stZ, stS]
          refine tk 30 (some 42) (v := ?_) rfl rfl ?_ ?_
          rotate_left
          · (intro w _; go_simp; (try with_reducible rfl))
          simp only [Act.put, stB, stZ, stS]
          refine tk 31 (some 43) (v := ?_) rfl rfl ?_ ?_
          rotate_left
          · (intro w hSw; (try dsimp only at hSw); ((try obtain ⟨hS0, hS1, hS2, hS3⟩ := hSw); go_simp); (try with_reducible rfl))
          simp only [Act.put, stB, stZ, stS]
          refine tk 32 (some 44) (v := ?_) rfl rfl ?_ ?_
          rotate_left
          · (intro w _; go_simp; (try with_reducible rfl))
          simp only [Act.put, stB, stZ, stS]
          refine tk 33 (some 45) (v := ?_) rfl rfl ?_ ?_
          rotate_left
          · (intro w _; go_simp; (try with_reducible rfl))
          simp only [Act.put, stB, stZ, stS]
          refine wpAnyH_ready (rs := [34]) (by as_aux_lemma => kernel_rfl) (by simp) ?_
          refine (AllReadyH.cons (o := { dst := some 46, op := Op.nilCheck (Operand.tmp 45), type := 0, pos := "law.go:115", after := #[{ on := 33, ground := Ground.data }, { on := 29, ground := Ground.guard }], guard := some (29, false) }) rfl (fun K hK => ?_) AllReadyH.nil)
          go_simp
          refine hK.out _ _ (hHeld) (fun hHeld2 => ?_)
          clear hK K hHeld
          rename _ => hHeld
          try simp only [Act.put, stB, stZ, stS]
          refine tk 35 (some 47) (v := ?_) rfl rfl ?_ ?_
          rotate_left
          · (intro w _; go_simp; (try with_reducible rfl))
          simp only [Act.put, stB, stZ, stS]
          refine tk 36 (some 48) (v := ?_) rfl rfl ?_ ?_
          rotate_left
          · (intro w hSw; (try dsimp only at hSw); ((try obtain ⟨hS0, hS1, hS2, hS3⟩ := hSw); go_simp); (try with_reducible rfl))
          simp only [Act.put, stB, stZ, stS]
          refine tk 37 (some 49) (v := ?_) rfl rfl ?_ ?_
          rotate_left
          · (intro w _; go_simp; (try with_reducible rfl))
          simp only [Act.put, stB, stZ, stS]
          refine tk 38 (some 50) (v := ?_) rfl rfl ?_ ?_
          rotate_left
          · (intro w _; go_simp; (try with_reducible rfl))
          simp only [Act.put, stB, stZ, stS]
          refine tk 39 (some 51) (v := ?_) rfl rfl ?_ ?_
          rotate_left
          · (intro w _; go_simp; (try with_reducible rfl))
          simp only [Act.put, stB, stZ, stS]
          refine wpAnyH_done (by as_aux_lemma => kernel_rfl) ?_ _
          (try simp only [Exit.inBlock, Exit.then])
          clear hHeld
          go_wp2_with fail
          go_meet
          exact ⟨rfl, HB.out⟩
      · skip
        go_simp
        refine hK.out _ _ (hHeld) (fun hHeld2 => ?_)
        clear hK K hHeld
        rename _ => hHeld
        try simp only [Act.put, stB, stZ, stS]
        refine tk 4 (some 16) (v := ?_) rfl rfl ?_ ?_
        rotate_left
        · (intro w _; go_simp; (try with_reducible rfl))
        simp only [Act.put, stB, stZ, stS]
        refine tk 5 (some 17) (v := ?_) rfl rfl ?_ ?_
        rotate_left
        · (intro w hSw; (try dsimp only at hSw); ((try obtain ⟨hS0, hS1, hS2, hS3⟩ := hSw); go_simp); (try with_reducible rfl))
        simp only [Act.put, stB, stZ, stS]
        refine wpAnyH_ready (rs := [1]) (by as_aux_lemma => kernel_rfl) (by simp) ?_
        refine (AllReadyH.cons (o := { dst := some 13, op := Op.call { callee := Callee.value (Operand.func 13), args := #[Operand.tmp 12], argTypes := #[24] }, type := 27, pos := "law.go:115", after := #[{ on := 0, ground := Ground.data }], guard := none }) rfl (fun K hK => ?_) AllReadyH.nil)
        go_simp
        refine (as_rows (HSA.out.below HB.out) HW.out).mono ?_
        rintro e V1 ⟨an, cn, rfl, hm, hb⟩
        have HMN := Lib.hid (Sl.ofMid hm)
        clear hm
        replace HB := Lib.hid (HB.out.trans (hb.mono HB.out.size))
        have hKK := And.intro (hu hb hHeld.1) <| And.intro (hu hb hHeld.2.1) <| And.intro (hu hb hHeld.2.2.1) <| hu hb hHeld.2.2.2
        clear hb
        refine hK.out _ _ (hKK) (fun hHeld2 => ?_)
        clear hK K hHeld
        rename _ => hHeld
        try simp only [Act.put, stB, stZ, stS]
        refine wpAnyH_ready (rs := [6]) (by as_aux_lemma => kernel_rfl) (by simp) ?_
        refine (AllReadyH.cons (o := { dst := some 18, op := Op.call { callee := Callee.value (Operand.func 33), args := #[Operand.tmp 13, Operand.tmp 17], argTypes := #[27, 27] }, type := 4, pos := "law.go:115", after := #[{ on := 1, ground := Ground.data }, { on := 5, ground := Ground.data }, { on := 1, ground := Ground.chain }], guard := none }) rfl (fun K hK => ?_) AllReadyH.nil)
        go_simp
        refine (ints_any an h.a0 cn h.c0 s.rids m.rows _ HMN.out (RBx.sl0 (HQ.out _ HB.out))).mono ?_
        rintro e V2 ⟨rfl, hb⟩
        rw [decide_eq_true (show s.rids = m.rows from HCO.out.rows.symm)]
        clear HMN
        replace HB := Lib.hid (HB.out.trans (hb.mono HB.out.size))
        have hKK := And.intro (hu hb hHeld.1) <| And.intro (hu hb hHeld.2.1) <| And.intro (hu hb hHeld.2.2.1) <| hu hb hHeld.2.2.2
        clear hb
        refine hK.out _ _ (hKK) (fun hHeld2 => ?_)
        clear hK K hHeld
        rename _ => hHeld
        try simp only [Act.put, stB, stZ, stS]
        refine tk 7 (some 19) (v := ?_) rfl rfl ?_ ?_
        rotate_left
        · (intro w _; go_simp; (try with_reducible rfl))
        simp only [Act.put, stB, stZ, stS]
        refine tk 8 (some 20) (v := ?_) rfl rfl ?_ ?_
        rotate_left
        · (intro w _; go_simp; (try with_reducible rfl))
        simp only [Act.put, stB, stZ, stS]
        refine tk 9 (some 21) (v := ?_) rfl rfl ?_ ?_
        rotate_left
        · (intro w _; go_simp; (try with_reducible rfl))
        simp only [Act.put, stB, stZ, stS]
        refine tk 11 (some 23) (v := ?_) rfl rfl ?_ ?_
        rotate_left
        · (intro w _; go_simp; (try with_reducible rfl))
        simp only [Act.put, stB, stZ, stS]
        refine wpAnyH_ready (rs := [10, 12]) (by as_aux_lemma => kernel_rfl) (by simp) ?_
        refine (AllReadyH.cons (o := { dst := some 22, op := Op.call { callee := Callee.value (Operand.func 14), args := #[Operand.tmp 21], argTypes := #[24] }, type := 27, pos := "law.go:115", after := #[{ on := 9, ground := Ground.data }, { on := 8, ground := Ground.chain }, { on := 8, ground := Ground.guard }], guard := some (8, false) }) rfl (fun K hK => ?_) (AllReadyH.cons (o := { dst := some 24, op := Op.nilCheck (Operand.tmp 23), type := 0, pos := "law.go:115", after := #[{ on := 11, ground := Ground.data }, { on := 8, ground := Ground.guard }], guard := some (8, false) }) rfl (fun K hK => ?_) AllReadyH.nil))
        · skip
          go_simp
          refine (as_cols (HSA.out.below HB.out) HW.out).mono ?_
          rintro e V3 ⟨an, cn, rfl, hm, hb⟩
          have HMN := Lib.hid (Sl.ofMid hm)
          clear hm
          replace HB := Lib.hid (HB.out.trans (hb.mono HB.out.size))
          have hKK := And.intro (hu hb hHeld.1) <| And.intro (hu hb hHeld.2.1) <| And.intro (hu hb hHeld.2.2.1) <| hu hb hHeld.2.2.2
          clear hb
          refine hK.out _ _ (hKK) (fun hHeld2 => ?_)
          clear hK K hHeld
          rename _ => hHeld
          try simp only [Act.put, stB, stZ, stS]
          refine wpAnyH_ready (rs := [12]) (by as_aux_lemma => kernel_rfl) (by simp) ?_
          refine (AllReadyH.cons (o := { dst := some 24, op := Op.nilCheck (Operand.tmp 23), type := 0, pos := "law.go:115", after := #[{ on := 11, ground := Ground.data }, { on := 8, ground := Ground.guard }], guard := some (8, false) }) rfl (fun K hK => ?_) AllReadyH.nil)
          go_simp
          refine hK.out _ _ (hHeld) (fun hHeld2 => ?_)
          clear hK K hHeld
          rename _ => hHeld
          try simp only [Act.put, stB, stZ, stS]
          refine tk 13 (some 25) (v := ?_) rfl rfl ?_ ?_
          rotate_left
          · (intro w _; go_simp; (try with_reducible rfl))
          simp only [Act.put, stB, stZ, stS]
          refine tk 14 (some 26) (v := ?_) rfl rfl ?_ ?_
          rotate_left
          · (intro w hSw; (try dsimp only at hSw); ((try obtain ⟨hS0, hS1, hS2, hS3⟩ := hSw); go_simp); (try with_reducible rfl))
          simp only [Act.put, stB, stZ, stS]
          refine wpAnyH_ready (rs := [15]) (by as_aux_lemma => kernel_rfl) (by simp) ?_
          refine (AllReadyH.cons (o := { dst := some 27, op := Op.call { callee := Callee.value (Operand.func 33), args := #[Operand.tmp 22, Operand.tmp 26], argTypes := #[27, 27] }, type := 4, pos := "law.go:115", after := #[{ on := 10, ground := Ground.data }, { on := 14, ground := Ground.data }, { on := 10, ground := Ground.chain }, { on := 8, ground := Ground.guard }], guard := some (8, false) }) rfl (fun K hK => ?_) AllReadyH.nil)
          go_simp
          refine (ints_any an h.a1 cn h.c1 s.cids m.cols _ HMN.out (RBx.sl1 (HQ.out _ HB.out))).mono ?_
          rintro e V4 ⟨rfl, hb⟩
          rw [decide_eq_true (show s.cids = m.cols from HCO.out.cols.symm)]
          clear HMN
          replace HB := Lib.hid (HB.out.trans (hb.mono HB.out.size))
          have hKK := And.intro (hu hb hHeld.1) <| And.intro (hu hb hHeld.2.1) <| And.intro (hu hb hHeld.2.2.1) <| hu hb hHeld.2.2.2
          clear hb
          refine hK.out _ _ (hKK) (fun hHeld2 => ?_)
          clear hK K hHeld
          rename _ => hHeld
          try simp only [Act.put, stB, stZ, stS]
          refine tk 16 (some 28) (v := ?_) rfl rfl ?_ ?_
          rotate_left
          · (intro w _; go_simp; (try with_reducible rfl))
          simp only [Act.put, stB, stZ, stS]
          refine tk 17 (some 29) (v := ?_) rfl rfl ?_ ?_
          rotate_left
          · (intro w _; go_simp; (try with_reducible rfl))
          simp only [Act.put, stB, stZ, stS]
          refine tk 18 (some 30) (v := ?_) rfl rfl ?_ ?_
          rotate_left
          · (intro w _; go_simp; (try with_reducible rfl))
          simp only [Act.put, stB, stZ, stS]
          refine tk 19 (some 31) (v := ?_) rfl rfl ?_ ?_
          rotate_left
          · (intro w _; go_simp; (try with_reducible rfl))
          simp only [Act.put, stB, stZ, stS]
          refine tk 20 (some 32) (v := ?_) rfl rfl ?_ ?_
          rotate_left
          · (intro w hSw; (try dsimp only at hSw); ((try obtain ⟨hS0, hS1, hS2, hS3⟩ := hSw); go_simp); (try with_reducible rfl))
          simp only [Act.put, stB, stZ, stS]
          refine tk 21 (some 33) (v := ?_) rfl rfl ?_ ?_
          rotate_left
          · (intro w _; go_simp; (try with_reducible rfl))
          simp only [Act.put, stB, stZ, stS]
          refine tk 22 (some 34) (v := ?_) rfl rfl ?_ ?_
          rotate_left
          · (intro w _; go_simp; (try with_reducible rfl))
          simp only [Act.put, stB, stZ, stS]
          refine wpAnyH_ready (rs := [23]) (by as_aux_lemma => kernel_rfl) (by simp) ?_
          refine (AllReadyH.cons (o := { dst := some 35, op := Op.nilCheck (Operand.tmp 34), type := 0, pos := "law.go:115", after := #[{ on := 22, ground := Ground.data }, { on := 18, ground := Ground.guard }], guard := some (18, false) }) rfl (fun K hK => ?_) AllReadyH.nil)
          go_simp
          refine hK.out _ _ (hHeld) (fun hHeld2 => ?_)
          clear hK K hHeld
          rename _ => hHeld
          try simp only [Act.put, stB, stZ, stS]
          refine tk 24 (some 36) (v := ?_) rfl rfl ?_ ?_
          rotate_left
          · (intro w _; go_simp; (try with_reducible rfl))
          simp only [Act.put, stB, stZ, stS]
          refine tk 25 (some 37) (v := ?_) rfl rfl ?_ ?_
          rotate_left
          · (intro w hSw; (try dsimp only at hSw); ((try obtain ⟨hS0, hS1, hS2, hS3⟩ := hSw); go_simp); (try with_reducible rfl))
          simp only [Act.put, stB, stZ, stS]
          refine tk 26 (some 38) (v := ?_) rfl rfl ?_ ?_
          rotate_left
          · (intro w _; go_simp; (try with_reducible rfl))
          simp only [Act.put, stB, stZ, stS]
          refine tk 27 (some 39) (v := ?_) rfl rfl ?_ ?_
          rotate_left
          · (intro w _; go_simp; (try with_reducible rfl))
          simp only [Act.put, stB, stZ, stS]
          refine tk 28 (some 40) (v := ?_) rfl rfl ?_ ?_
          rotate_left
          · (intro w _; go_simp; (try with_reducible rfl))
          simp only [Act.put, stB, stZ, stS]
          refine tk 29 (some 41) (v := ?_) rfl rfl ?_ ?_
          rotate_left
          · (intro w _; go_simp; (try with_reducible rfl))
          simp only [Act.put, stB, stZ, stS]
          refine tk 30 (some 42) (v := ?_) rfl rfl ?_ ?_
          rotate_left
          · (intro w _; go_simp; (try with_reducible rfl))
          simp only [Act.put, stB, stZ, stS]
          refine tk 31 (some 43) (v := ?_) rfl rfl ?_ ?_
          rotate_left
          · (intro w hSw; (try dsimp only at hSw); ((try obtain ⟨hS0, hS1, hS2, hS3⟩ := hSw); go_simp); (try with_reducible rfl))
          simp only [Act.put, stB, stZ, stS]
          refine tk 32 (some 44) (v := ?_) rfl rfl ?_ ?_
          rotate_left
          · (intro w _; go_simp; (try with_reducible rfl))
          simp only [Act.put, stB, stZ, stS]
          refine tk 33 (some 45) (v := ?_) rfl rfl ?_ ?_
          rotate_left
          · (intro w _; go_simp; (try with_reducible rfl))
          simp only [Act.put, stB, stZ, stS]
          refine wpAnyH_ready (rs := [34]) (by as_aux_lemma => kernel_rfl) (by simp) ?_
          refine (AllReadyH.cons (o := { dst := some 46, op := Op.nilCheck (Operand.tmp 45), type := 0, pos := "law.go:115", after := #[{ on := 33, ground := Ground.data }, { on := 29, ground := Ground.guard }], guard := some (29, false) }) rfl (fun K hK => ?_) AllReadyH.nil)
          go_simp
          refine hK.out _ _ (hHeld) (fun hHeld2 => ?_)
          clear hK K hHeld
          rename _ => hHeld
          try simp only [Act.put, stB, stZ, stS]
          refine tk 35 (some 47) (v := ?_) rfl rfl ?_ ?_
          rotate_left
          · (intro w _; go_simp; (try with_reducible rfl))
          simp only [Act.put, stB, stZ, stS]
          refine tk 36 (some 48) (v := ?_) rfl rfl ?_ ?_
          rotate_left
          · (intro w hSw; (try dsimp only at hSw); ((try obtain ⟨hS0, hS1, hS2, hS3⟩ := hSw); go_simp); (try with_reducible rfl))
          simp only [Act.put, stB, stZ, stS]
          refine tk 37 (some 49) (v := ?_) rfl rfl ?_ ?_
          rotate_left
          · (intro w _; go_simp; (try with_reducible rfl))
          simp only [Act.put, stB, stZ, stS]
          refine tk 38 (some 50) (v := ?_) rfl rfl ?_ ?_
          rotate_left
          · (intro w _; go_simp; (try with_reducible rfl))
          simp only [Act.put, stB, stZ, stS]
          refine tk 39 (some 51) (v := ?_) rfl rfl ?_ ?_
          rotate_left
          · (intro w _; go_simp; (try with_reducible rfl))
          simp only [Act.put, stB, stZ, stS]
          refine wpAnyH_done (by as_aux_lemma => kernel_rfl) ?_ _
          (try simp only [Exit.inBlock, Exit.then])
          clear hHeld
          go_wp2_with fail
          go_meet
          exact ⟨rfl, HB.out⟩
        · skip
          go_simp
          refine hK.out _ _ (hHeld) (fun hHeld2 => ?_)
          clear hK K hHeld
          rename _ => hHeld
          try simp only [Act.put, stB, stZ, stS]
          refine tk 13 (some 25) (v := ?_) rfl rfl ?_ ?_
          rotate_left
          · (intro w _; go_simp; (try with_reducible rfl))
          simp only [Act.put, stB, stZ, stS]
          refine tk 14 (some 26) (v := ?_) rfl rfl ?_ ?_
          rotate_left
          · (intro w hSw; (try dsimp only at hSw); ((try obtain ⟨hS0, hS1, hS2, hS3⟩ := hSw); go_simp); (try with_reducible rfl))
          simp only [Act.put, stB, stZ, stS]
          refine wpAnyH_ready (rs := [10]) (by as_aux_lemma => kernel_rfl) (by simp) ?_
          refine (AllReadyH.cons (o := { dst := some 22, op := Op.call { callee := Callee.value (Operand.func 14), args := #[Operand.tmp 21], argTypes := #[24] }, type := 27, pos := "law.go:115", after := #[{ on := 9, ground := Ground.data }, { on := 8, ground := Ground.chain }, { on := 8, ground := Ground.guard }], guard := some (8, false) }) rfl (fun K hK => ?_) AllReadyH.nil)
          go_simp
          refine (as_cols (HSA.out.below HB.out) HW.out).mono ?_
          rintro e V3 ⟨an, cn, rfl, hm, hb⟩
          have HMN := Lib.hid (Sl.ofMid hm)
          clear hm
          replace HB := Lib.hid (HB.out.trans (hb.mono HB.out.size))
          have hKK := And.intro (hu hb hHeld.1) <| And.intro (hu hb hHeld.2.1) <| And.intro (hu hb hHeld.2.2.1) <| hu hb hHeld.2.2.2
          clear hb
          refine hK.out _ _ (hKK) (fun hHeld2 => ?_)
          clear hK K hHeld
          rename _ => hHeld
          try simp only [Act.put, stB, stZ, stS]
          refine wpAnyH_ready (rs := [15]) (by as_aux_lemma => kernel_rfl) (by simp) ?_
          refine (AllReadyH.cons (o := { dst := some 27, op := Op.call { callee := Callee.value (Operand.func 33), args := #[Operand.tmp 22, Operand.tmp 26], argTypes := #[27, 27] }, type := 4, pos := "law.go:115", after := #[{ on := 10, ground := Ground.data }, { on := 14, ground := Ground.data }, { on := 10, ground := Ground.chain }, { on := 8, ground := Ground.guard }], guard := some (8, false) }) rfl (fun K hK => ?_) AllReadyH.nil)
          go_simp
          refine (ints_any an h.a1 cn h.c1 s.cids m.cols _ HMN.out (RBx.sl1 (HQ.out _ HB.out))).mono ?_
          rintro e V4 ⟨rfl, hb⟩
          rw [decide_eq_true (show s.cids = m.cols from HCO.out.cols.symm)]
          clear HMN
          replace HB := Lib.hid (HB.out.trans (hb.mono HB.out.size))
          have hKK := And.intro (hu hb hHeld.1) <| And.intro (hu hb hHeld.2.1) <| And.intro (hu hb hHeld.2.2.1) <| hu hb hHeld.2.2.2
          clear hb
          refine hK.out _ _ (hKK) (fun hHeld2 => ?_)
          clear hK K hHeld
          rename _ => hHeld
          try simp only [Act.put, stB, stZ, stS]
          refine tk 16 (some 28) (v := ?_) rfl rfl ?_ ?_
          rotate_left
          · (intro w _; go_simp; (try with_reducible rfl))
          simp only [Act.put, stB, stZ, stS]
          refine tk 17 (some 29) (v := ?_) rfl rfl ?_ ?_
          rotate_left
          · (intro w _; go_simp; (try with_reducible rfl))
          simp only [Act.put, stB, stZ, stS]
          refine tk 18 (some 30) (v := ?_) rfl rfl ?_ ?_
          rotate_left
          · (intro w _; go_simp; (try with_reducible rfl))
          simp only [Act.put, stB, stZ, stS]
          refine tk 19 (some 31) (v := ?_) rfl rfl ?_ ?_
          rotate_left
          · (intro w _; go_simp; (try with_reducible rfl))
          simp only [Act.put, stB, stZ, stS]
          refine tk 20 (some 32) (v := ?_) rfl rfl ?_ ?_
          rotate_left
          · (intro w hSw; (try dsimp only at hSw); ((try obtain ⟨hS0, hS1, hS2, hS3⟩ := hSw); go_simp); (try with_reducible rfl))
          simp only [Act.put, stB, stZ, stS]
          refine tk 21 (some 33) (v := ?_) rfl rfl ?_ ?_
          rotate_left
          · (intro w _; go_simp; (try with_reducible rfl))
          simp only [Act.put, stB, stZ, stS]
          refine tk 22 (some 34) (v := ?_) rfl rfl ?_ ?_
          rotate_left
          · (intro w _; go_simp; (try with_reducible rfl))
          simp only [Act.put, stB, stZ, stS]
          refine wpAnyH_ready (rs := [23]) (by as_aux_lemma => kernel_rfl) (by simp) ?_
          refine (AllReadyH.cons (o := { dst := some 35, op := Op.nilCheck (Operand.tmp 34), type := 0, pos := "law.go:115", after := #[{ on := 22, ground := Ground.data }, { on := 18, ground := Ground.guard }], guard := some (18, false) }) rfl (fun K hK => ?_) AllReadyH.nil)
          go_simp
          refine hK.out _ _ (hHeld) (fun hHeld2 => ?_)
          clear hK K hHeld
          rename _ => hHeld
          try simp only [Act.put, stB, stZ, stS]
          refine tk 24 (some 36) (v := ?_) rfl rfl ?_ ?_
          rotate_left
          · (intro w _; go_simp; (try with_reducible rfl))
          simp only [Act.put, stB, stZ, stS]
          refine tk 25 (some 37) (v := ?_) rfl rfl ?_ ?_
          rotate_left
          · (intro w hSw; (try dsimp only at hSw); ((try obtain ⟨hS0, hS1, hS2, hS3⟩ := hSw); go_simp); (try with_reducible rfl))
          simp only [Act.put, stB, stZ, stS]
          refine tk 26 (some 38) (v := ?_) rfl rfl ?_ ?_
          rotate_left
          · (intro w _; go_simp; (try with_reducible rfl))
          simp only [Act.put, stB, stZ, stS]
          refine tk 27 (some 39) (v := ?_) rfl rfl ?_ ?_
          rotate_left
          · (intro w _; go_simp; (try with_reducible rfl))
          simp only [Act.put, stB, stZ, stS]
          refine tk 28 (some 40) (v := ?_) rfl rfl ?_ ?_
          rotate_left
          · (intro w _; go_simp; (try with_reducible rfl))
          simp only [Act.put, stB, stZ, stS]
          refine tk 29 (some 41) (v := ?_) rfl rfl ?_ ?_
          rotate_left
          · (intro w _; go_simp; (try with_reducible rfl))
          simp only [Act.put, stB, stZ, stS]
          refine tk 30 (some 42) (v := ?_) rfl rfl ?_ ?_
          rotate_left
          · (intro w _; go_simp; (try with_reducible rfl))
          simp only [Act.put, stB, stZ, stS]
          refine tk 31 (some 43) (v := ?_) rfl rfl ?_ ?_
          rotate_left
          · (intro w hSw; (try dsimp only at hSw); ((try obtain ⟨hS0, hS1, hS2, hS3⟩ := hSw); go_simp); (try with_reducible rfl))
          simp only [Act.put, stB, stZ, stS]
          refine tk 32 (some 44) (v := ?_) rfl rfl ?_ ?_
          rotate_left
          · (intro w _; go_simp; (try with_reducible rfl))
          simp only [Act.put, stB, stZ, stS]
          refine tk 33 (some 45) (v := ?_) rfl rfl ?_ ?_
          rotate_left
          · (intro w _; go_simp; (try with_reducible rfl))
          simp only [Act.put, stB, stZ, stS]
          refine wpAnyH_ready (rs := [34]) (by as_aux_lemma => kernel_rfl) (by simp) ?_
          refine (AllReadyH.cons (o := { dst := some 46, op := Op.nilCheck (Operand.tmp 45), type := 0, pos := "law.go:115", after := #[{ on := 33, ground := Ground.data }, { on := 29, ground := Ground.guard }], guard := some (29, false) }) rfl (fun K hK => ?_) AllReadyH.nil)
          go_simp
          refine hK.out _ _ (hHeld) (fun hHeld2 => ?_)
          clear hK K hHeld
          rename _ => hHeld
          try simp only [Act.put, stB, stZ, stS]
          refine tk 35 (some 47) (v := ?_) rfl rfl ?_ ?_
          rotate_left
          · (intro w _; go_simp; (try with_reducible rfl))
          simp only [Act.put, stB, stZ, stS]
          refine tk 36 (some 48) (v := ?_) rfl rfl ?_ ?_
          rotate_left
          · (intro w hSw; (try dsimp only at hSw); ((try obtain ⟨hS0, hS1, hS2, hS3⟩ := hSw); go_simp); (try with_reducible rfl))
          simp only [Act.put, stB, stZ, stS]
          refine tk 37 (some 49) (v := ?_) rfl rfl ?_ ?_
          rotate_left
          · (intro w _; go_simp; (try with_reducible rfl))
          simp only [Act.put, stB, stZ, stS]
          refine tk 38 (some 50) (v := ?_) rfl rfl ?_ ?_
          rotate_left
          · (intro w _; go_simp; (try with_reducible rfl))
          simp only [Act.put, stB, stZ, stS]
          refine tk 39 (some 51) (v := ?_) rfl rfl ?_ ?_
          rotate_left
          · (intro w _; go_simp; (try with_reducible rfl))
          simp only [Act.put, stB, stZ, stS]
          refine wpAnyH_done (by as_aux_lemma => kernel_rfl) ?_ _
          (try simp only [Exit.inBlock, Exit.then])
          clear hHeld
          go_wp2_with fail
          go_meet
          exact ⟨rfl, HB.out⟩
  case rest =>
    obtain ⟨w3, hwc⟩ : ∃ W : World, W = wc := ⟨_, rfl⟩
    subst hwc
    obtain ⟨rfl, hb3⟩ := hcut
    have HB := Lib.hid hb3
    clear hb3 c0 c1 hne1 hne2
    go_wp2_with fail
    go_loopw [6, 7] (fun bv jv wr => ∃ j : Nat, j ≤ m.cols.length ∧ jv = .int .i64 j ∧ bv = .int .i64 ((sumR ((s.cols.map (·.cost)).take j) : Nat) : Int) ∧ Below w2.heap.size w2 wr) (fun _ jv _ => m.cols.length - (intOf jv).toNat)
    case atStart => exact ⟨0, Nat.zero_le _, rfl, by rw [List.take_zero]; rfl, HB.out⟩
    case round =>
      obtain ⟨j, hj, rfl, rfl, hb⟩ := hrel
      have HB := Lib.hid hb
      have hd1 := RBx.c1 (HQ.out _ hb)
      by_cases hlt : j < m.cols.length
      · have hjc : j < cs.length := by rw [HLC.out]; exact hlt
        have hjm : j < m.costs.length := by rw [HMO.out]; exact hlt
        obtain ⟨b1, o1, e1, _, x1, x2, x3⟩ := rv_get (HP.out.below hb).costs j hjc
        obtain ⟨b2, o2, e2, _, y1, y2⟩ := pair_get (RBx.sl4 (HQ.out _ hb)) j hjm hjm
        obtain ⟨v1, hv1⟩ : ∃ v, v = cs[j] := ⟨_, rfl⟩
        rw [← hv1] at x1 x2 x3
        have hv1m : v1 ∈ cs := by rw [hv1]; exact List.getElem_mem hjc
        obtain ⟨⟨vp, vd⟩, hvv⟩ : ∃ v, m.costs[j] = v := ⟨_, rfl⟩
        rw [hvv] at y1 y2
        dsimp only at y1 y2
        have HV := Lib.hid (show V64 (vp, vd) by rw [← hvv]; exact HVO.out.costs _ (List.getElem_mem hjm))
        have HO1 := Lib.hid (fun (W : World) (hW : Below w2.heap.size w2 W) => ((HP.out.okc v1 hv1m).1.below hW : v1.ok W))
        have HS1 := Lib.hid (HP.out.okc v1 hv1m).2
        have hq1 : v1.q = (s.cols.map (·.cost))[j]'(by rw [← HP.out.clen]; exact hjc) := by
          rw [hv1]
          have h9 : (cs.map (·.q))[j]? = (s.cols.map (·.cost))[j]? := by rw [HP.out.cost]
          rw [List.getElem?_eq_getElem (by simpa using hjc), List.getElem?_eq_getElem (by rw [← HP.out.clen]; exact hjc), List.getElem_map] at h9
          exact Option.some.inj h9
        have HEQ := Lib.hid (show v1.q = fracQ (vp, vd) by
          rw [hq1, ← hvv]
          have h9 : (m.costs.map fracQ)[j]? = (s.cols.map (·.cost))[j]? := by rw [HCO.out.costs]
          rw [List.getElem?_eq_getElem (by simpa using hjm), List.getElem?_eq_getElem (by rw [← HP.out.clen]; exact hjc), List.getElem_map] at h9
          exact (Option.some.inj h9).symm)
        have hsum := sumR_take (s.cols.map (·.cost)) j (by rw [← HP.out.clen]; exact hjc)
        rw [← hq1] at hsum
        have hsb := sumR_le (s.cols.map (·.cost)) (j + 1) (fun q hq => by rw [← HP.out.cost] at hq; obtain ⟨v, hv, rfl⟩ := List.mem_map.1 hq; exact sizeQ_le (HP.out.okc v hv).2)
        have hj24 : j < 24 := by have := HMC.out; omega
        obtain ⟨SA1, hSA1⟩ : ∃ n, sumR ((s.cols.map (·.cost)).take j) = n := ⟨_, rfl⟩
        obtain ⟨SV1, hSV1⟩ : ∃ n, sizeQ v1.q = n := ⟨_, rfl⟩
        rw [hSA1, hSV1] at hsum
        rw [hsum] at hsb
        have HSUM := Lib.hid (show ((sumR ((s.cols.map (·.cost)).take (j + 1)) : Nat) : Int) = (SA1 : Int) + (SV1 : Int) by rw [hsum]; omega)
        have hwr : IntKind.i64.wrap ((SA1 : Int) + (SV1 : Int)) = (SA1 : Int) + (SV1 : Int) := by rw [IntKind.wrap_i64]; omega
        have x0 := (hb.cell (p := ⟨pb, 0, none⟩) hpl).trans p0
        have y0 := RBx.c4 (HQ.out _ hb)
        rw [e1] at x0
        rw [e2] at y0
        have j0 : (0 : Int) ≤ (j : Int) := by omega
        have j1 : (j : Int) < (cs.length : Int) := by omega
        have j2 : (j : Int) < (m.costs.length : Int) := by omega
        have j3 : (j : Int) < (m.cols.length : Int) := by omega
        rw [hSA1]
        clear hb hv1 hv1m hvv hq1 hsum hsb hSA1 e1 e2
        go_upto_region 8 with fail
        replace HB := Lib.hid (HB.out.trans ((Below.drawn _ 1).mono HB.out.size))
        as_aux_lemma =>
          refine wp_region_held_drew (S := fun W => W.cell? ⟨pb, 0, none⟩ = some (.slice (some ⟨b1, o1, none⟩) cs.length cc) ∧ W.cell? ⟨b1, o1 + j * 3, none⟩ = some (.bool v1.s) ∧ W.cell? ⟨b1, o1 + j * 3 + 1, none⟩ = some (.slice v1.a v1.l v1.c) ∧ W.cell? ⟨b1, o1 + j * 3 + 2, none⟩ = some (.slice v1.b v1.m v1.d) ∧ W.cell? ⟨rb, 4, none⟩ = some (.slice (some ⟨b2, o2, none⟩) m.costs.length h.c4) ∧ W.cell? ⟨b2, o2 + j * 2, none⟩ = some (.int .i64 vp) ∧ W.cell? ⟨b2, o2 + j * 2 + 1, none⟩ = some (.int .i64 vd)) (by as_aux_lemma => kernel_rfl) (⟨x0, x1, x2, x3, y0, y1, y2⟩) (fun hHeld => ?_)
          refine tk 0 (some 61) (v := ?_) rfl rfl ?_ ?_
          rotate_left
          · (intro w _; go_simp; (try with_reducible rfl))
          simp only [Act.put, stB, stZ, stS]
          refine tk 1 (some 62) (v := ?_) rfl rfl ?_ ?_
          rotate_left
          · (intro w hSw; (try dsimp only at hSw); ((try obtain ⟨hS0, hS1, hS2, hS3, hS4, hS5, hS6⟩ := hSw); go_simp); (try with_reducible rfl))
          simp only [Act.put, stB, stZ, stS]
          refine tk 2 (some 63) (v := ?_) rfl rfl ?_ ?_
          rotate_left
          · (intro w _; go_simp; (try with_reducible rfl))
          simp only [Act.put, stB, stZ, stS]
          refine tk 3 (some 64) (v := ?_) rfl rfl ?_ ?_
          rotate_left
          · (intro w hSw; (try dsimp only at hSw); ((try obtain ⟨hS0, hS1, hS2, hS3, hS4, hS5, hS6⟩ := hSw); go_simp); (try with_reducible rfl))
          simp only [Act.put, stB, stZ, stS]
          refine tk 4 (some 65) (v := ?_) rfl rfl ?_ ?_
          rotate_left
          · (intro w hSw; (try dsimp only at hSw); ((try obtain ⟨hS0, hS1, hS2, hS3, hS4, hS5, hS6⟩ := hSw); go_simp); (try with_reducible rfl))
          simp only [Act.put, stB, stZ, stS]
          refine tk 5 (some 66) (v := ?_) rfl rfl ?_ ?_
          rotate_left
          · (intro w _; go_simp; (try with_reducible rfl))
          simp only [Act.put, stB, stZ, stS]
          refine tk 9 (some 70) (v := ?_) rfl rfl ?_ ?_
          rotate_left
          · (intro w _; go_simp; (try with_reducible rfl))
          simp only [Act.put, stB, stZ, stS]
          refine wpAnyH_ready (rs := [6]) (by as_aux_lemma => kernel_rfl) (by simp) ?_
          refine (AllReadyH.cons (o := { dst := some 67, op := Op.nilCheck (Operand.tmp 66), type := 0, pos := "law.go:120", after := #[{ on := 5, ground := Ground.data }], guard := none }) rfl (fun K hK => ?_) AllReadyH.nil)
          go_simp
          refine hK.out _ _ (hHeld) (fun hHeld2 => ?_)
          clear hK K hHeld
          rename _ => hHeld
          try simp only [Act.put, stB, stZ, stS]
          refine tk 7 (some 68) (v := ?_) rfl rfl ?_ ?_
          rotate_left
          · (intro w _; go_simp; (try with_reducible rfl))
          simp only [Act.put, stB, stZ, stS]
          refine tk 8 (some 69) (v := ?_) rfl rfl ?_ ?_
          rotate_left
          · (intro w hSw; (try dsimp only at hSw); ((try obtain ⟨hS0, hS1, hS2, hS3, hS4, hS5, hS6⟩ := hSw); go_simp); (try with_reducible rfl))
          simp only [Act.put, stB, stZ, stS]
          refine tk 10 (some 71) (v := ?_) rfl rfl ?_ ?_
          rotate_left
          · (intro w hSw; (try dsimp only at hSw); ((try obtain ⟨hS0, hS1, hS2, hS3, hS4, hS5, hS6⟩ := hSw); go_simp); (try with_reducible rfl))
          simp only [Act.put, stB, stZ, stS]
          refine tk 11 (some 72) (v := ?_) rfl rfl ?_ ?_
          rotate_left
          · (intro w hSw; (try dsimp only at hSw); ((try obtain ⟨hS0, hS1, hS2, hS3, hS4, hS5, hS6⟩ := hSw); go_simp); (try with_reducible rfl))
          simp only [Act.put, stB, stZ, stS]
          refine wpAnyH_ready (rs := [12]) (by as_aux_lemma => kernel_rfl) (by simp) ?_
          refine (AllReadyH.cons (o := { dst := some 73, op := Op.call { callee := Callee.value (Operand.func 64), args := #[Operand.tmp 72], argTypes := #[97] }, type := 51, pos := "law.go:120", after := #[{ on := 11, ground := Ground.data }], guard := none }) rfl (fun K hK => ?_) AllReadyH.nil)
          go_simp
          refine (one_any vp vd _ HV.out.1 HV.out.2).mono ?_
          rintro e V1 ⟨v2, rfl, ho2, hs2, hq2, hb⟩
          unfold Rv.val
          have HO2 := Lib.hid ho2
          have HS2 := Lib.hid hs2
          have HQ2 := Lib.hid hq2
          clear ho2 hs2 hq2
          replace HB := Lib.hid (HB.out.trans (hb.mono HB.out.size))
          have hKK := And.intro (hu hb hHeld.1) <| And.intro (hu hb hHeld.2.1) <| And.intro (hu hb hHeld.2.2.1) <| And.intro (hu hb hHeld.2.2.2.1) <| And.intro (hu hb hHeld.2.2.2.2.1) <| And.intro (hu hb hHeld.2.2.2.2.2.1) <| hu hb hHeld.2.2.2.2.2.2
          clear hb
          refine hK.out _ _ (hKK) (fun hHeld2 => ?_)
          clear hK K hHeld
          rename _ => hHeld
          try simp only [Act.put, stB, stZ, stS]
          refine wpAnyH_ready (rs := [13]) (by as_aux_lemma => kernel_rfl) (by simp) ?_
          refine (AllReadyH.cons (o := { dst := some 74, op := Op.call { callee := Callee.value (Operand.func 63), args := #[Operand.tmp 65, Operand.tmp 73], argTypes := #[51, 51] }, type := 4, pos := "law.go:120", after := #[{ on := 4, ground := Ground.data }, { on := 12, ground := Ground.data }, { on := 12, ground := Ground.chain }], guard := none }) rfl (fun K hK => ?_) AllReadyH.nil)
          go_simp
          refine (rv_same v1 v2 _ (HO1.out _ HB.out) HO2.out HS1.out HS2.out).mono ?_
          rintro e V2 ⟨rfl, hb⟩
          rw [decide_eq_true (show v1.q = v2.q from HEQ.out.trans HQ2.out.symm)]
          clear HO2 HS2 HQ2
          replace HB := Lib.hid (HB.out.trans (hb.mono HB.out.size))
          have hKK := And.intro (hu hb hHeld.1) <| And.intro (hu hb hHeld.2.1) <| And.intro (hu hb hHeld.2.2.1) <| And.intro (hu hb hHeld.2.2.2.1) <| And.intro (hu hb hHeld.2.2.2.2.1) <| And.intro (hu hb hHeld.2.2.2.2.2.1) <| hu hb hHeld.2.2.2.2.2.2
          clear hb
          refine hK.out _ _ (hKK) (fun hHeld2 => ?_)
          clear hK K hHeld
          rename _ => hHeld
          try simp only [Act.put, stB, stZ, stS]
          refine tk 14 (some 75) (v := ?_) rfl rfl ?_ ?_
          rotate_left
          · (intro w _; go_simp; (try with_reducible rfl))
          simp only [Act.put, stB, stZ, stS]
          refine wpAnyH_done (by as_aux_lemma => kernel_rfl) ?_ _
          (try simp only [Exit.inBlock, Exit.then])
          obtain ⟨g0, g1, g2, g3, g4, g5, g6⟩ := hHeld
          go_wp2_with fail
          refine (size2_any v1 _ (HO1.out _ HB.out) HS1.out).mono ?_
          rintro e w9 ⟨rfl, hb⟩
          have HB9 := Lib.hid (HB.out.trans (hb.mono HB.out.size))
          clear hb g0 g1 g2 g3 g4 g5 g6
          go_wp2_with fail
          go_roundw
          case rel => exact ⟨j + 1, by omega, by go_num, by rw [HSUM.out], HB9.out⟩
          case measure => simp [intOf]; omega
      · obtain rfl : j = m.cols.length := by omega
        have HTK := Lib.hid (show (s.cols.map (·.cost)).take m.cols.length = s.cols.map (·.cost) by rw [← HLC.out, HP.out.clen]; exact List.take_of_length_le (Nat.le_refl _))
        have hcb := sumR_le (s.cols.map (·.cost)) (s.cols.map (·.cost)).length (fun q hq => by rw [← HP.out.cost] at hq; obtain ⟨v, hv, rfl⟩ := List.mem_map.1 hq; exact sizeQ_le (HP.out.okc v hv).2)
        rw [List.take_of_length_le (Nat.le_refl _), ← HP.out.clen, HLC.out] at hcb
        rw [HTK.out]
        obtain ⟨C0, hC0⟩ : ∃ n, sumR (s.cols.map (·.cost)) = n := ⟨_, rfl⟩
        rw [hC0] at hcb ⊢
        have HC0 := Lib.hid (show C0 ≤ 192 * 24 by have := HMC.out; omega)
        have HCE := Lib.hid hC0
        clear hb hC0 hcb hlt hj
        go_wp2_with fail
        go_loopw [6, 8] (fun bv kv wr => ∃ k : Nat, k ≤ m.rows.length ∧ kv = .int .i64 k ∧ bv = .int .i64 ((C0 + sumAR (s.rows.take k) : Nat) : Int) ∧ Below w2.heap.size w2 wr) (fun _ kv _ => m.rows.length - (intOf kv).toNat)
        case atStart => exact ⟨0, Nat.zero_le _, rfl, by rw [List.take_zero]; rfl, HB.out⟩
        case round =>
          obtain ⟨k, hk, rfl, rfl, hb⟩ := hrel
          have HB := Lib.hid hb
          have hd0 := RBx.c0 (HQ.out _ hb)
          by_cases hlt : k < m.rows.length
          · have hltr : k < rows.length := by rw [HLRW.out]; exact hlt
            have hlts : k < s.rows.length := by rw [← HP.out.rlen]; exact hltr
            have hltk : k < m.kinds.length := by rw [HMK.out]; exact hlt
            have hlth : k < m.rhs.length := by rw [HMH.out]; exact hlt
            obtain ⟨b3, o3, e3, _, x1, x2, x3, x4, x5⟩ := prow_get (HP.out.below hb).rowsl k hltr
            obtain ⟨r, hr⟩ : ∃ r, r = rows[k] := ⟨_, rfl⟩
            rw [← hr] at x1 x2 x3 x4 x5
            have hrm : r ∈ rows := by rw [hr]; exact List.getElem_mem hltr
            have hra : r.ar = s.rows[k] := by
              have h9 : (rows.map Rw.ar)[k]? = s.rows[k]? := by rw [HP.out.rws]
              rw [List.getElem?_eq_getElem (by simpa using hltr), List.getElem?_eq_getElem hlts, List.getElem_map, ← hr] at h9
              exact Option.some.inj h9
            have hrs : s.rows[k] ∈ s.rows := List.getElem_mem hlts
            obtain ⟨b4, o4, e4, _, y1⟩ := int_get (RBx.sl2 (HQ.out _ hb)) k hltk hltk
            obtain ⟨b5, o5, e5, _, y3, y4⟩ := pair_get (RBx.sl3 (HQ.out _ hb)) k hlth hlth
            have hkd : m.kinds[k] = r.kind := by
              have h9 : m.kinds[k]? = (s.rows.map (·.kind))[k]? := by rw [HCO.out.kinds]
              rw [List.getElem?_eq_getElem hltk, List.getElem?_map, List.getElem?_eq_getElem hlts, ← hra] at h9
              exact Option.some.inj h9
            rw [hkd] at y1
            obtain ⟨⟨vp, vd⟩, hvv⟩ : ∃ v, m.rhs[k] = v := ⟨_, rfl⟩
            rw [hvv] at y3 y4
            dsimp only at y3 y4
            have HV := Lib.hid (show V64 (vp, vd) by rw [← hvv]; exact HVO.out.rhs _ (List.getElem_mem hlth))
            have HEQ := Lib.hid (show r.rhs.q = fracQ (vp, vd) by
              have h9 : (m.rhs.map fracQ)[k]? = (s.rows.map (·.rhs))[k]? := by rw [HCO.out.rhs]
              rw [List.getElem?_map, List.getElem?_map, List.getElem?_eq_getElem hlth, List.getElem?_eq_getElem hlts, ← hra, hvv] at h9
              exact (Option.some.inj h9).symm)
            obtain ⟨rj, rcp, erv, hrv⟩ := (HP.out.below hb).rvec hrm
            rw [erv] at x1
            have hrc : r.coef.length = m.cols.length := by
              have h9 := HW.out.len _ hrs
              rw [← hra] at h9
              rw [← HLC.out, HP.out.clen, List.length_map, ← h9]
              simp [Rw.ar]
            have HRC := Lib.hid hrc
            have HRR := Lib.hid hr
            have HRM := Lib.hid hrm
            have HRS := Lib.hid (HP.out.okr r hrm)
            have HO1 := Lib.hid (fun (W : World) (hW : Below w2.heap.size w2 W) => ((HP.out.okr r hrm).1.below hW : r.rhs.ok W))
            have HS1 := Lib.hid (HP.out.okr r hrm).2
            have HCF := Lib.hid (show ∀ j (hj : j < m.cols.length) (hjc : j < r.coef.length), r.coef[j].q = fracQ (findC m.rows[k] m.cols[j] m.cells) by
              intro j hj hjc
              have h9 := HCO.out.coef _ hrs
              rw [← hra] at h9
              have h8 : (r.coef.map (·.q))[j]? = (s.cols.map (fun c => fracQ (findC r.id c.id m.cells)))[j]? := by
                have : r.ar.coef = r.coef.map (·.q) := rfl
                rw [← this, h9]; rfl
              have hjs : j < s.cols.length := by rw [← List.length_map (f := fun c : AC => c.cost), ← HP.out.clen, HLC.out]; exact hj
              rw [List.getElem?_map, List.getElem?_map, List.getElem?_eq_getElem hjc, List.getElem?_eq_getElem hjs] at h8
              have h7 := Option.some.inj h8
              have hid : m.rows[k] = r.id := by
                have h6 : m.rows[k]? = s.rids[k]? := by rw [HCO.out.rows]
                rw [List.getElem?_eq_getElem hlt] at h6
                unfold AS.rids at h6
                rw [List.getElem?_map, List.getElem?_eq_getElem hlts, ← hra] at h6
                exact Option.some.inj h6
              have hcd : m.cols[j] = s.cols[j].id := by
                have h6 : m.cols[j]? = s.cids[j]? := by rw [HCO.out.cols]
                rw [List.getElem?_eq_getElem hj] at h6
                unfold AS.cids at h6
                rw [List.getElem?_map, List.getElem?_eq_getElem hjs] at h6
                exact Option.some.inj h6
              rw [hid, hcd]
              exact h7)
            have hsum := sumAR_take s.rows k hlts
            have hbk : s.rows[k].bits = sizeQ r.rhs.q + sumR (r.coef.map (·.q)) := by rw [← hra]; rfl
            have hsb := sumAR_le s.rows k (fun q hq => by
              rw [← HP.out.rws] at hq
              obtain ⟨r2, hr2, rfl⟩ := List.mem_map.1 hq
              have h1 := sizeQ_le (HP.out.okr r2 hr2).2
              have h2 := sumR_le (r2.coef.map (·.q)) (r2.coef.map (·.q)).length (fun q hq => by obtain ⟨v, hv, rfl⟩ := List.mem_map.1 hq; exact sizeQ_le (HP.out.okv r2 hr2 v hv).2)
              rw [List.take_of_length_le (Nat.le_refl _)] at h2
              have h3 := HW.out.len r2.ar (by rw [← HP.out.rws]; exact List.mem_map_of_mem hr2)
              have h4 := HW.out.cl
              have h5 : (r2.coef.map (·.q)).length = s.cols.length := h3
              show sizeQ r2.rhs.q + sumR (r2.coef.map (·.q)) ≤ 5000
              omega)
            have hk20 : k < 20 := by have := HW.out.rl; omega
            obtain ⟨B0, hB0⟩ : ∃ n, C0 + sumAR (s.rows.take k) = n := ⟨_, rfl⟩
            have HB0 := Lib.hid (show B0 ≤ 200000 by have := HC0.out; omega)
            have HSUM2 := Lib.hid (show ((C0 + sumAR (s.rows.take (k + 1)) : Nat) : Int) = ((B0 + sizeQ r.rhs.q + sumR (r.coef.map (·.q)) : Nat) : Int) by rw [hsum, hbk, ← hB0]; omega)
            have hszr := sizeQ_le HS1.out
            obtain ⟨SR1, hSR1⟩ : ∃ n, sizeQ r.rhs.q = n := ⟨_, rfl⟩
            rw [hSR1] at hszr
            have HSR := Lib.hid hSR1
            have hwr : IntKind.i64.wrap ((B0 : Int) + (SR1 : Int)) = (B0 : Int) + (SR1 : Int) := by rw [IntKind.wrap_i64]; have := HB0.out; omega
            have hkne : (r.kind != r.kind) = false := by simp
            have hcne : ((r.coef.length : Int) != (m.cols.length : Int)) = false := by rw [hrc]; simp
            have x0 := (hb.cell (p := ⟨pb, 1, none⟩) hpl).trans p1
            have y0 := RBx.c2 (HQ.out _ hb)
            have y2 := RBx.c3 (HQ.out _ hb)
            have y5 := RBx.c1 (HQ.out _ hb)
            rw [e3] at x0
            rw [e4] at y0
            rw [e5] at y2
            have i0 : (0 : Int) ≤ (k : Int) := by omega
            have i1 : (k : Int) < (rows.length : Int) := by omega
            have i2 : (k : Int) < (m.kinds.length : Int) := by omega
            have i3 : (k : Int) < (m.rhs.length : Int) := by omega
            have i4 : (k : Int) < (m.rows.length : Int) := by omega
            rw [hB0]
            clear hb hr hrm hra hrs hkd hvv erv hrv hrc hsum hbk hsb hB0 e3 e4 e5 hszr
            go_upto_region 14 with fail
            replace HB := Lib.hid (HB.out.trans ((Below.drawn _ 1).mono HB.out.size))
            as_aux_lemma =>
              refine wp_region_held_drew (S := fun W => W.cell? ⟨pb, 1, none⟩ = some (.slice (some ⟨b3, o3, none⟩) rows.length rc) ∧ W.cell? ⟨b3, o3 + k * 5, none⟩ = some (.slice rj r.coef.length rcp) ∧ W.cell? ⟨b3, o3 + k * 5 + 1, none⟩ = some (.int .i64 r.kind) ∧ W.cell? ⟨b3, o3 + k * 5 + 2, none⟩ = some (.bool r.rhs.s) ∧ W.cell? ⟨b3, o3 + k * 5 + 3, none⟩ = some (.slice r.rhs.a r.rhs.l r.rhs.c) ∧ W.cell? ⟨b3, o3 + k * 5 + 4, none⟩ = some (.slice r.rhs.b r.rhs.m r.rhs.d) ∧ W.cell? ⟨rb, 2, none⟩ = some (.slice (some ⟨b4, o4, none⟩) m.kinds.length h.c2) ∧ W.cell? ⟨b4, o4 + k, none⟩ = some (.int .i64 r.kind) ∧ W.cell? ⟨rb, 3, none⟩ = some (.slice (some ⟨b5, o5, none⟩) m.rhs.length h.c3) ∧ W.cell? ⟨b5, o5 + k * 2, none⟩ = some (.int .i64 vp) ∧ W.cell? ⟨b5, o5 + k * 2 + 1, none⟩ = some (.int .i64 vd) ∧ W.cell? ⟨rb, 1, none⟩ = some (.slice h.a1 m.cols.length h.c1)) (by as_aux_lemma => kernel_rfl) (⟨x0, x1, x2, x3, x4, x5, y0, y1, y2, y3, y4, y5⟩) (fun hHeld => ?_)
              refine tk 0 (some 93) (v := ?_) rfl rfl ?_ ?_
              rotate_left
              · (intro w _; go_simp; (try with_reducible rfl))
              simp only [Act.put, stB, stZ, stS]
              refine tk 1 (some 94) (v := ?_) rfl rfl ?_ ?_
              rotate_left
              · (intro w hSw; (try dsimp only at hSw); ((try obtain ⟨hS0, hS1, hS2, hS3, hS4, hS5, hS6, hS7, hS8, hS9, hS10, hS11⟩ := hSw); go_simp); (try with_reducible rfl))
              simp only [Act.put, stB, stZ, stS]
              refine tk 2 (some 95) (v := ?_) rfl rfl ?_ ?_
              rotate_left
              · (intro w _; go_simp; (try with_reducible rfl))
              simp only [Act.put, stB, stZ, stS]
              refine tk 3 (some 96) (v := ?_) rfl rfl ?_ ?_
              rotate_left
              · (intro w hSw; (try dsimp only at hSw); ((try obtain ⟨hS0, hS1, hS2, hS3, hS4, hS5, hS6, hS7, hS8, hS9, hS10, hS11⟩ := hSw); go_simp); (try with_reducible rfl))
              simp only [Act.put, stB, stZ, stS]
              refine tk 4 (some 97) (v := ?_) rfl rfl ?_ ?_
              rotate_left
              · (intro w _; go_simp; (try with_reducible rfl))
              simp only [Act.put, stB, stZ, stS]
              refine tk 5 (some 98) (v := ?_) rfl rfl ?_ ?_
              rotate_left
              · (intro w hSw; (try dsimp only at hSw); ((try obtain ⟨hS0, hS1, hS2, hS3, hS4, hS5, hS6, hS7, hS8, hS9, hS10, hS11⟩ := hSw); go_simp); (try with_reducible rfl))
              simp only [Act.put, stB, stZ, stS]
              refine tk 6 (some 99) (v := ?_) rfl rfl ?_ ?_
              rotate_left
              · (intro w _; go_simp; (try with_reducible rfl))
              simp only [Act.put, stB, stZ, stS]
              refine tk 10 (some 103) (v := ?_) rfl rfl ?_ ?_
              rotate_left
              · (intro w _; go_simp; (try with_reducible rfl))
              simp only [Act.put, stB, stZ, stS]
              refine wpAnyH_ready (rs := [7]) (by as_aux_lemma => kernel_rfl) (by simp) ?_
              refine (AllReadyH.cons (o := { dst := some 100, op := Op.nilCheck (Operand.tmp 99), type := 0, pos := "law.go:126", after := #[{ on := 6, ground := Ground.data }], guard := none }) rfl (fun K hK => ?_) AllReadyH.nil)
              go_simp
              refine hK.out _ _ (hHeld) (fun hHeld2 => ?_)
              clear hK K hHeld
              rename _ => hHeld
              try simp only [Act.put, stB, stZ, stS]
              refine tk 8 (some 101) (v := ?_) rfl rfl ?_ ?_
              rotate_left
              · (intro w _; go_simp; (try with_reducible rfl))
              simp only [Act.put, stB, stZ, stS]
              refine tk 9 (some 102) (v := ?_) rfl rfl ?_ ?_
              rotate_left
              · (intro w hSw; (try dsimp only at hSw); ((try obtain ⟨hS0, hS1, hS2, hS3, hS4, hS5, hS6, hS7, hS8, hS9, hS10, hS11⟩ := hSw); go_simp); (try with_reducible rfl))
              simp only [Act.put, stB, stZ, stS]
              refine tk 11 (some 104) (v := ?_) rfl rfl ?_ ?_
              rotate_left
              · (intro w hSw; (try dsimp only at hSw); ((try obtain ⟨hS0, hS1, hS2, hS3, hS4, hS5, hS6, hS7, hS8, hS9, hS10, hS11⟩ := hSw); go_simp); (try with_reducible rfl))
              simp only [Act.put, stB, stZ, stS]
              refine tk 12 (some 105) (v := ?_) rfl rfl ?_ ?_
              rotate_left
              · (intro w hSw; (try dsimp only at hSw); ((try obtain ⟨hS0, hS1, hS2, hS3, hS4, hS5, hS6, hS7, hS8, hS9, hS10, hS11⟩ := hSw); go_simp); (try with_reducible rfl))
              simp only [Act.put, stB, stZ, stS]
              refine tk 13 (some 106) (v := ?_) rfl rfl ?_ ?_
              rotate_left
              · (intro w _; go_simp; (try with_reducible rfl))
              simp only [Act.put, stB, stZ, stS]
              refine tk 14 (some 107) (v := ?_) rfl rfl ?_ ?_
              rotate_left
              · (intro w _; go_simp; (try with_reducible rfl))
              simp only [Act.put, stB, stZ, stS]
              refine tk 15 (some 108) (v := ?_) rfl rfl ?_ ?_
              rotate_left
              · (intro w _; go_simp; (try with_reducible rfl))
              simp only [Act.put, stB, stZ, stS]
              refine tk 16 (some 109) (v := ?_) rfl rfl ?_ ?_
              rotate_left
              · (intro w hSw; (try dsimp only at hSw); ((try obtain ⟨hS0, hS1, hS2, hS3, hS4, hS5, hS6, hS7, hS8, hS9, hS10, hS11⟩ := hSw); go_simp); (try with_reducible rfl))
              simp only [Act.put, stB, stZ, stS]
              refine tk 17 (some 110) (v := ?_) rfl rfl ?_ ?_
              rotate_left
              · (intro w _; go_simp; (try with_reducible rfl))
              simp only [Act.put, stB, stZ, stS]
              refine tk 18 (some 111) (v := ?_) rfl rfl ?_ ?_
              rotate_left
              · (intro w hSw; (try dsimp only at hSw); ((try obtain ⟨hS0, hS1, hS2, hS3, hS4, hS5, hS6, hS7, hS8, hS9, hS10, hS11⟩ := hSw); go_simp); (try with_reducible rfl))
              simp only [Act.put, stB, stZ, stS]
              refine tk 19 (some 112) (v := ?_) rfl rfl ?_ ?_
              rotate_left
              · (intro w _; go_simp; (try with_reducible rfl))
              simp only [Act.put, stB, stZ, stS]
              refine tk 20 (some 113) (v := ?_) rfl rfl ?_ ?_
              rotate_left
              · (intro w hSw; (try dsimp only at hSw); ((try obtain ⟨hS0, hS1, hS2, hS3, hS4, hS5, hS6, hS7, hS8, hS9, hS10, hS11⟩ := hSw); go_simp); (try with_reducible rfl))
              simp only [Act.put, stB, stZ, stS]
              refine tk 21 (some 114) (v := ?_) rfl rfl ?_ ?_
              rotate_left
              · (intro w _; go_simp; (try with_reducible rfl))
              simp only [Act.put, stB, stZ, stS]
              refine tk 25 (some 118) (v := ?_) rfl rfl ?_ ?_
              rotate_left
              · (intro w _; go_simp; (try with_reducible rfl))
              simp only [Act.put, stB, stZ, stS]
              refine wpAnyH_ready (rs := [22]) (by as_aux_lemma => kernel_rfl) (by simp) ?_
              refine (AllReadyH.cons (o := { dst := some 115, op := Op.nilCheck (Operand.tmp 114), type := 0, pos := "law.go:126", after := #[{ on := 21, ground := Ground.data }, { on := 14, ground := Ground.guard }], guard := some (14, false) }) rfl (fun K hK => ?_) AllReadyH.nil)
              go_simp
              refine hK.out _ _ (hHeld) (fun hHeld2 => ?_)
              clear hK K hHeld
              rename _ => hHeld
              try simp only [Act.put, stB, stZ, stS]
              refine tk 23 (some 116) (v := ?_) rfl rfl ?_ ?_
              rotate_left
              · (intro w _; go_simp; (try with_reducible rfl))
              simp only [Act.put, stB, stZ, stS]
              refine tk 24 (some 117) (v := ?_) rfl rfl ?_ ?_
              rotate_left
              · (intro w hSw; (try dsimp only at hSw); ((try obtain ⟨hS0, hS1, hS2, hS3, hS4, hS5, hS6, hS7, hS8, hS9, hS10, hS11⟩ := hSw); go_simp); (try with_reducible rfl))
              simp only [Act.put, stB, stZ, stS]
              refine tk 26 (some 119) (v := ?_) rfl rfl ?_ ?_
              rotate_left
              · (intro w hSw; (try dsimp only at hSw); ((try obtain ⟨hS0, hS1, hS2, hS3, hS4, hS5, hS6, hS7, hS8, hS9, hS10, hS11⟩ := hSw); go_simp); (try with_reducible rfl))
              simp only [Act.put, stB, stZ, stS]
              refine tk 27 (some 120) (v := ?_) rfl rfl ?_ ?_
              rotate_left
              · (intro w hSw; (try dsimp only at hSw); ((try obtain ⟨hS0, hS1, hS2, hS3, hS4, hS5, hS6, hS7, hS8, hS9, hS10, hS11⟩ := hSw); go_simp); (try with_reducible rfl))
              simp only [Act.put, stB, stZ, stS]
              refine wpAnyH_ready (rs := [28]) (by as_aux_lemma => kernel_rfl) (by simp) ?_
              refine (AllReadyH.cons (o := { dst := some 121, op := Op.call { callee := Callee.value (Operand.func 64), args := #[Operand.tmp 120], argTypes := #[97] }, type := 51, pos := "law.go:126", after := #[{ on := 27, ground := Ground.data }, { on := 14, ground := Ground.chain }, { on := 14, ground := Ground.guard }], guard := some (14, false) }) rfl (fun K hK => ?_) AllReadyH.nil)
              go_simp
              refine (one_any vp vd _ HV.out.1 HV.out.2).mono ?_
              rintro e V1 ⟨v2, rfl, ho2, hs2, hq2, hb⟩
              unfold Rv.val
              have HO2 := Lib.hid ho2
              have HS2 := Lib.hid hs2
              have HQ2 := Lib.hid hq2
              clear ho2 hs2 hq2
              replace HB := Lib.hid (HB.out.trans (hb.mono HB.out.size))
              have hKK := And.intro (hu hb hHeld.1) <| And.intro (hu hb hHeld.2.1) <| And.intro (hu hb hHeld.2.2.1) <| And.intro (hu hb hHeld.2.2.2.1) <| And.intro (hu hb hHeld.2.2.2.2.1) <| And.intro (hu hb hHeld.2.2.2.2.2.1) <| And.intro (hu hb hHeld.2.2.2.2.2.2.1) <| And.intro (hu hb hHeld.2.2.2.2.2.2.2.1) <| And.intro (hu hb hHeld.2.2.2.2.2.2.2.2.1) <| And.intro (hu hb hHeld.2.2.2.2.2.2.2.2.2.1) <| And.intro (hu hb hHeld.2.2.2.2.2.2.2.2.2.2.1) <| hu hb hHeld.2.2.2.2.2.2.2.2.2.2.2
              clear hb
              refine hK.out _ _ (hKK) (fun hHeld2 => ?_)
              clear hK K hHeld
              rename _ => hHeld
              try simp only [Act.put, stB, stZ, stS]
              refine wpAnyH_ready (rs := [29]) (by as_aux_lemma => kernel_rfl) (by simp) ?_
              refine (AllReadyH.cons (o := { dst := some 122, op := Op.call { callee := Callee.value (Operand.func 63), args := #[Operand.tmp 113, Operand.tmp 121], argTypes := #[51, 51] }, type := 4, pos := "law.go:126", after := #[{ on := 20, ground := Ground.data }, { on := 28, ground := Ground.data }, { on := 28, ground := Ground.chain }, { on := 14, ground := Ground.guard }], guard := some (14, false) }) rfl (fun K hK => ?_) AllReadyH.nil)
              go_simp
              refine (rv_same r.rhs v2 _ (HO1.out _ HB.out) HO2.out HS1.out HS2.out).mono ?_
              rintro e V2 ⟨rfl, hb⟩
              rw [decide_eq_true (show r.rhs.q = v2.q from HEQ.out.trans HQ2.out.symm)]
              clear HO2 HS2 HQ2
              replace HB := Lib.hid (HB.out.trans (hb.mono HB.out.size))
              have hKK := And.intro (hu hb hHeld.1) <| And.intro (hu hb hHeld.2.1) <| And.intro (hu hb hHeld.2.2.1) <| And.intro (hu hb hHeld.2.2.2.1) <| And.intro (hu hb hHeld.2.2.2.2.1) <| And.intro (hu hb hHeld.2.2.2.2.2.1) <| And.intro (hu hb hHeld.2.2.2.2.2.2.1) <| And.intro (hu hb hHeld.2.2.2.2.2.2.2.1) <| And.intro (hu hb hHeld.2.2.2.2.2.2.2.2.1) <| And.intro (hu hb hHeld.2.2.2.2.2.2.2.2.2.1) <| And.intro (hu hb hHeld.2.2.2.2.2.2.2.2.2.2.1) <| hu hb hHeld.2.2.2.2.2.2.2.2.2.2.2
              clear hb
              refine hK.out _ _ (hKK) (fun hHeld2 => ?_)
              clear hK K hHeld
              rename _ => hHeld
              try simp only [Act.put, stB, stZ, stS]
              refine tk 30 (some 123) (v := ?_) rfl rfl ?_ ?_
              rotate_left
              · (intro w _; go_simp; (try with_reducible rfl))
              simp only [Act.put, stB, stZ, stS]
              refine tk 31 (some 124) (v := ?_) rfl rfl ?_ ?_
              rotate_left
              · (intro w _; go_simp; (try with_reducible rfl))
              simp only [Act.put, stB, stZ, stS]
              refine tk 32 (some 125) (v := ?_) rfl rfl ?_ ?_
              rotate_left
              · (intro w _; go_simp; (try with_reducible rfl))
              simp only [Act.put, stB, stZ, stS]
              refine tk 33 (some 126) (v := ?_) rfl rfl ?_ ?_
              rotate_left
              · (intro w _; go_simp; (try with_reducible rfl))
              simp only [Act.put, stB, stZ, stS]
              refine tk 34 (some 127) (v := ?_) rfl rfl ?_ ?_
              rotate_left
              · (intro w hSw; (try dsimp only at hSw); ((try obtain ⟨hS0, hS1, hS2, hS3, hS4, hS5, hS6, hS7, hS8, hS9, hS10, hS11⟩ := hSw); go_simp); (try with_reducible rfl))
              simp only [Act.put, stB, stZ, stS]
              refine tk 35 (some 128) (v := ?_) rfl rfl ?_ ?_
              rotate_left
              · (intro w _; go_simp; (try with_reducible rfl))
              simp only [Act.put, stB, stZ, stS]
              refine tk 36 (some 129) (v := ?_) rfl rfl ?_ ?_
              rotate_left
              · (intro w hSw; (try dsimp only at hSw); ((try obtain ⟨hS0, hS1, hS2, hS3, hS4, hS5, hS6, hS7, hS8, hS9, hS10, hS11⟩ := hSw); go_simp); (try with_reducible rfl))
              simp only [Act.put, stB, stZ, stS]
              refine tk 37 (some 130) (v := ?_) rfl rfl ?_ ?_
              rotate_left
              · (intro w _; go_simp; (try with_reducible rfl))
              simp only [Act.put, stB, stZ, stS]
              refine tk 38 (some 131) (v := ?_) rfl rfl ?_ ?_
              rotate_left
              · (intro w hSw; (try dsimp only at hSw); ((try obtain ⟨hS0, hS1, hS2, hS3, hS4, hS5, hS6, hS7, hS8, hS9, hS10, hS11⟩ := hSw); go_simp); (try with_reducible rfl))
              simp only [Act.put, stB, stZ, stS]
              refine tk 39 (some 132) (v := ?_) rfl rfl ?_ ?_
              rotate_left
              · (intro w _; go_simp; (try with_reducible rfl))
              simp only [Act.put, stB, stZ, stS]
              refine tk 40 (some 133) (v := ?_) rfl rfl ?_ ?_
              rotate_left
              · (intro w _; go_simp; (try with_reducible rfl))
              simp only [Act.put, stB, stZ, stS]
              refine wpAnyH_ready (rs := [41]) (by as_aux_lemma => kernel_rfl) (by simp) ?_
              refine (AllReadyH.cons (o := { dst := some 134, op := Op.nilCheck (Operand.tmp 133), type := 0, pos := "law.go:126", after := #[{ on := 40, ground := Ground.data }, { on := 32, ground := Ground.guard }], guard := some (32, false) }) rfl (fun K hK => ?_) AllReadyH.nil)
              go_simp
              refine hK.out _ _ (hHeld) (fun hHeld2 => ?_)
              clear hK K hHeld
              rename _ => hHeld
              try simp only [Act.put, stB, stZ, stS]
              refine tk 42 (some 135) (v := ?_) rfl rfl ?_ ?_
              rotate_left
              · (intro w _; go_simp; (try with_reducible rfl))
              simp only [Act.put, stB, stZ, stS]
              refine tk 43 (some 136) (v := ?_) rfl rfl ?_ ?_
              rotate_left
              · (intro w hSw; (try dsimp only at hSw); ((try obtain ⟨hS0, hS1, hS2, hS3, hS4, hS5, hS6, hS7, hS8, hS9, hS10, hS11⟩ := hSw); go_simp); (try with_reducible rfl))
              simp only [Act.put, stB, stZ, stS]
              refine tk 44 (some 137) (v := ?_) rfl rfl ?_ ?_
              rotate_left
              · (intro w _; go_simp; (try with_reducible rfl))
              simp only [Act.put, stB, stZ, stS]
              refine tk 45 (some 138) (v := ?_) rfl rfl ?_ ?_
              rotate_left
              · (intro w _; go_simp; (try with_reducible rfl))
              simp only [Act.put, stB, stZ, stS]
              refine tk 46 (some 139) (v := ?_) rfl rfl ?_ ?_
              rotate_left
              · (intro w _; go_simp; (try with_reducible rfl))
              simp only [Act.put, stB, stZ, stS]
              refine wpAnyH_done (by as_aux_lemma => kernel_rfl) ?_ _
              (try simp only [Exit.inBlock, Exit.then])
              obtain ⟨g0, g1, g2, g3, g4, g5, g6, g7, g8, g9, g10, g11⟩ := hHeld
              go_wp2_with fail
              refine (size2_any r.rhs _ (HO1.out _ HB.out) HS1.out).mono ?_
              rintro e w9 ⟨rfl, hb⟩
              have HB9 := Lib.hid (HB.out.trans (hb.mono HB.out.size))
              clear hb g0 g1 g2 g3 g4 g5 g6 g7 g8 g9 g10 g11
              go_wp2_with fail
              obtain ⟨wq, hwq⟩ : ∃ wq : World, wq = w9 := ⟨_, rfl⟩
              subst hwq
              go_loopw [6, 9] (fun bv jv wi => ∃ j : Nat, j ≤ m.cols.length ∧ jv = .int .i64 j ∧ bv = .int .i64 ((B0 + SR1 + sumR ((r.coef.map (·.q)).take j) : Nat) : Int) ∧ Below w2.heap.size w2 wi) (fun _ jv _ => m.cols.length - (intOf jv).toNat)
              case atStart => exact ⟨0, Nat.zero_le _, rfl, by rw [List.take_zero]; simp [sumR], HB9.out⟩
              case round =>
                obtain ⟨j, hj, rfl, rfl, hb⟩ := hrel
                have HB := Lib.hid hb
                have hd1 := (RBx.c1 (HQ.out _ hb))
                by_cases hlt3 : j < m.cols.length
                · have hjc : j < r.coef.length := by rw [HRC.out]; exact hlt3
                  obtain ⟨b8, o8, e8, _, z8⟩ := int_get (RBx.sl1 (HQ.out _ hb)) j hlt3 hlt3
                  obtain ⟨b7, o7, e7, _, z6⟩ := int_get (RBx.sl0 (HQ.out _ hb)) k hlt hlt
                  obtain ⟨b3, o3, e3, _, z1, _, _, _, _⟩ := prow_get (HP.out.below hb).rowsl k hltr
                  rw [← HRR.out] at z1
                  obtain ⟨rj, rcp, erv, hrv⟩ := (HP.out.below hb).rvec HRM.out
                  rw [erv] at z1
                  obtain ⟨b6, o6, e6, _, z2, z3, z4⟩ := rv_get hrv.sl j hjc
                  obtain ⟨v3, hv3⟩ : ∃ v, v = r.coef[j] := ⟨_, rfl⟩
                  rw [← hv3] at z2 z3 z4
                  have hv3m : v3 ∈ r.coef := by rw [hv3]; exact List.getElem_mem hjc
                  obtain ⟨rid, hrid⟩ : ∃ x, m.rows[k] = x := ⟨_, rfl⟩
                  obtain ⟨cid, hcid⟩ : ∃ x, m.cols[j] = x := ⟨_, rfl⟩
                  rw [hrid] at z6
                  rw [hcid] at z8
                  obtain ⟨⟨vp, vd⟩, hfc⟩ : ∃ v, findC rid cid m.cells = v := ⟨_, rfl⟩
                  have hvv := HVO.out.find rid cid
                  rw [hfc] at hvv
                  have HV := Lib.hid hvv
                  have HFC := Lib.hid hfc
                  have HO1 := Lib.hid (fun (W : World) (hW : Below w2.heap.size w2 W) => ((HP.out.okv r HRM.out v3 hv3m).1.below hW : v3.ok W))
                  have HS1 := Lib.hid (HP.out.okv r HRM.out v3 hv3m).2
                  have HEQ := Lib.hid (show v3.q = fracQ (vp, vd) by
                    have h9 := HCF.out j hlt3
                    rw [hrid, hcid, hfc] at h9
                    rw [hv3]
                    exact h9 hjc)
                  have hsum := sumR_take (r.coef.map (·.q)) j (by rw [List.length_map]; exact hjc)
                  rw [List.getElem_map, ← hv3] at hsum
                  have hsb := sumR_le (r.coef.map (·.q)) (j + 1) (fun q hq => by obtain ⟨v, hv, rfl⟩ := List.mem_map.1 hq; exact sizeQ_le (HP.out.okv r HRM.out v hv).2)
                  have hj24 : j < 24 := by have := HMC.out; omega
                  have hsz9 := sizeQ_le HRS.out.2
                  obtain ⟨SA3, hSA3⟩ : ∃ n, sumR ((r.coef.map (·.q)).take j) = n := ⟨_, rfl⟩
                  obtain ⟨SV3, hSV3⟩ : ∃ n, sizeQ v3.q = n := ⟨_, rfl⟩
                  rw [hSA3, hSV3] at hsum
                  rw [hsum] at hsb
                  rw [HSR.out] at hsz9
                  have HSUM := Lib.hid (show sumR ((r.coef.map (·.q)).take (j + 1)) = SA3 + SV3 from hsum)
                  have hwr : IntKind.i64.wrap ((B0 : Int) + (SR1 : Int) + (SA3 : Int) + (SV3 : Int)) = (B0 : Int) + (SR1 : Int) + (SA3 : Int) + (SV3 : Int) := by rw [IntKind.wrap_i64]; have := HB0.out; omega
                  have z0 := (hb.cell (p := ⟨pb, 1, none⟩) hpl).trans p1
                  have z5 := (RBx.c0 (HQ.out _ hb))
                  have z7 := hd1
                  rw [e3] at z0
                  rw [e7] at z5
                  rw [e8] at z7
                  rw [e6] at z1
                  rw [e8] at hd1
                  have i0 : (0 : Int) ≤ (k : Int) := by omega
                  have i1 : (k : Int) < (rows.length : Int) := by omega
                  have i2 : (k : Int) < (m.rows.length : Int) := by omega
                  have j0 : (0 : Int) ≤ (j : Int) := by omega
                  have j1 : (j : Int) < (m.cols.length : Int) := by omega
                  have j2 : (j : Int) < (r.coef.length : Int) := by omega
                  rw [hSA3]
                  clear hb hv3 hv3m hrid hcid hfc hvv hsum hsb hsz9 hSA3 erv hrv e3 e6 e7 e8
                  go_upto_region 20 with fail
                  replace HB := Lib.hid (HB.out.trans ((Below.drawn _ 1).mono HB.out.size))
                  as_aux_lemma =>
                    refine wp_region_held_drew (S := fun W => W.cell? ⟨pb, 1, none⟩ = some (.slice (some ⟨b3, o3, none⟩) rows.length rc) ∧ W.cell? ⟨b3, o3 + k * 5, none⟩ = some (.slice (some ⟨b6, o6, none⟩) r.coef.length rcp) ∧ W.cell? ⟨b6, o6 + j * 3, none⟩ = some (.bool v3.s) ∧ W.cell? ⟨b6, o6 + j * 3 + 1, none⟩ = some (.slice v3.a v3.l v3.c) ∧ W.cell? ⟨b6, o6 + j * 3 + 2, none⟩ = some (.slice v3.b v3.m v3.d) ∧ W.cell? ⟨rb, 0, none⟩ = some (.slice (some ⟨b7, o7, none⟩) m.rows.length h.c0) ∧ W.cell? ⟨b7, o7 + k, none⟩ = some (.int .i64 rid) ∧ W.cell? ⟨rb, 1, none⟩ = some (.slice (some ⟨b8, o8, none⟩) m.cols.length h.c1) ∧ W.cell? ⟨b8, o8 + j, none⟩ = some (.int .i64 cid)) (by as_aux_lemma => kernel_rfl) (⟨z0, z1, z2, z3, z4, z5, z6, z7, z8⟩) (fun hHeld => ?_)
                    refine tk 0 (some 158) (v := ?_) rfl rfl ?_ ?_
                    rotate_left
                    · (intro w _; go_simp; (try with_reducible rfl))
                    simp only [Act.put, stB, stZ, stS]
                    refine tk 1 (some 159) (v := ?_) rfl rfl ?_ ?_
                    rotate_left
                    · (intro w hSw; (try dsimp only at hSw); ((try obtain ⟨hS0, hS1, hS2, hS3, hS4, hS5, hS6, hS7, hS8⟩ := hSw); go_simp); (try with_reducible rfl))
                    simp only [Act.put, stB, stZ, stS]
                    refine tk 2 (some 160) (v := ?_) rfl rfl ?_ ?_
                    rotate_left
                    · (intro w _; go_simp; (try with_reducible rfl))
                    simp only [Act.put, stB, stZ, stS]
                    refine tk 3 (some 161) (v := ?_) rfl rfl ?_ ?_
                    rotate_left
                    · (intro w hSw; (try dsimp only at hSw); ((try obtain ⟨hS0, hS1, hS2, hS3, hS4, hS5, hS6, hS7, hS8⟩ := hSw); go_simp); (try with_reducible rfl))
                    simp only [Act.put, stB, stZ, stS]
                    refine tk 4 (some 162) (v := ?_) rfl rfl ?_ ?_
                    rotate_left
                    · (intro w _; go_simp; (try with_reducible rfl))
                    simp only [Act.put, stB, stZ, stS]
                    refine tk 5 (some 163) (v := ?_) rfl rfl ?_ ?_
                    rotate_left
                    · (intro w hSw; (try dsimp only at hSw); ((try obtain ⟨hS0, hS1, hS2, hS3, hS4, hS5, hS6, hS7, hS8⟩ := hSw); go_simp); (try with_reducible rfl))
                    simp only [Act.put, stB, stZ, stS]
                    refine tk 6 (some 164) (v := ?_) rfl rfl ?_ ?_
                    rotate_left
                    · (intro w _; go_simp; (try with_reducible rfl))
                    simp only [Act.put, stB, stZ, stS]
                    refine tk 7 (some 165) (v := ?_) rfl rfl ?_ ?_
                    rotate_left
                    · (intro w hSw; (try dsimp only at hSw); ((try obtain ⟨hS0, hS1, hS2, hS3, hS4, hS5, hS6, hS7, hS8⟩ := hSw); go_simp); (try with_reducible rfl))
                    simp only [Act.put, stB, stZ, stS]
                    refine tk 8 (some 166) (v := ?_) rfl rfl ?_ ?_
                    rotate_left
                    · (intro w hSw; (try dsimp only at hSw); ((try obtain ⟨hS0, hS1, hS2, hS3, hS4, hS5, hS6, hS7, hS8⟩ := hSw); go_simp); (try with_reducible rfl))
                    simp only [Act.put, stB, stZ, stS]
                    refine tk 9 (some 167) (v := ?_) rfl rfl ?_ ?_
                    rotate_left
                    · (intro w _; go_simp; (try with_reducible rfl))
                    simp only [Act.put, stB, stZ, stS]
                    refine tk 10 (some 168) (v := ?_) rfl rfl ?_ ?_
                    rotate_left
                    · (intro w _; go_simp; (try with_reducible rfl))
                    simp only [Act.put, stB, stZ, stS]
                    refine tk 14 (some 172) (v := ?_) rfl rfl ?_ ?_
                    rotate_left
                    · (intro w _; go_simp; (try with_reducible rfl))
                    simp only [Act.put, stB, stZ, stS]
                    refine tk 17 (some 175) (v := ?_) rfl rfl ?_ ?_
                    rotate_left
                    · (intro w _; go_simp; (try with_reducible rfl))
                    simp only [Act.put, stB, stZ, stS]
                    refine tk 21 (some 179) (v := ?_) rfl rfl ?_ ?_
                    rotate_left
                    · (intro w _; go_simp; (try with_reducible rfl))
                    simp only [Act.put, stB, stZ, stS]
                    refine wpAnyH_ready (rs := [11, 18]) (by as_aux_lemma => kernel_rfl) (by simp) ?_
                    refine (AllReadyH.cons (o := { dst := some 169, op := Op.nilCheck (Operand.tmp 168), type := 0, pos := "law.go:131", after := #[{ on := 10, ground := Ground.data }], guard := none }) rfl (fun K hK => ?_) (AllReadyH.cons (o := { dst := some 176, op := Op.nilCheck (Operand.tmp 175), type := 0, pos := "law.go:131", after := #[{ on := 17, ground := Ground.data }], guard := none }) rfl (fun K hK => ?_) AllReadyH.nil))
                    · skip
                      go_simp
                      refine hK.out _ _ (hHeld) (fun hHeld2 => ?_)
                      clear hK K hHeld
                      rename _ => hHeld
                      try simp only [Act.put, stB, stZ, stS]
                      refine tk 12 (some 170) (v := ?_) rfl rfl ?_ ?_
                      rotate_left
                      · (intro w _; go_simp; (try with_reducible rfl))
                      simp only [Act.put, stB, stZ, stS]
                      refine tk 13 (some 171) (v := ?_) rfl rfl ?_ ?_
                      rotate_left
                      · (intro w hSw; (try dsimp only at hSw); ((try obtain ⟨hS0, hS1, hS2, hS3, hS4, hS5, hS6, hS7, hS8⟩ := hSw); go_simp); (try with_reducible rfl))
                      simp only [Act.put, stB, stZ, stS]
                      refine tk 15 (some 173) (v := ?_) rfl rfl ?_ ?_
                      rotate_left
                      · (intro w hSw; (try dsimp only at hSw); ((try obtain ⟨hS0, hS1, hS2, hS3, hS4, hS5, hS6, hS7, hS8⟩ := hSw); go_simp); (try with_reducible rfl))
                      simp only [Act.put, stB, stZ, stS]
                      refine tk 16 (some 174) (v := ?_) rfl rfl ?_ ?_
                      rotate_left
                      · (intro w hSw; (try dsimp only at hSw); ((try obtain ⟨hS0, hS1, hS2, hS3, hS4, hS5, hS6, hS7, hS8⟩ := hSw); go_simp); (try with_reducible rfl))
                      simp only [Act.put, stB, stZ, stS]
                      refine wpAnyH_ready (rs := [18]) (by as_aux_lemma => kernel_rfl) (by simp) ?_
                      refine (AllReadyH.cons (o := { dst := some 176, op := Op.nilCheck (Operand.tmp 175), type := 0, pos := "law.go:131", after := #[{ on := 17, ground := Ground.data }], guard := none }) rfl (fun K hK => ?_) AllReadyH.nil)
                      go_simp
                      refine hK.out _ _ (hHeld) (fun hHeld2 => ?_)
                      clear hK K hHeld
                      rename _ => hHeld
                      try simp only [Act.put, stB, stZ, stS]
                      refine tk 19 (some 177) (v := ?_) rfl rfl ?_ ?_
                      rotate_left
                      · (intro w _; go_simp; (try with_reducible rfl))
                      simp only [Act.put, stB, stZ, stS]
                      refine tk 20 (some 178) (v := ?_) rfl rfl ?_ ?_
                      rotate_left
                      · (intro w hSw; (try dsimp only at hSw); ((try obtain ⟨hS0, hS1, hS2, hS3, hS4, hS5, hS6, hS7, hS8⟩ := hSw); go_simp); (try with_reducible rfl))
                      simp only [Act.put, stB, stZ, stS]
                      refine tk 22 (some 180) (v := ?_) rfl rfl ?_ ?_
                      rotate_left
                      · (intro w hSw; (try dsimp only at hSw); ((try obtain ⟨hS0, hS1, hS2, hS3, hS4, hS5, hS6, hS7, hS8⟩ := hSw); go_simp); (try with_reducible rfl))
                      simp only [Act.put, stB, stZ, stS]
                      refine tk 23 (some 181) (v := ?_) rfl rfl ?_ ?_
                      rotate_left
                      · (intro w hSw; (try dsimp only at hSw); ((try obtain ⟨hS0, hS1, hS2, hS3, hS4, hS5, hS6, hS7, hS8⟩ := hSw); go_simp); (try with_reducible rfl))
                      simp only [Act.put, stB, stZ, stS]
                      refine wpAnyH_ready (rs := [24]) (by as_aux_lemma => kernel_rfl) (by simp) ?_
                      refine (AllReadyH.cons (o := { dst := some 182, op := Op.call { callee := Callee.value (Operand.func 66), args := #[Operand.tmp 167, Operand.tmp 174, Operand.tmp 181], argTypes := #[26, 3, 3] }, type := 97, pos := "law.go:131", after := #[{ on := 9, ground := Ground.data }, { on := 16, ground := Ground.data }, { on := 23, ground := Ground.data }], guard := none }) rfl (fun K hK => ?_) AllReadyH.nil)
                      go_simp
                      refine (r_coef rb H m rid cid _ ⟨h, HQ.out _ HB.out, HNW.out _ HB.out⟩).mono ?_
                      rintro e V1 ⟨rfl, hb⟩
                      rw [HFC.out]
                      dsimp only
                      replace HB := Lib.hid (HB.out.trans (hb.mono HB.out.size))
                      have hKK := And.intro (hu hb hHeld.1) <| And.intro (hu hb hHeld.2.1) <| And.intro (hu hb hHeld.2.2.1) <| And.intro (hu hb hHeld.2.2.2.1) <| And.intro (hu hb hHeld.2.2.2.2.1) <| And.intro (hu hb hHeld.2.2.2.2.2.1) <| And.intro (hu hb hHeld.2.2.2.2.2.2.1) <| And.intro (hu hb hHeld.2.2.2.2.2.2.2.1) <| hu hb hHeld.2.2.2.2.2.2.2.2
                      clear hb
                      refine hK.out _ _ (hKK) (fun hHeld2 => ?_)
                      clear hK K hHeld
                      rename _ => hHeld
                      try simp only [Act.put, stB, stZ, stS]
                      refine wpAnyH_ready (rs := [25]) (by as_aux_lemma => kernel_rfl) (by simp) ?_
                      refine (AllReadyH.cons (o := { dst := some 183, op := Op.call { callee := Callee.value (Operand.func 64), args := #[Operand.tmp 182], argTypes := #[97] }, type := 51, pos := "law.go:131", after := #[{ on := 24, ground := Ground.data }, { on := 24, ground := Ground.chain }], guard := none }) rfl (fun K hK => ?_) AllReadyH.nil)
                      go_simp
                      refine (one_any vp vd _ HV.out.1 HV.out.2).mono ?_
                      rintro e V2 ⟨v2, rfl, ho2, hs2, hq2, hb⟩
                      unfold Rv.val
                      have HO2 := Lib.hid ho2
                      have HS2 := Lib.hid hs2
                      have HQ2 := Lib.hid hq2
                      clear ho2 hs2 hq2
                      replace HB := Lib.hid (HB.out.trans (hb.mono HB.out.size))
                      have hKK := And.intro (hu hb hHeld.1) <| And.intro (hu hb hHeld.2.1) <| And.intro (hu hb hHeld.2.2.1) <| And.intro (hu hb hHeld.2.2.2.1) <| And.intro (hu hb hHeld.2.2.2.2.1) <| And.intro (hu hb hHeld.2.2.2.2.2.1) <| And.intro (hu hb hHeld.2.2.2.2.2.2.1) <| And.intro (hu hb hHeld.2.2.2.2.2.2.2.1) <| hu hb hHeld.2.2.2.2.2.2.2.2
                      clear hb
                      refine hK.out _ _ (hKK) (fun hHeld2 => ?_)
                      clear hK K hHeld
                      rename _ => hHeld
                      try simp only [Act.put, stB, stZ, stS]
                      refine wpAnyH_ready (rs := [26]) (by as_aux_lemma => kernel_rfl) (by simp) ?_
                      refine (AllReadyH.cons (o := { dst := some 184, op := Op.call { callee := Callee.value (Operand.func 63), args := #[Operand.tmp 166, Operand.tmp 183], argTypes := #[51, 51] }, type := 4, pos := "law.go:131", after := #[{ on := 8, ground := Ground.data }, { on := 25, ground := Ground.data }, { on := 25, ground := Ground.chain }], guard := none }) rfl (fun K hK => ?_) AllReadyH.nil)
                      go_simp
                      refine (rv_same v3 v2 _ (HO1.out _ HB.out) HO2.out HS1.out HS2.out).mono ?_
                      rintro e V3 ⟨rfl, hb⟩
                      rw [decide_eq_true (show v3.q = v2.q from HEQ.out.trans HQ2.out.symm)]
                      clear HO2 HS2 HQ2
                      replace HB := Lib.hid (HB.out.trans (hb.mono HB.out.size))
                      have hKK := And.intro (hu hb hHeld.1) <| And.intro (hu hb hHeld.2.1) <| And.intro (hu hb hHeld.2.2.1) <| And.intro (hu hb hHeld.2.2.2.1) <| And.intro (hu hb hHeld.2.2.2.2.1) <| And.intro (hu hb hHeld.2.2.2.2.2.1) <| And.intro (hu hb hHeld.2.2.2.2.2.2.1) <| And.intro (hu hb hHeld.2.2.2.2.2.2.2.1) <| hu hb hHeld.2.2.2.2.2.2.2.2
                      clear hb
                      refine hK.out _ _ (hKK) (fun hHeld2 => ?_)
                      clear hK K hHeld
                      rename _ => hHeld
                      try simp only [Act.put, stB, stZ, stS]
                      refine tk 27 (some 185) (v := ?_) rfl rfl ?_ ?_
                      rotate_left
                      · (intro w _; go_simp; (try with_reducible rfl))
                      simp only [Act.put, stB, stZ, stS]
                      refine wpAnyH_done (by as_aux_lemma => kernel_rfl) ?_ _
                      (try simp only [Exit.inBlock, Exit.then])
                      obtain ⟨g0, g1, g2, g3, g4, g5, g6, g7, g8⟩ := hHeld
                      go_wp2_with fail
                      refine (size2_any v3 _ (HO1.out _ HB.out) HS1.out).mono ?_
                      rintro e w9 ⟨rfl, hb⟩
                      have HB9 := Lib.hid (HB.out.trans (hb.mono HB.out.size))
                      clear hb g0 g1 g2 g3 g4 g5 g6 g7 g8
                      go_wp2_with fail
                      go_roundw
                      case rel => exact ⟨j + 1, by omega, by go_num, by have h1 := HSUM.out; exact congrArg (Value.int .i64) (by omega), HB9.out⟩
                      case measure => simp [intOf]; omega
                    · skip
                      go_simp
                      refine hK.out _ _ (hHeld) (fun hHeld2 => ?_)
                      clear hK K hHeld
                      rename _ => hHeld
                      try simp only [Act.put, stB, stZ, stS]
                      refine tk 19 (some 177) (v := ?_) rfl rfl ?_ ?_
                      rotate_left
                      · (intro w _; go_simp; (try with_reducible rfl))
                      simp only [Act.put, stB, stZ, stS]
                      refine tk 20 (some 178) (v := ?_) rfl rfl ?_ ?_
                      rotate_left
                      · (intro w hSw; (try dsimp only at hSw); ((try obtain ⟨hS0, hS1, hS2, hS3, hS4, hS5, hS6, hS7, hS8⟩ := hSw); go_simp); (try with_reducible rfl))
                      simp only [Act.put, stB, stZ, stS]
                      refine tk 22 (some 180) (v := ?_) rfl rfl ?_ ?_
                      rotate_left
                      · (intro w hSw; (try dsimp only at hSw); ((try obtain ⟨hS0, hS1, hS2, hS3, hS4, hS5, hS6, hS7, hS8⟩ := hSw); go_simp); (try with_reducible rfl))
                      simp only [Act.put, stB, stZ, stS]
                      refine tk 23 (some 181) (v := ?_) rfl rfl ?_ ?_
                      rotate_left
                      · (intro w hSw; (try dsimp only at hSw); ((try obtain ⟨hS0, hS1, hS2, hS3, hS4, hS5, hS6, hS7, hS8⟩ := hSw); go_simp); (try with_reducible rfl))
                      simp only [Act.put, stB, stZ, stS]
                      refine wpAnyH_ready (rs := [11]) (by as_aux_lemma => kernel_rfl) (by simp) ?_
                      refine (AllReadyH.cons (o := { dst := some 169, op := Op.nilCheck (Operand.tmp 168), type := 0, pos := "law.go:131", after := #[{ on := 10, ground := Ground.data }], guard := none }) rfl (fun K hK => ?_) AllReadyH.nil)
                      go_simp
                      refine hK.out _ _ (hHeld) (fun hHeld2 => ?_)
                      clear hK K hHeld
                      rename _ => hHeld
                      try simp only [Act.put, stB, stZ, stS]
                      refine tk 12 (some 170) (v := ?_) rfl rfl ?_ ?_
                      rotate_left
                      · (intro w _; go_simp; (try with_reducible rfl))
                      simp only [Act.put, stB, stZ, stS]
                      refine tk 13 (some 171) (v := ?_) rfl rfl ?_ ?_
                      rotate_left
                      · (intro w hSw; (try dsimp only at hSw); ((try obtain ⟨hS0, hS1, hS2, hS3, hS4, hS5, hS6, hS7, hS8⟩ := hSw); go_simp); (try with_reducible rfl))
                      simp only [Act.put, stB, stZ, stS]
                      refine tk 15 (some 173) (v := ?_) rfl rfl ?_ ?_
                      rotate_left
                      · (intro w hSw; (try dsimp only at hSw); ((try obtain ⟨hS0, hS1, hS2, hS3, hS4, hS5, hS6, hS7, hS8⟩ := hSw); go_simp); (try with_reducible rfl))
                      simp only [Act.put, stB, stZ, stS]
                      refine tk 16 (some 174) (v := ?_) rfl rfl ?_ ?_
                      rotate_left
                      · (intro w hSw; (try dsimp only at hSw); ((try obtain ⟨hS0, hS1, hS2, hS3, hS4, hS5, hS6, hS7, hS8⟩ := hSw); go_simp); (try with_reducible rfl))
                      simp only [Act.put, stB, stZ, stS]
                      refine wpAnyH_ready (rs := [24]) (by as_aux_lemma => kernel_rfl) (by simp) ?_
                      refine (AllReadyH.cons (o := { dst := some 182, op := Op.call { callee := Callee.value (Operand.func 66), args := #[Operand.tmp 167, Operand.tmp 174, Operand.tmp 181], argTypes := #[26, 3, 3] }, type := 97, pos := "law.go:131", after := #[{ on := 9, ground := Ground.data }, { on := 16, ground := Ground.data }, { on := 23, ground := Ground.data }], guard := none }) rfl (fun K hK => ?_) AllReadyH.nil)
                      go_simp
                      refine (r_coef rb H m rid cid _ ⟨h, HQ.out _ HB.out, HNW.out _ HB.out⟩).mono ?_
                      rintro e V1 ⟨rfl, hb⟩
                      rw [HFC.out]
                      dsimp only
                      replace HB := Lib.hid (HB.out.trans (hb.mono HB.out.size))
                      have hKK := And.intro (hu hb hHeld.1) <| And.intro (hu hb hHeld.2.1) <| And.intro (hu hb hHeld.2.2.1) <| And.intro (hu hb hHeld.2.2.2.1) <| And.intro (hu hb hHeld.2.2.2.2.1) <| And.intro (hu hb hHeld.2.2.2.2.2.1) <| And.intro (hu hb hHeld.2.2.2.2.2.2.1) <| And.intro (hu hb hHeld.2.2.2.2.2.2.2.1) <| hu hb hHeld.2.2.2.2.2.2.2.2
                      clear hb
                      refine hK.out _ _ (hKK) (fun hHeld2 => ?_)
                      clear hK K hHeld
                      rename _ => hHeld
                      try simp only [Act.put, stB, stZ, stS]
                      refine wpAnyH_ready (rs := [25]) (by as_aux_lemma => kernel_rfl) (by simp) ?_
                      refine (AllReadyH.cons (o := { dst := some 183, op := Op.call { callee := Callee.value (Operand.func 64), args := #[Operand.tmp 182], argTypes := #[97] }, type := 51, pos := "law.go:131", after := #[{ on := 24, ground := Ground.data }, { on := 24, ground := Ground.chain }], guard := none }) rfl (fun K hK => ?_) AllReadyH.nil)
                      go_simp
                      refine (one_any vp vd _ HV.out.1 HV.out.2).mono ?_
                      rintro e V2 ⟨v2, rfl, ho2, hs2, hq2, hb⟩
                      unfold Rv.val
                      have HO2 := Lib.hid ho2
                      have HS2 := Lib.hid hs2
                      have HQ2 := Lib.hid hq2
                      clear ho2 hs2 hq2
                      replace HB := Lib.hid (HB.out.trans (hb.mono HB.out.size))
                      have hKK := And.intro (hu hb hHeld.1) <| And.intro (hu hb hHeld.2.1) <| And.intro (hu hb hHeld.2.2.1) <| And.intro (hu hb hHeld.2.2.2.1) <| And.intro (hu hb hHeld.2.2.2.2.1) <| And.intro (hu hb hHeld.2.2.2.2.2.1) <| And.intro (hu hb hHeld.2.2.2.2.2.2.1) <| And.intro (hu hb hHeld.2.2.2.2.2.2.2.1) <| hu hb hHeld.2.2.2.2.2.2.2.2
                      clear hb
                      refine hK.out _ _ (hKK) (fun hHeld2 => ?_)
                      clear hK K hHeld
                      rename _ => hHeld
                      try simp only [Act.put, stB, stZ, stS]
                      refine wpAnyH_ready (rs := [26]) (by as_aux_lemma => kernel_rfl) (by simp) ?_
                      refine (AllReadyH.cons (o := { dst := some 184, op := Op.call { callee := Callee.value (Operand.func 63), args := #[Operand.tmp 166, Operand.tmp 183], argTypes := #[51, 51] }, type := 4, pos := "law.go:131", after := #[{ on := 8, ground := Ground.data }, { on := 25, ground := Ground.data }, { on := 25, ground := Ground.chain }], guard := none }) rfl (fun K hK => ?_) AllReadyH.nil)
                      go_simp
                      refine (rv_same v3 v2 _ (HO1.out _ HB.out) HO2.out HS1.out HS2.out).mono ?_
                      rintro e V3 ⟨rfl, hb⟩
                      rw [decide_eq_true (show v3.q = v2.q from HEQ.out.trans HQ2.out.symm)]
                      clear HO2 HS2 HQ2
                      replace HB := Lib.hid (HB.out.trans (hb.mono HB.out.size))
                      have hKK := And.intro (hu hb hHeld.1) <| And.intro (hu hb hHeld.2.1) <| And.intro (hu hb hHeld.2.2.1) <| And.intro (hu hb hHeld.2.2.2.1) <| And.intro (hu hb hHeld.2.2.2.2.1) <| And.intro (hu hb hHeld.2.2.2.2.2.1) <| And.intro (hu hb hHeld.2.2.2.2.2.2.1) <| And.intro (hu hb hHeld.2.2.2.2.2.2.2.1) <| hu hb hHeld.2.2.2.2.2.2.2.2
                      clear hb
                      refine hK.out _ _ (hKK) (fun hHeld2 => ?_)
                      clear hK K hHeld
                      rename _ => hHeld
                      try simp only [Act.put, stB, stZ, stS]
                      refine tk 27 (some 185) (v := ?_) rfl rfl ?_ ?_
                      rotate_left
                      · (intro w _; go_simp; (try with_reducible rfl))
                      simp only [Act.put, stB, stZ, stS]
                      refine wpAnyH_done (by as_aux_lemma => kernel_rfl) ?_ _
                      (try simp only [Exit.inBlock, Exit.then])
                      obtain ⟨g0, g1, g2, g3, g4, g5, g6, g7, g8⟩ := hHeld
                      go_wp2_with fail
                      refine (size2_any v3 _ (HO1.out _ HB.out) HS1.out).mono ?_
                      rintro e w9 ⟨rfl, hb⟩
                      have HB9 := Lib.hid (HB.out.trans (hb.mono HB.out.size))
                      clear hb g0 g1 g2 g3 g4 g5 g6 g7 g8
                      go_wp2_with fail
                      go_roundw
                      case rel => exact ⟨j + 1, by omega, by go_num, by have h1 := HSUM.out; exact congrArg (Value.int .i64) (by omega), HB9.out⟩
                      case measure => simp [intOf]; omega
                · obtain rfl : j = m.cols.length := by omega
                  have HTAKE := Lib.hid (show (r.coef.map (·.q)).take m.cols.length = r.coef.map (·.q) by rw [← HRC.out]; exact List.take_of_length_le (by simp))
                  clear hb
                  go_wp2_with fail
                  go_roundw
                  case rel => exact ⟨k + 1, by omega, by go_num, by have h2 := HSUM2.out; have h3 := HSR.out; rw [HTAKE.out]; exact congrArg (Value.int .i64) (by omega), HB.out⟩
                  case measure => simp [intOf]; omega
          · obtain rfl : k = m.rows.length := by omega
            have HTR := Lib.hid (show s.rows.take m.rows.length = s.rows by rw [← HLRW.out, HP.out.rlen]; exact List.take_of_length_le (Nat.le_refl _))
            rw [HTR.out]
            have HBI := Lib.hid (show s.bits = C0 + sumAR s.rows by unfold AS.bits; rw [HCE.out])
            obtain ⟨BB, hBB⟩ : ∃ n, C0 + sumAR s.rows = n := ⟨_, rfl⟩
            rw [hBB] at HBI ⊢
            clear hb hBB
            go_wp2_with fail
            refine (as_bits (HSA.out.below HB.out) HW.out).mono ?_
            rintro e w11 ⟨rfl, hb⟩
            rw [HBI.out]
            have HB11 := Lib.hid (HB.out.trans (hb.mono HB.out.size))
            have r0 := (HB11.out.cell (p := ⟨pb, 0, none⟩) hpl).trans p0
            have r1 := (HB11.out.cell (p := ⟨pb, 1, none⟩) hpl).trans p1
            clear hb
            go_wp2_with fail
            refine (may_any w11 F ca ra cc rc cs rows _ _ (HP.out.below HB11.out) (by rw [List.length_map]; exact HW.out.cl) HW.out.rl HW.out.kd (fun r hr => by rw [List.length_map]; exact HW.out.len r hr)).mono ?_
            rintro e w12 ⟨rfl, hb⟩
            have HB12 := Lib.hid (HB11.out.trans (hb.mono HB11.out.size))
            clear hb
            go_wp2_with fail
            go_ret
            exact ⟨rfl, HB02.out.trans (HB12.out.mono HB02.out.size)⟩
end Go.Proofs.YtaehklhbokocbaaGreatDoor
