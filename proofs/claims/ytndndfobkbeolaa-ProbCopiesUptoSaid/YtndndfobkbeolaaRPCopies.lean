/-
  ProbCopies of actuarylaw16 answers true; the conditions: what is handed in is in memory, and is not too much.
  Printed by a program of this repository (wip/pc6.py).
-/
import Derived.Test.YtndndfobkbeolaaRL
import Derived.Test.YtndndfobkbeolaaRK
set_option linter.unusedVariables false
set_option linter.unusedSimpArgs false
namespace Go.Proofs.Ytndndfobkbeolaa
open Go.RowKit Go.Extern.Stop Go.Stop Go.Extern
theorem VB.at3 {w0 W : World} {l : List Rat} {g o n c j : Nat} {vs : List Rv} {u : Rv} (h : VB w0 l (some ⟨g, o, none⟩) n c vs W) (hu : vs[j]? = some u) :
    W.cell? ⟨g, o + j * 3, none⟩ = some (.bool u.s) ∧ W.cell? ⟨g, o + j * 3 + 1, none⟩ = some (.slice u.a u.l u.c) ∧ W.cell? ⟨g, o + j * 3 + 2, none⟩ = some (.slice u.b u.m u.d) := by
  obtain ⟨b', o', v, e, e2, _, h0, h1, h2, _⟩ := h.vec.get j (by rw [← h.len]; exact (List.getElem?_eq_some_iff.1 hu).1)
  cases e
  rw [hu] at e2
  cases e2
  exact ⟨h0, h1, h2⟩
theorem few_map {rows rows' : List PRow} (h : rows'.map prowQ = rows.map prowQ) (hf : ∀ r, r ∈ rows → FewL (qs r.coef) ∧ Few r.rhs.q) : ∀ r, r ∈ rows' → FewL (qs r.coef) ∧ Few r.rhs.q := fun r hr => by
  have h1 : prowQ r ∈ rows'.map prowQ := List.mem_map_of_mem hr
  rw [h] at h1
  obtain ⟨t, ht, e⟩ := List.mem_map.1 h1
  have e1 : qs t.coef = qs r.coef := congrArg (fun x => x.1) e
  have e2 : t.rhs.q = r.rhs.q := congrArg (fun x => x.2.2) e
  rw [← e1, ← e2]
  exact hf t ht
set_option maxRecDepth 100000 in
set_option maxHeartbeats 16000000 in
theorem copies_any (xa : Option Addr) (cn xc : Nat) (ra : Option Addr) (rn rc : Nat) (cost : List Fr) (lines : List LRow) (w : World) (h : RawW w xa cn xc ra rn rc cost lines) (hln : ∀ r, r ∈ lines → r.n ≤ 1100000) :
    Calls Try.prog 6 #[.agg #[.slice xa cn xc, .slice ra rn rc]] w fun e w' => e = .returned (.bool true) ∧ Below w.heap.size w w' := by
  obtain ⟨m, hm⟩ : ∃ m, min cn 5 = m := ⟨_, rfl⟩
  obtain ⟨n, hn⟩ : ∃ n, min rn 4 = n := ⟨_, rfl⟩
  have hm5 : m ≤ 5 := by omega
  have hn4 : n ≤ 4 := by omega
  have hmc : m ≤ cn := by omega
  have hnr : n ≤ rn := by omega
  have hrt : ∀ W, Below w.heap.size w W → Calls Try.prog 20 #[.agg #[.slice xa cn xc, .slice ra rn rc]] W (RightR m n (cost.take m) (lines.take n) W) := fun W hb => by
    have h1 := right_any xa cn xc ra rn rc cost lines W (h.below hb) hln
    rw [hm, hn] at h1
    exact h1
  have hcut := h.cut m n hmc hnr
  have HRT := Lib.hid hrt
  have HSC := Lib.hid (show ∀ q, q ∈ (cost.take m).map fracQ → Short q from short_frac hcut.cost.ok)
  have HRL := Lib.hid (fun (rows : List PRow) (hr : rows.map prowQ = ((lines.take n).map lineQ).map (rightQ m)) => rightL_rows hm5 hcut.ok hr)
  obtain ⟨w1, hw1⟩ : ∃ w1, w.alloc (.cells #[.slice xa cn xc, .slice ra rn rc] 25) = w1 := ⟨_, rfl⟩
  obtain ⟨qb, hqb⟩ : ∃ qb, w.heap.size = qb := ⟨_, rfl⟩
  have HQB := Lib.hid (show w1.heap[qb]? = some (.cells #[.slice xa cn xc, .slice ra rn rc] 25 (0, 0)) by rw [← hw1, ← hqb]; exact heap_alloc_new w _)
  have HB1 := Lib.hid (show Below w.heap.size w w1 by rw [← hw1]; exact belowBox w _)
  have HAW := Lib.hid (awake_any w1)
  have HW1 := Lib.hid hw1
  have HQE := Lib.hid hqb
  clear h hln hm hn hmc hnr hrt hcut hw1 hqb
  go_enter Try.func6, Try.ntmps6
  go_upto_region 1 with fail
  (try simp only [HW1.out])
  (try simp only [HQE.out])
  clear HW1 HQE
  go_wp2_with fail
  refine HAW.out.mono ?_
  rintro e w2 ⟨rfl, hb⟩
  replace HQB := Lib.hid ((hb.block qb (lt_of_block HQB.out)).trans HQB.out)
  replace HB1 := Lib.hid (bthen HB1.out hb)
  have q0 := cell_of_block (j := 0) HQB.out rfl
  have q1 := cell_of_block (j := 1) HQB.out rfl
  clear hb HAW
  go_wp2_with fail
  clear q0 q1
  refine (HRT.out w2 HB1.out).mono ?_
  rintro e w3 ⟨ca, cc, pa, pc, cs, rows0, rfl, hpr, hcq, hrq⟩
  have hal := belowBox w3 (.cells #[.slice ca m cc, .slice pa n pc] 31)
  have hqq := (hpr.bel.block qb (lt_of_block HQB.out)).trans HQB.out
  have hpw := hpr.prw.below hal
  have HPW := Lib.hid (fun (W : World) (hb : Below (w3.alloc (.cells #[.slice ca m cc, .slice pa n pc] 31)).heap.size (w3.alloc (.cells #[.slice ca m cc, .slice pa n pc] 31)) W) => hpw.below hb)
  have HPX := Lib.hid (heap_alloc_new w3 (.cells #[.slice ca m cc, .slice pa n pc] 31))
  replace HQB := Lib.hid ((hal.block qb (lt_of_block hqq)).trans hqq)
  have HBW3 := Lib.hid (bthen (bthen HB1.out hpr.bel) hal)
  have hrl := HRL.out rows0 hrq
  have HLN := Lib.hid (show ∀ r, r ∈ rows0 → r.n ≤ 1000000 from fun r hr => by
    have h1 := hrl.len r hr
    have h2 := (hpr.ok r hr).1.qlen
    omega)
  have HFC := Lib.hid (show FewL (qs cs) from fun q hq => (HSC.out q (by rw [← hcq]; exact hq)).few)
  have HFR := Lib.hid hrl.few
  have HSH := Lib.hid (show ∀ u, u ∈ cs → Short u.q from fun u hu => HSC.out u.q (by rw [← hcq]; exact List.mem_map_of_mem hu))
  have HCQ := Lib.hid hcq
  have HRQ := Lib.hid hrq
  have HCL := Lib.hid (show cs.length = m from hpr.cost.len)
  clear hpr hcq hrq hal hqq hpw hrl HB1 HRL HSC
  go_upto_region 4 with fail
  generalize w3.heap.size = pb at HPX ⊢
  generalize w3.alloc (.cells #[.slice ca m cc, .slice pa n pc] 31) = w4 at HPX HPW HQB HBW3 ⊢
  have p0 := cell_of_block (j := 0) HPX.out rfl
  have p1 := cell_of_block (j := 1) HPX.out rfl
  go_wp2_with fail
  clear p0 p1
  refine (pcopy_any ca m cc pa n pc cs rows0 w4 (HPW.out w4 (Below.refl _ _)) (by omega) (by omega) HLN.out).mono ?_
  rintro e w5 ⟨ka, kc, la, lc, rows5, rfl, hpr, -⟩
  have hal := belowBox w5 (.cells #[.slice ka m kc, .slice la n lc] 31)
  have HPB := Lib.hid (hpr.call hal)
  have HCB := Lib.hid (heap_alloc_new w5 (.cells #[.slice ka m kc, .slice la n lc] 31))
  clear hpr hal
  go_upto_region 5 with fail
  generalize w5.heap.size = cb at HCB ⊢
  generalize w5.alloc (.cells #[.slice ka m kc, .slice la n lc] 31) = w5b at HPB HCB ⊢
  go_wp2_with fail
  go_loopw [5] (fun iv wr => ∃ (j : Nat) (cs1 : List Rv), j ≤ m ∧ iv = .int .i64 j ∧ PrB w4 ka m kc la n lc cs1 rows5 wr ∧ (∀ i, j ≤ i → cs1[i]? = cs[i]?) ∧ wr.heap[cb]? = some (.cells #[.slice ka m kc, .slice la n lc] 31 (0, 0))) (fun iv _ => m - (intOf iv).toNat)
  case atStart => exact ⟨0, cs, Nat.zero_le _, rfl, HPB.out, fun _ _ => rfl, HCB.out⟩
  case round =>
    obtain ⟨j, cs1, hj, rfl, hpr, hcj, hcb⟩ := hrel
    replace HPB := Lib.hid hpr
    replace HCB := Lib.hid hcb
    have HCJ := Lib.hid hcj
    have z0 := cell_of_block (j := 0) hcb rfl
    by_cases hlt : j < m
    · obtain ⟨g, o, u, e1, e2, -, -, -, -, -⟩ := hpr.cost.vec.get j hlt
      have HUJ := Lib.hid e2
      have HJM := Lib.hid hlt
      have HCA := Lib.hid (canAdd_1 (HSH.out u (by have h1 := hcj j (Nat.le_refl _); rw [e2] at h1; exact List.mem_of_getElem? h1.symm)))
      have i0 : (0 : Int) ≤ (j : Int) := by omega
      have i1 : (j : Int) < (m : Int) := by omega
      subst e1
      clear hpr hcj hcb e2
      go_upto_region 8 with fail
      refine wp_region_held_drew (S := fun W => W.cell? ⟨cb, 0, none⟩ = some (.slice (some ⟨g, o, none⟩) m kc)) (by kernel_rfl) (z0) (fun hHeld => ?_)
      replace HPB := Lib.hid (HPB.out.call (show Below wr.heap.size wr wr.drew from Below.drawn wr 1))
      replace HCB := Lib.hid (((show Below wr.heap.size wr wr.drew from Below.drawn wr 1).block cb (lt_of_block HCB.out)).trans HCB.out)
      generalize wr.drew = wd at HPB HCB hHeld ⊢
      refine tk 0 (some 21) (v := ?_) rfl rfl ?_ ?_
      rotate_left
      · (intro w _; go_simp; (try with_reducible rfl))
      simp only [Act.put, stB, stZ, stS]
      refine tk 1 (some 22) (v := ?_) rfl rfl ?_ ?_
      rotate_left
      · (intro w hSw; (try dsimp only at hSw); go_simp; (try with_reducible rfl))
      simp only [Act.put, stB, stZ, stS]
      refine tk 2 (some 23) (v := ?_) rfl rfl ?_ ?_
      rotate_left
      · (intro w _; go_simp; (try with_reducible rfl))
      simp only [Act.put, stB, stZ, stS]
      refine tk 3 (some 24) (v := ?_) rfl rfl ?_ ?_
      rotate_left
      · (intro w _; go_simp; (try with_reducible rfl))
      simp only [Act.put, stB, stZ, stS]
      refine tk 4 (some 25) (v := ?_) rfl rfl ?_ ?_
      rotate_left
      · (intro w hSw; (try dsimp only at hSw); go_simp; (try with_reducible rfl))
      simp only [Act.put, stB, stZ, stS]
      refine tk 5 (some 26) (v := ?_) rfl rfl ?_ ?_
      rotate_left
      · (intro w _; go_simp; (try with_reducible rfl))
      simp only [Act.put, stB, stZ, stS]
      refine tk 6 (some 27) (v := ?_) rfl rfl ?_ ?_
      rotate_left
      · (intro w hSw; (try dsimp only at hSw); go_simp; (try with_reducible rfl))
      simp only [Act.put, stB, stZ, stS]
      refine wpAnyH_ready (rs := [7, 8]) (by kernel_rfl) (by simp) ?_
      refine (AllReadyH.cons (o := { dst := some 28, op := Op.load 40 (Operand.tmp 27), type := 40, pos := "law.go:211", after := #[{ on := 6, ground := Ground.data }], guard := none }) rfl (fun K hK => ?_) (AllReadyH.cons (o := { dst := some 29, op := Op.call { callee := Callee.value (Operand.func 33), args := #[Operand.const (Value.int IntKind.i64 1)], argTypes := #[3] }, type := 40, pos := "law.go:211", after := #[], guard := none }) rfl (fun K hK => ?_) AllReadyH.nil))
      · skip
        obtain ⟨c0, c1, c2⟩ := HPB.out.cost.at3 HUJ.out
        go_simp
        clear c0 c1 c2
        refine hK.out _ _ (cell_of_block (j := 0) HCB.out rfl) (fun hHeld2 => ?_)
        clear hK K hHeld
        rename _ => hHeld
        try simp only [Act.put, stB, stZ, stS]
        refine wpAnyH_ready (rs := [8]) (by kernel_rfl) (by simp) ?_
        refine (AllReadyH.cons (o := { dst := some 29, op := Op.call { callee := Callee.value (Operand.func 33), args := #[Operand.const (Value.int IntKind.i64 1)], argTypes := #[3] }, type := 40, pos := "law.go:211", after := #[], guard := none }) rfl (fun K hK => ?_) AllReadyH.nil)
        go_simp
        refine (vint_any 1 _ (by unfold I64; omega)).mono ?_
        rintro e X1 ⟨v, rfl, ho, hq, hb⟩
        unfold Rv.val
        have HO := Lib.hid (And.intro ho hq)
        clear ho hq
        replace HPB := Lib.hid (HPB.out.call hb)
        replace HCB := Lib.hid ((hb.block cb (lt_of_block HCB.out)).trans HCB.out)
        clear hb
        refine hK.out _ _ (cell_of_block (j := 0) HCB.out rfl) (fun hHeld2 => ?_)
        clear hK K hHeld
        rename _ => hHeld
        try simp only [Act.put, stB, stZ, stS]
        refine wpAnyH_ready (rs := [9]) (by kernel_rfl) (by simp) ?_
        refine (AllReadyH.cons (o := { dst := some 30, op := Op.call { callee := Callee.value (Operand.func 16), args := #[Operand.tmp 28, Operand.tmp 29], argTypes := #[40, 40] }, type := 40, pos := "law.go:211", after := #[{ on := 7, ground := Ground.data }, { on := 8, ground := Ground.data }, { on := 8, ground := Ground.chain }], guard := none }) rfl (fun K hK => ?_) AllReadyH.nil)
        go_simp
        refine (HCA.out u v _ (HPB.out.cost.ok u (List.mem_of_getElem? HUJ.out)) (by first | exact HO.out.1 | exact HO.out.1.below (Below.refl _ _)) rfl HO.out.2).mono ?_
        rintro e X2 ⟨y, rfl, hyo, hyq, hb⟩
        unfold Rv.val
        have HY := Lib.hid hyo
        clear hyo hyq
        replace HPB := Lib.hid (HPB.out.call hb)
        replace HCB := Lib.hid ((hb.block cb (lt_of_block HCB.out)).trans HCB.out)
        clear hb
        refine hK.out _ _ (cell_of_block (j := 0) HCB.out rfl) (fun hHeld2 => ?_)
        clear hK K hHeld
        rename _ => hHeld
        try simp only [Act.put, stB, stZ, stS]
        refine tk 10 (some 31) (v := ?_) rfl rfl ?_ ?_
        rotate_left
        · (intro w hSw; (try dsimp only at hSw); go_simp; (try with_reducible rfl))
        simp only [Act.put, stB, stZ, stS]
        refine wpAnyH_ready (rs := [11]) (by kernel_rfl) (by simp) ?_
        refine (AllReadyH.cons (o := { dst := none, op := Op.store 40 (Operand.tmp 31) (Operand.tmp 30), type := 0, pos := "law.go:211", after := #[{ on := 10, ground := Ground.data }, { on := 9, ground := Ground.data }, { on := 9, ground := Ground.chain }, { on := 0, ground := Ground.phase }, { on := 1, ground := Ground.phase }, { on := 2, ground := Ground.phase }, { on := 3, ground := Ground.phase }, { on := 4, ground := Ground.phase }, { on := 5, ground := Ground.phase }, { on := 6, ground := Ground.phase }, { on := 7, ground := Ground.phase }, { on := 8, ground := Ground.phase }, { on := 9, ground := Ground.phase }], guard := none }) rfl (fun K hK => ?_) AllReadyH.nil)
        obtain ⟨c0, c1, c2⟩ := HPB.out.cost.at3 HUJ.out
        have f0 := HPB.out.cost.mid.frozen (o + j * 3)
        have f1 := HPB.out.cost.mid.frozen (o + j * 3 + 1)
        have f2 := HPB.out.cost.mid.frozen (o + j * 3 + 2)
        go_simp
        clear c0 c1 c2 f0 f1 f2
        have HPN := Lib.hid (HPB.out.setCost HJM.out HY.out)
        have HCN := Lib.hid (HPB.out.costBox (j := j) (y := y) HCB.out)
        refine hK.out _ _ (cell_of_block (j := 0) HCN.out rfl) (fun hHeld2 => ?_)
        clear hK K hHeld
        rename _ => hHeld
        try simp only [Act.put, stB, stZ, stS]
        refine wpAnyH_done (by kernel_rfl) ?_ _
        (try simp only [Exit.inBlock, Exit.then])
        clear hHeld
        go_wp2_with fail
        go_roundw
        case rel => exact ⟨j + 1, cs1.set j y, by omega, by go_num, HPN.out, fun i hi => by rw [List.getElem?_set_ne (by omega)]; exact HCJ.out i (by omega), HCN.out⟩
        case measure => simp [intOf]; omega
      · skip
        go_simp
        refine (vint_any 1 _ (by unfold I64; omega)).mono ?_
        rintro e X1 ⟨v, rfl, ho, hq, hb⟩
        unfold Rv.val
        have HO := Lib.hid (And.intro ho hq)
        clear ho hq
        replace HPB := Lib.hid (HPB.out.call hb)
        replace HCB := Lib.hid ((hb.block cb (lt_of_block HCB.out)).trans HCB.out)
        clear hb
        refine hK.out _ _ (cell_of_block (j := 0) HCB.out rfl) (fun hHeld2 => ?_)
        clear hK K hHeld
        rename _ => hHeld
        try simp only [Act.put, stB, stZ, stS]
        refine wpAnyH_ready (rs := [7]) (by kernel_rfl) (by simp) ?_
        refine (AllReadyH.cons (o := { dst := some 28, op := Op.load 40 (Operand.tmp 27), type := 40, pos := "law.go:211", after := #[{ on := 6, ground := Ground.data }], guard := none }) rfl (fun K hK => ?_) AllReadyH.nil)
        obtain ⟨c0, c1, c2⟩ := HPB.out.cost.at3 HUJ.out
        go_simp
        clear c0 c1 c2
        refine hK.out _ _ (cell_of_block (j := 0) HCB.out rfl) (fun hHeld2 => ?_)
        clear hK K hHeld
        rename _ => hHeld
        try simp only [Act.put, stB, stZ, stS]
        refine wpAnyH_ready (rs := [9]) (by kernel_rfl) (by simp) ?_
        refine (AllReadyH.cons (o := { dst := some 30, op := Op.call { callee := Callee.value (Operand.func 16), args := #[Operand.tmp 28, Operand.tmp 29], argTypes := #[40, 40] }, type := 40, pos := "law.go:211", after := #[{ on := 7, ground := Ground.data }, { on := 8, ground := Ground.data }, { on := 8, ground := Ground.chain }], guard := none }) rfl (fun K hK => ?_) AllReadyH.nil)
        go_simp
        refine (HCA.out u v _ (HPB.out.cost.ok u (List.mem_of_getElem? HUJ.out)) (by first | exact HO.out.1 | exact HO.out.1.below (Below.refl _ _)) rfl HO.out.2).mono ?_
        rintro e X2 ⟨y, rfl, hyo, hyq, hb⟩
        unfold Rv.val
        have HY := Lib.hid hyo
        clear hyo hyq
        replace HPB := Lib.hid (HPB.out.call hb)
        replace HCB := Lib.hid ((hb.block cb (lt_of_block HCB.out)).trans HCB.out)
        clear hb
        refine hK.out _ _ (cell_of_block (j := 0) HCB.out rfl) (fun hHeld2 => ?_)
        clear hK K hHeld
        rename _ => hHeld
        try simp only [Act.put, stB, stZ, stS]
        refine tk 10 (some 31) (v := ?_) rfl rfl ?_ ?_
        rotate_left
        · (intro w hSw; (try dsimp only at hSw); go_simp; (try with_reducible rfl))
        simp only [Act.put, stB, stZ, stS]
        refine wpAnyH_ready (rs := [11]) (by kernel_rfl) (by simp) ?_
        refine (AllReadyH.cons (o := { dst := none, op := Op.store 40 (Operand.tmp 31) (Operand.tmp 30), type := 0, pos := "law.go:211", after := #[{ on := 10, ground := Ground.data }, { on := 9, ground := Ground.data }, { on := 9, ground := Ground.chain }, { on := 0, ground := Ground.phase }, { on := 1, ground := Ground.phase }, { on := 2, ground := Ground.phase }, { on := 3, ground := Ground.phase }, { on := 4, ground := Ground.phase }, { on := 5, ground := Ground.phase }, { on := 6, ground := Ground.phase }, { on := 7, ground := Ground.phase }, { on := 8, ground := Ground.phase }, { on := 9, ground := Ground.phase }], guard := none }) rfl (fun K hK => ?_) AllReadyH.nil)
        obtain ⟨c0, c1, c2⟩ := HPB.out.cost.at3 HUJ.out
        have f0 := HPB.out.cost.mid.frozen (o + j * 3)
        have f1 := HPB.out.cost.mid.frozen (o + j * 3 + 1)
        have f2 := HPB.out.cost.mid.frozen (o + j * 3 + 2)
        go_simp
        clear c0 c1 c2 f0 f1 f2
        have HPN := Lib.hid (HPB.out.setCost HJM.out HY.out)
        have HCN := Lib.hid (HPB.out.costBox (j := j) (y := y) HCB.out)
        refine hK.out _ _ (cell_of_block (j := 0) HCN.out rfl) (fun hHeld2 => ?_)
        clear hK K hHeld
        rename _ => hHeld
        try simp only [Act.put, stB, stZ, stS]
        refine wpAnyH_done (by kernel_rfl) ?_ _
        (try simp only [Exit.inBlock, Exit.then])
        clear hHeld
        go_wp2_with fail
        go_roundw
        case rel => exact ⟨j + 1, cs1.set j y, by omega, by go_num, HPN.out, fun i hi => by rw [List.getElem?_set_ne (by omega)]; exact HCJ.out i (by omega), HCN.out⟩
        case measure => simp [intOf]; omega
    · obtain rfl : m = j := by omega
      clear hpr hcj hcb
      go_wp2_with fail
      clear z0
      go_loopw [6] (fun iv wz => ∃ (k : Nat) (rows6 : List PRow), k ≤ n ∧ iv = .int .i64 k ∧ PrB w4 ka m kc la n lc cs1 rows6 wz ∧ wz.heap[cb]? = some (.cells #[.slice ka m kc, .slice la n lc] 31 (0, 0))) (fun iv _ => n - (intOf iv).toNat)
      case atStart => exact ⟨0, rows5, Nat.zero_le _, rfl, HPB.out, HCB.out⟩
      case round =>
        obtain ⟨k, rows6, hk, rfl, hpr, hcb⟩ := hrel
        replace HPB := Lib.hid hpr
        replace HCB := Lib.hid hcb
        have z1 := cell_of_block (j := 1) hcb rfl
        by_cases hlt2 : k < n
        · obtain ⟨b, o, r, e1, e2, -⟩ := hpr.prw.get k hlt2
          have HRK := Lib.hid e2
          have i0 : (0 : Int) ≤ (k : Int) := by omega
          have i1 : (k : Int) < (n : Int) := by omega
          subst e1
          clear hpr hcb e2
          go_upto_region 12 with fail
          go_cut [] (fun wx => ∃ (rows7 : List PRow) (r7 : PRow), PrB w4 ka m kc (some ⟨b, o, none⟩) n lc cs1 rows7 wx ∧ rows7[k]? = some r7 ∧ wx.heap[cb]? = some (.cells #[.slice ka m kc, .slice (some ⟨b, o, none⟩) n lc] 31 (0, 0)))
          case first =>
            refine wp_region_held_drew (S := fun W => W.cell? ⟨cb, 1, none⟩ = some (.slice (some ⟨b, o, none⟩) n lc)) (by kernel_rfl) (z1) (fun hHeld => ?_)
            replace HPB := Lib.hid (HPB.out.call (show Below wr.heap.size wr wr.drew from Below.drawn wr 1))
            replace HCB := Lib.hid (((show Below wr.heap.size wr wr.drew from Below.drawn wr 1).block cb (lt_of_block HCB.out)).trans HCB.out)
            generalize wr.drew = wd at HPB HCB hHeld ⊢
            refine tk 0 (some 39) (v := ?_) rfl rfl ?_ ?_
            rotate_left
            · (intro w _; go_simp; (try with_reducible rfl))
            simp only [Act.put, stB, stZ, stS]
            refine tk 1 (some 40) (v := ?_) rfl rfl ?_ ?_
            rotate_left
            · (intro w hSw; (try dsimp only at hSw); go_simp; (try with_reducible rfl))
            simp only [Act.put, stB, stZ, stS]
            refine tk 2 (some 41) (v := ?_) rfl rfl ?_ ?_
            rotate_left
            · (intro w _; go_simp; (try with_reducible rfl))
            simp only [Act.put, stB, stZ, stS]
            refine wpAnyH_ready (rs := [3]) (by kernel_rfl) (by simp) ?_
            refine (AllReadyH.cons (o := { dst := some 42, op := Op.call { callee := Callee.value (Operand.func 33), args := #[Operand.const (Value.int IntKind.i64 77)], argTypes := #[3] }, type := 40, pos := "law.go:214", after := #[], guard := none }) rfl (fun K hK => ?_) AllReadyH.nil)
            go_simp
            refine (vint_any 77 _ (by unfold I64; omega)).mono ?_
            rintro e X1 ⟨v, rfl, ho, hq, hb⟩
            unfold Rv.val
            have HO := Lib.hid (And.intro ho hq)
            clear ho hq
            replace HPB := Lib.hid (HPB.out.call hb)
            replace HCB := Lib.hid ((hb.block cb (lt_of_block HCB.out)).trans HCB.out)
            clear hb
            refine hK.out _ _ (cell_of_block (j := 1) HCB.out rfl) (fun hHeld2 => ?_)
            clear hK K hHeld
            rename _ => hHeld
            try simp only [Act.put, stB, stZ, stS]
            refine tk 4 (some 43) (v := ?_) rfl rfl ?_ ?_
            rotate_left
            · (intro w hSw; (try dsimp only at hSw); go_simp; (try with_reducible rfl))
            simp only [Act.put, stB, stZ, stS]
            refine tk 5 (some 44) (v := ?_) rfl rfl ?_ ?_
            rotate_left
            · (intro w _; go_simp; (try with_reducible rfl))
            simp only [Act.put, stB, stZ, stS]
            refine wpAnyH_ready (rs := [6]) (by kernel_rfl) (by simp) ?_
            refine (AllReadyH.cons (o := { dst := none, op := Op.store 40 (Operand.tmp 44) (Operand.tmp 42), type := 0, pos := "law.go:214", after := #[{ on := 5, ground := Ground.data }, { on := 3, ground := Ground.data }, { on := 3, ground := Ground.chain }, { on := 0, ground := Ground.phase }, { on := 1, ground := Ground.phase }, { on := 2, ground := Ground.phase }, { on := 3, ground := Ground.phase }], guard := none }) rfl (fun K hK => ?_) AllReadyH.nil)
            obtain ⟨c0, c1, c2⟩ := And.intro (HPB.out.mid.prow HRK.out).2.2.1 (And.intro (HPB.out.mid.prow HRK.out).2.2.2.1 (HPB.out.mid.prow HRK.out).2.2.2.2)
            have f0 := HPB.out.mid.frozen (o + k * 5 + 2)
            have f1 := HPB.out.mid.frozen (o + k * 5 + 3)
            have f2 := HPB.out.mid.frozen (o + k * 5 + 4)
            go_simp
            clear c0 c1 c2 f0 f1 f2
            have HPN := Lib.hid (HPB.out.setRhs HRK.out HO.out.1)
            have HCN := Lib.hid (HPB.out.rhsBox (k := k) (y := v) HCB.out)
            refine hK.out _ _ (cell_of_block (j := 1) HCN.out rfl) (fun hHeld2 => ?_)
            clear hK K hHeld
            rename _ => hHeld
            try simp only [Act.put, stB, stZ, stS]
            refine wpAnyH_done (by kernel_rfl) ?_ _
            (try simp only [Exit.inBlock, Exit.then])
            clear hHeld
            go_wp2_with fail
            go_meet
            exact ⟨_, _, HPN.out, List.getElem?_set_self (List.getElem?_eq_some_iff.1 HRK.out).1, HCN.out⟩
          case rest =>
            obtain ⟨w7, hwc⟩ : ∃ W : World, W = wc := ⟨_, rfl⟩
            subst hwc
            obtain ⟨rows7, r7, hpr, hr7, hcb⟩ := hcut
            replace HPB := Lib.hid hpr
            replace HCB := Lib.hid hcb
            replace HRK := Lib.hid hr7
            obtain ⟨N0, hN0⟩ : ∃ N0, r7.n = N0 := ⟨_, rfl⟩
            have HN0 := Lib.hid hN0
            clear z1 hpr hcb hr7 hN0
            go_wp2_with fail
            go_loopw [7] (fun iv wz => ∃ (j : Nat) (rows8 : List PRow) (r8 : PRow), j ≤ N0 ∧ iv = .int .i64 j ∧ PrB w4 ka m kc (some ⟨b, o, none⟩) n lc cs1 rows8 wz ∧ rows8[k]? = some r8 ∧ r8.n = N0 ∧ wz.heap[cb]? = some (.cells #[.slice ka m kc, .slice (some ⟨b, o, none⟩) n lc] 31 (0, 0))) (fun iv _ => N0 - (intOf iv).toNat)
            case atStart => exact ⟨0, rows7, r7, Nat.zero_le _, rfl, HPB.out, HRK.out, HN0.out, HCB.out⟩
            case round =>
              obtain ⟨j, rows8, ⟨a8, n8, c8, f8, k8, h8⟩, hj8, rfl, hpr, hr8, hn8, hcb⟩ := hrel
              have hn9 : n8 = N0 := hn8
              subst hn9
              replace HPB := Lib.hid hpr
              replace HCB := Lib.hid hcb
              replace HRK := Lib.hid hr8
              have z1 := cell_of_block (j := 1) hcb rfl
              have y0 : wr.cell? ⟨b, o + k * 5, none⟩ = some (.slice a8 n8 c8) := (hpr.mid.prow hr8).1
              have i0 : (0 : Int) ≤ (k : Int) := by omega
              have i1 : (k : Int) < (n : Int) := by omega
              by_cases hlt3 : j < n8
              · obtain ⟨g, o2, u, e1, e2, -⟩ := (hpr.ok _ (List.mem_of_getElem? hr8)).1.vec.get j hlt3
                have e3 : a8 = some ⟨g, o2, none⟩ := e1
                have hlm : n8 ≤ 9223372036854775807 := (hpr.ok _ (List.mem_of_getElem? hr8)).1.vec.sl.lenI.1
                have HUJ := Lib.hid (show f8[j]? = some u from e2)
                have HJM := Lib.hid (show j < (⟨a8, n8, c8, f8, k8, h8⟩ : PRow).n from hlt3)
                have j0 : (0 : Int) ≤ (j : Int) := by omega
                have j1 : (j : Int) < (n8 : Int) := by omega
                clear e1 e2
                subst e3
                clear hpr hcb hr8 hn8
                go_upto_region 16 with fail
                refine wp_region_held_drew (S := fun W => W.cell? ⟨cb, 1, none⟩ = some (.slice (some ⟨b, o, none⟩) n lc) ∧ W.cell? ⟨b, o + k * 5, none⟩ = some (.slice (some ⟨g, o2, none⟩) n8 c8)) (by kernel_rfl) (⟨z1, y0⟩) (fun hHeld => ?_)
                replace HPB := Lib.hid (HPB.out.call (show Below wr.heap.size wr wr.drew from Below.drawn wr 1))
                replace HCB := Lib.hid (((show Below wr.heap.size wr wr.drew from Below.drawn wr 1).block cb (lt_of_block HCB.out)).trans HCB.out)
                generalize wr.drew = wd at HPB HCB hHeld ⊢
                refine tk 0 (some 56) (v := ?_) rfl rfl ?_ ?_
                rotate_left
                · (intro w _; go_simp; (try with_reducible rfl))
                simp only [Act.put, stB, stZ, stS]
                refine tk 1 (some 57) (v := ?_) rfl rfl ?_ ?_
                rotate_left
                · (intro w hSw; (try dsimp only at hSw); ((try obtain ⟨hS0, hS1⟩ := hSw); go_simp); (try with_reducible rfl))
                simp only [Act.put, stB, stZ, stS]
                refine tk 2 (some 58) (v := ?_) rfl rfl ?_ ?_
                rotate_left
                · (intro w _; go_simp; (try with_reducible rfl))
                simp only [Act.put, stB, stZ, stS]
                refine tk 3 (some 59) (v := ?_) rfl rfl ?_ ?_
                rotate_left
                · (intro w hSw; (try dsimp only at hSw); ((try obtain ⟨hS0, hS1⟩ := hSw); go_simp); (try with_reducible rfl))
                simp only [Act.put, stB, stZ, stS]
                refine tk 4 (some 60) (v := ?_) rfl rfl ?_ ?_
                rotate_left
                · (intro w _; go_simp; (try with_reducible rfl))
                simp only [Act.put, stB, stZ, stS]
                refine tk 5 (some 61) (v := ?_) rfl rfl ?_ ?_
                rotate_left
                · (intro w hSw; (try dsimp only at hSw); ((try obtain ⟨hS0, hS1⟩ := hSw); go_simp); (try with_reducible rfl))
                simp only [Act.put, stB, stZ, stS]
                refine tk 6 (some 62) (v := ?_) rfl rfl ?_ ?_
                rotate_left
                · (intro w _; go_simp; (try with_reducible rfl))
                simp only [Act.put, stB, stZ, stS]
                refine wpAnyH_ready (rs := [7]) (by kernel_rfl) (by simp) ?_
                refine (AllReadyH.cons (o := { dst := some 63, op := Op.call { callee := Callee.value (Operand.func 33), args := #[Operand.const (Value.int IntKind.i64 78)], argTypes := #[3] }, type := 40, pos := "law.go:216", after := #[], guard := none }) rfl (fun K hK => ?_) AllReadyH.nil)
                go_simp
                refine (vint_any 78 _ (by unfold I64; omega)).mono ?_
                rintro e X1 ⟨v, rfl, ho, hq, hb⟩
                unfold Rv.val
                have HO := Lib.hid (And.intro ho hq)
                clear ho hq
                replace HPB := Lib.hid (HPB.out.call hb)
                replace HCB := Lib.hid ((hb.block cb (lt_of_block HCB.out)).trans HCB.out)
                clear hb
                refine hK.out _ _ (And.intro (cell_of_block (j := 1) HCB.out rfl) (HPB.out.mid.prow HRK.out).1) (fun hHeld2 => ?_)
                clear hK K hHeld
                rename _ => hHeld
                try simp only [Act.put, stB, stZ, stS]
                refine tk 8 (some 64) (v := ?_) rfl rfl ?_ ?_
                rotate_left
                · (intro w hSw; (try dsimp only at hSw); ((try obtain ⟨hS0, hS1⟩ := hSw); go_simp); (try with_reducible rfl))
                simp only [Act.put, stB, stZ, stS]
                refine wpAnyH_ready (rs := [9]) (by kernel_rfl) (by simp) ?_
                refine (AllReadyH.cons (o := { dst := none, op := Op.store 40 (Operand.tmp 64) (Operand.tmp 63), type := 0, pos := "law.go:216", after := #[{ on := 8, ground := Ground.data }, { on := 7, ground := Ground.data }, { on := 7, ground := Ground.chain }, { on := 0, ground := Ground.phase }, { on := 1, ground := Ground.phase }, { on := 2, ground := Ground.phase }, { on := 3, ground := Ground.phase }, { on := 4, ground := Ground.phase }, { on := 5, ground := Ground.phase }, { on := 6, ground := Ground.phase }, { on := 7, ground := Ground.phase }], guard := none }) rfl (fun K hK => ?_) AllReadyH.nil)
                obtain ⟨c0, c1, c2⟩ := (HPB.out.ok _ (List.mem_of_getElem? HRK.out)).1.at3 HUJ.out
                have f0 := (HPB.out.ok _ (List.mem_of_getElem? HRK.out)).1.mid.frozen (o2 + j * 3)
                have f1 := (HPB.out.ok _ (List.mem_of_getElem? HRK.out)).1.mid.frozen (o2 + j * 3 + 1)
                have f2 := (HPB.out.ok _ (List.mem_of_getElem? HRK.out)).1.mid.frozen (o2 + j * 3 + 2)
                go_simp
                clear c0 c1 c2 f0 f1 f2
                have HPN := Lib.hid (HPB.out.setCoef HRK.out rfl HJM.out HO.out.1)
                have HCN := Lib.hid (HPB.out.coefBox (j := j) (y := v) HRK.out rfl HCB.out)
                refine hK.out _ _ (And.intro (cell_of_block (j := 1) HCN.out rfl) (HPN.out.mid.prow (List.getElem?_set_self (List.getElem?_eq_some_iff.1 HRK.out).1)).1) (fun hHeld2 => ?_)
                clear hK K hHeld
                rename _ => hHeld
                try simp only [Act.put, stB, stZ, stS]
                refine wpAnyH_done (by kernel_rfl) ?_ _
                (try simp only [Exit.inBlock, Exit.then])
                clear hHeld
                go_wp2_with fail
                go_roundw
                case rel => exact ⟨j + 1, _, _, by omega, by go_num, HPN.out, List.getElem?_set_self (List.getElem?_eq_some_iff.1 HRK.out).1, rfl, HCN.out⟩
                case measure => simp [intOf]; omega
              · clear hpr hr8 hn8
                have HCC := Lib.hid hcb
                clear hcb
                go_wp2_with fail
                go_roundw
                case rel => exact ⟨k + 1, rows8, by omega, by go_num, HPB.out, HCC.out⟩
                case measure => simp [intOf]; omega
        · obtain rfl : n = k := by omega
          have HBX := Lib.hid hpr.bel
          have p0 := cell_of_block (j := 0) ((hpr.bel.block pb (lt_of_block HPX.out)).trans HPX.out) rfl
          have p1 := cell_of_block (j := 1) ((hpr.bel.block pb (lt_of_block HPX.out)).trans HPX.out) rfl
          have q0 := cell_of_block (j := 0) ((hpr.bel.block qb (lt_of_block HQB.out)).trans HQB.out) rfl
          have q1 := cell_of_block (j := 1) ((hpr.bel.block qb (lt_of_block HQB.out)).trans HQB.out) rfl
          have z0 := cell_of_block (j := 0) hcb rfl
          obtain ⟨w6, hw6⟩ : ∃ w6 : World, w6 = wr := ⟨_, rfl⟩
          subst hw6
          clear hpr hcb HPB HCB
          go_upto_region 17 with fail
          refine wp_region_held_drew (S := fun W => W.cell? ⟨pb, 0, none⟩ = some (.slice ca m cc) ∧ W.cell? ⟨pb, 1, none⟩ = some (.slice pa n pc) ∧ W.cell? ⟨qb, 0, none⟩ = some (.slice xa cn xc) ∧ W.cell? ⟨qb, 1, none⟩ = some (.slice ra rn rc) ∧ W.cell? ⟨cb, 0, none⟩ = some (.slice ka m kc) ∧ W.cell? ⟨cb, 1, none⟩ = some (.slice la n lc)) (by kernel_rfl) (⟨p0, p1, q0, q1, z0, z1⟩) (fun hHeld => ?_)
          replace HBX := Lib.hid (bthen HBX.out (show Below w6.heap.size w6 w6.drew from Below.drawn w6 1))
          generalize w6.drew = wd at HBX hHeld ⊢
          refine tk 0 (some 65) (v := ?_) rfl rfl ?_ ?_
          rotate_left
          · (intro w hSw; (try dsimp only at hSw); ((try obtain ⟨hS0, hS1, hS2, hS3, hS4, hS5⟩ := hSw); go_simp); (try with_reducible rfl))
          simp only [Act.put, stB, stZ, stS]
          refine tk 1 (some 66) (v := ?_) rfl rfl ?_ ?_
          rotate_left
          · (intro w hSw; (try dsimp only at hSw); ((try obtain ⟨hS0, hS1, hS2, hS3, hS4, hS5⟩ := hSw); go_simp); (try with_reducible rfl))
          simp only [Act.put, stB, stZ, stS]
          refine wpAnyH_ready (rs := [2]) (by kernel_rfl) (by simp) ?_
          refine (AllReadyH.cons (o := { dst := some 67, op := Op.call { callee := Callee.value (Operand.func 20), args := #[Operand.tmp 66], argTypes := #[25] }, type := 31, pos := "law.go:219", after := #[{ on := 1, ground := Ground.data }], guard := none }) rfl (fun K hK => ?_) AllReadyH.nil)
          go_simp
          refine (HRT.out wd (bthen HBW3.out HBX.out)).mono ?_
          rintro e X1 ⟨ca2, cc2, pa2, pc2, cs2, rows2, rfl, hp2, hq2, hr2⟩
          have hb := hp2.bel
          have HP2 := Lib.hid (And.intro hp2.prw (And.intro hq2 hr2))
          clear hp2 hq2 hr2
          replace HBX := Lib.hid (bthen HBX.out hb)
          have hKK := And.intro (hu hb (hHeld.1)) <| And.intro (hu hb (hHeld.2.1)) <| And.intro (hu hb (hHeld.2.2.1)) <| And.intro (hu hb (hHeld.2.2.2.1)) <| And.intro (hu hb (hHeld.2.2.2.2.1)) <| hu hb (hHeld.2.2.2.2.2)
          clear hb
          refine hK.out _ _ (hKK) (fun hHeld2 => ?_)
          clear hK K hHeld
          rename _ => hHeld
          try simp only [Act.put, stB, stZ, stS]
          refine wpAnyH_ready (rs := [3]) (by kernel_rfl) (by simp) ?_
          refine (AllReadyH.cons (o := { dst := some 68, op := Op.call { callee := Callee.value (Operand.func 34), args := #[Operand.tmp 65, Operand.tmp 67], argTypes := #[31, 31] }, type := 4, pos := "law.go:219", after := #[{ on := 0, ground := Ground.data }, { on := 2, ground := Ground.data }, { on := 2, ground := Ground.chain }], guard := none }) rfl (fun K hK => ?_) AllReadyH.nil)
          go_simp
          refine (psame_any ca m cc pa n pc cs rows0 ca2 cc2 pa2 pc2 cs2 rows2 X1 (HPW.out X1 HBX.out) HP2.out.1 (HCQ.out.trans HP2.out.2.1.symm) (HRQ.out.trans HP2.out.2.2.symm) HFC.out HFR.out).mono ?_
          rintro e X2 ⟨rfl, hb⟩
          clear HP2
          replace HBX := Lib.hid (bthen HBX.out hb)
          have hKK := And.intro (hu hb (hHeld.1)) <| And.intro (hu hb (hHeld.2.1)) <| And.intro (hu hb (hHeld.2.2.1)) <| And.intro (hu hb (hHeld.2.2.2.1)) <| And.intro (hu hb (hHeld.2.2.2.2.1)) <| hu hb (hHeld.2.2.2.2.2)
          clear hb
          refine hK.out _ _ (hKK) (fun hHeld2 => ?_)
          clear hK K hHeld
          rename _ => hHeld
          try simp only [Act.put, stB, stZ, stS]
          refine tk 4 (some 69) (v := ?_) rfl rfl ?_ ?_
          rotate_left
          · (intro w _; go_simp; (try with_reducible rfl))
          simp only [Act.put, stB, stZ, stS]
          refine tk 5 (some 70) (v := ?_) rfl rfl ?_ ?_
          rotate_left
          · (intro w hSw; (try dsimp only at hSw); ((try obtain ⟨hS0, hS1, hS2, hS3, hS4, hS5⟩ := hSw); go_simp); (try with_reducible rfl))
          simp only [Act.put, stB, stZ, stS]
          refine tk 7 (some 72) (v := ?_) rfl rfl ?_ ?_
          rotate_left
          · (intro w hSw; (try dsimp only at hSw); ((try obtain ⟨hS0, hS1, hS2, hS3, hS4, hS5⟩ := hSw); go_simp); (try with_reducible rfl))
          simp only [Act.put, stB, stZ, stS]
          refine wpAnyH_ready (rs := [6]) (by kernel_rfl) (by simp) ?_
          refine (AllReadyH.cons (o := { dst := some 71, op := Op.call { callee := Callee.value (Operand.func 32), args := #[Operand.tmp 70], argTypes := #[31] }, type := 31, pos := "law.go:219", after := #[{ on := 5, ground := Ground.data }, { on := 4, ground := Ground.chain }, { on := 4, ground := Ground.guard }], guard := some (4, true) }) rfl (fun K hK => ?_) AllReadyH.nil)
          go_simp
          refine (pcopy_any ca m cc pa n pc cs rows0 X2 (HPW.out X2 HBX.out) (by omega) (by omega) HLN.out).mono ?_
          rintro e X3 ⟨ca3, cc3, pa3, pc3, rows3, rfl, hp3, hr3⟩
          have hb := hp3.bel
          have HP3 := Lib.hid (And.intro hp3.prw hr3)
          clear hp3 hr3
          replace HBX := Lib.hid (bthen HBX.out hb)
          have hKK := And.intro (hu hb (hHeld.1)) <| And.intro (hu hb (hHeld.2.1)) <| And.intro (hu hb (hHeld.2.2.1)) <| And.intro (hu hb (hHeld.2.2.2.1)) <| And.intro (hu hb (hHeld.2.2.2.2.1)) <| hu hb (hHeld.2.2.2.2.2)
          clear hb
          refine hK.out _ _ (hKK) (fun hHeld2 => ?_)
          clear hK K hHeld
          rename _ => hHeld
          try simp only [Act.put, stB, stZ, stS]
          refine wpAnyH_ready (rs := [8]) (by kernel_rfl) (by simp) ?_
          refine (AllReadyH.cons (o := { dst := some 73, op := Op.call { callee := Callee.value (Operand.func 34), args := #[Operand.tmp 71, Operand.tmp 72], argTypes := #[31, 31] }, type := 4, pos := "law.go:219", after := #[{ on := 6, ground := Ground.data }, { on := 7, ground := Ground.data }, { on := 6, ground := Ground.chain }, { on := 4, ground := Ground.guard }], guard := some (4, true) }) rfl (fun K hK => ?_) AllReadyH.nil)
          go_simp
          refine (psame_any ca3 m cc3 pa3 n pc3 cs rows3 ca cc pa pc cs rows0 X3 HP3.out.1 (HPW.out X3 HBX.out) rfl HP3.out.2 HFC.out (few_map HP3.out.2 HFR.out)).mono ?_
          rintro e X4 ⟨rfl, hb⟩
          clear HP3
          replace HBX := Lib.hid (bthen HBX.out hb)
          have hKK := And.intro (hu hb (hHeld.1)) <| And.intro (hu hb (hHeld.2.1)) <| And.intro (hu hb (hHeld.2.2.1)) <| And.intro (hu hb (hHeld.2.2.2.1)) <| And.intro (hu hb (hHeld.2.2.2.2.1)) <| hu hb (hHeld.2.2.2.2.2)
          clear hb
          refine hK.out _ _ (hKK) (fun hHeld2 => ?_)
          clear hK K hHeld
          rename _ => hHeld
          try simp only [Act.put, stB, stZ, stS]
          refine tk 9 (some 74) (v := ?_) rfl rfl ?_ ?_
          rotate_left
          · (intro w _; go_simp; (try with_reducible rfl))
          simp only [Act.put, stB, stZ, stS]
          refine tk 10 (some 75) (v := ?_) rfl rfl ?_ ?_
          rotate_left
          · (intro w _; go_simp; (try with_reducible rfl))
          simp only [Act.put, stB, stZ, stS]
          refine tk 11 (some 76) (v := ?_) rfl rfl ?_ ?_
          rotate_left
          · (intro w _; go_simp; (try with_reducible rfl))
          simp only [Act.put, stB, stZ, stS]
          refine tk 12 (some 77) (v := ?_) rfl rfl ?_ ?_
          rotate_left
          · (intro w hSw; (try dsimp only at hSw); ((try obtain ⟨hS0, hS1, hS2, hS3, hS4, hS5⟩ := hSw); go_simp); (try with_reducible rfl))
          simp only [Act.put, stB, stZ, stS]
          refine tk 13 (some 78) (v := ?_) rfl rfl ?_ ?_
          rotate_left
          · (intro w _; go_simp; (try with_reducible rfl))
          simp only [Act.put, stB, stZ, stS]
          refine tk 14 (some 79) (v := ?_) rfl rfl ?_ ?_
          rotate_left
          · (intro w _; go_simp; (try with_reducible rfl))
          simp only [Act.put, stB, stZ, stS]
          refine tk 15 (some 80) (v := ?_) rfl rfl ?_ ?_
          rotate_left
          · (intro w hSw; (try dsimp only at hSw); ((try obtain ⟨hS0, hS1, hS2, hS3, hS4, hS5⟩ := hSw); go_simp); (try with_reducible rfl))
          simp only [Act.put, stB, stZ, stS]
          refine tk 16 (some 81) (v := ?_) rfl rfl ?_ ?_
          rotate_left
          · (intro w _; go_simp; (try with_reducible rfl))
          simp only [Act.put, stB, stZ, stS]
          refine tk 17 (some 82) (v := ?_) rfl rfl ?_ ?_
          rotate_left
          · (intro w _; go_simp; (try with_reducible rfl))
          simp only [Act.put, stB, stZ, stS]
          refine tk 18 (some 83) (v := ?_) rfl rfl ?_ ?_
          rotate_left
          · (intro w _; go_simp; (try with_reducible rfl))
          simp only [Act.put, stB, stZ, stS]
          refine tk 19 (some 84) (v := ?_) rfl rfl ?_ ?_
          rotate_left
          · (intro w _; go_simp; (try with_reducible rfl))
          simp only [Act.put, stB, stZ, stS]
          refine tk 20 (some 85) (v := ?_) rfl rfl ?_ ?_
          rotate_left
          · (intro w _; go_simp; (try with_reducible rfl))
          simp only [Act.put, stB, stZ, stS]
          refine tk 21 (some 86) (v := ?_) rfl rfl ?_ ?_
          rotate_left
          · (intro w hSw; (try dsimp only at hSw); ((try obtain ⟨hS0, hS1, hS2, hS3, hS4, hS5⟩ := hSw); go_simp); (try with_reducible rfl))
          simp only [Act.put, stB, stZ, stS]
          refine tk 22 (some 87) (v := ?_) rfl rfl ?_ ?_
          rotate_left
          · (intro w _; go_simp; (try with_reducible rfl))
          simp only [Act.put, stB, stZ, stS]
          refine tk 23 (some 88) (v := ?_) rfl rfl ?_ ?_
          rotate_left
          · (intro w _; go_simp; (try with_reducible rfl))
          simp only [Act.put, stB, stZ, stS]
          refine tk 24 (some 89) (v := ?_) rfl rfl ?_ ?_
          rotate_left
          · (intro w hSw; (try dsimp only at hSw); ((try obtain ⟨hS0, hS1, hS2, hS3, hS4, hS5⟩ := hSw); go_simp); (try with_reducible rfl))
          simp only [Act.put, stB, stZ, stS]
          refine tk 25 (some 90) (v := ?_) rfl rfl ?_ ?_
          rotate_left
          · (intro w _; go_simp; (try with_reducible rfl))
          simp only [Act.put, stB, stZ, stS]
          refine tk 26 (some 91) (v := ?_) rfl rfl ?_ ?_
          rotate_left
          · (intro w _; go_simp; (try with_reducible rfl))
          simp only [Act.put, stB, stZ, stS]
          refine tk 27 (some 92) (v := ?_) rfl rfl ?_ ?_
          rotate_left
          · (intro w _; go_simp; (try with_reducible rfl))
          simp only [Act.put, stB, stZ, stS]
          refine tk 28 (some 2) (v := ?_) rfl rfl ?_ ?_
          rotate_left
          · (intro w _; go_simp; (try with_reducible rfl))
          simp only [Act.put, stB, stZ, stS]
          refine wpAnyH_done (by kernel_rfl) ?_ _
          (try simp only [Exit.inBlock, Exit.then])
          clear hHeld
          go_wp2_with fail
          go_ret
          exact ⟨rfl, bthen HBW3.out HBX.out⟩
end Go.Proofs.Ytndndfobkbeolaa
