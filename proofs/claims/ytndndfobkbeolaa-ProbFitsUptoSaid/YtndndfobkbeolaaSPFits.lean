/-
  ProbFits of actuarylaw16 answers true; the conditions: what is handed in is in memory, and is not too much.
  Printed by a program of this repository (wip/pc7.py).
-/
import Derived.Test.YtndndfobkbeolaaSG
import Derived.Test.YtndndfobkbeolaaSV
import Derived.Test.YtndndfobkbeolaaSL
import Derived.Test.YtndndfobkbeolaaSK
set_option linter.unusedVariables false
set_option linter.unusedSimpArgs false
namespace Go.Proofs.Ytndndfobkbeolaa
open Go.RowKit Go.Extern.Stop Go.Stop Go.Extern
theorem num_le0 (q : Rat) : q.num ≤ 0 ↔ q ≤ 0 := by
  rw [← Rat.not_lt, Rat.lt_iff]; simp
theorem kind_cases {r : PRow} {vs : List Rv} {yn : Nat} {SQ : Rat} {z : Int} {H : Bool} (hn : r.n = yn) (hS : SQ = dotQ (qs r.coef) (qs vs)) (hz : cmpR SQ r.rhs.q = z) (hH : rowHolds r vs yn = H) :
    (r.kind = 1 ∧ H = decide (z ≤ 0)) ∨ (r.kind = 2 ∧ H = decide (0 ≤ z)) ∨ (r.kind = 3 ∧ H = (z == 0)) ∨ (r.kind ≠ 1 ∧ r.kind ≠ 2 ∧ r.kind ≠ 3 ∧ H = false) := by
  unfold rowHolds at hH
  rw [decide_eq_true hn, Bool.true_and, ← hS] at hH
  unfold holdsQ at hH
  generalize r.rhs.q = t at *
  have hc : (z ≤ 0 ↔ SQ - t ≤ 0) ∧ (0 ≤ z ↔ 0 ≤ SQ - t) ∧ (z = 0 ↔ SQ - t = 0) := by
    subst hz
    unfold cmpR
    by_cases h1 : SQ < t
    · rw [if_pos h1]; refine ⟨⟨fun _ => by grind, fun _ => by omega⟩, ⟨fun h => by omega, fun h => by grind⟩, ⟨fun h => by omega, fun h => by grind⟩⟩
    · rw [if_neg h1]
      by_cases h2 : t < SQ
      · rw [if_pos h2]; refine ⟨⟨fun h => by omega, fun h => by grind⟩, ⟨fun _ => by grind, fun _ => by omega⟩, ⟨fun h => by omega, fun h => by grind⟩⟩
      · rw [if_neg h2]; refine ⟨⟨fun _ => by grind, fun _ => by omega⟩, ⟨fun _ => by grind, fun _ => by omega⟩, ⟨fun _ => by grind, fun _ => rfl⟩⟩
  by_cases k1 : r.kind = 1
  · rw [if_pos k1] at hH
    exact .inl ⟨k1, by rw [← hH, Bool.eq_iff_iff, decide_eq_true_iff, decide_eq_true_iff, num_le0]; exact hc.1.symm⟩
  · rw [if_neg k1] at hH
    by_cases k2 : r.kind = 2
    · rw [if_pos k2] at hH
      exact .inr (.inl ⟨k2, by rw [← hH, Bool.eq_iff_iff, decide_eq_true_iff, decide_eq_true_iff, Rat.num_nonneg]; exact hc.2.1.symm⟩)
    · rw [if_neg k2] at hH
      by_cases k3 : r.kind = 3
      · rw [decide_eq_true k3, Bool.true_and] at hH
        exact .inr (.inr (.inl ⟨k3, by rw [← hH, Bool.eq_iff_iff, decide_eq_true_iff, beq_iff_eq]; exact hc.2.2.symm⟩))
      · rw [decide_eq_false k3, Bool.false_and] at hH
        exact .inr (.inr (.inr ⟨k1, k2, k3, hH.symm⟩))
def RowCan (r : PRow) (vs : List Rv) (yn : Nat) : Prop := (r.n = yn → CanDot (qs r.coef) (qs vs)) ∧ (r.n = yn → CanAdd (dotQ (qs r.coef) (qs vs)) (-r.rhs.q)) ∧ (r.n = yn → CanCmp (dotQ (qs r.coef) (qs vs)) r.rhs.q) ∧ CanCmp 0 r.rhs.q ∧ (r.n = yn → CanAdd (dotQ (qs r.coef) (qs vs) - r.rhs.q) r.rhs.q) ∧ (r.n = yn → CanSame (dotQ (qs r.coef) (qs vs)) (dotQ (qs r.coef) (qs vs)))
theorem rowCan_long {r : PRow} {vs : List Rv} {yn B L : Nat} (h1 : AllL 1 (qs r.coef)) (h2 : AllL B (qs vs)) (h3 : Long 1 r.rhs.q) (hl : r.coef.length ≤ L) (hs : L * (1 + B + 1) + B ≤ 100000000000) : RowCan r vs yn := by
  have hd : Long (L * (1 + B + 1) + 1) (dotQ (qs r.coef) (qs vs)) := (dot_long _ _ h1 h2).mono (by have := Nat.mul_le_mul_right (1 + B + 1) hl; rw [qs_len]; omega)
  exact ⟨fun _ => canDot_long h1 h2 (by rw [qs_len]; exact hl) (by omega), fun _ => canAdd_long hd h3.neg (by omega), fun _ => canCmp_long hd h3 (by omega), canCmp_long Long.zero h3 (by omega), fun _ => canAdd_long (hd.sub h3) h3 (by omega), fun _ => canSame_long hd hd (by omega)⟩
set_option maxRecDepth 100000 in
set_option maxHeartbeats 16000000 in
theorem probFits_any (xa : Option Addr) (cn xc : Nat) (ra : Option Addr) (rn rc : Nat) (cost : List Fr) (lines : List LRow) (ya : Option Addr) (yn yc : Nat) (fs : List Fr) (w : World) (h : RawW w xa cn xc ra rn rc cost lines) (hy : FrW w ya yn yc fs)
    (hcn : cn ≤ 1100000) (hrn : rn ≤ 1100000) (hln : ∀ r, r ∈ lines → r.n ≤ 1100000) (hyn : yn ≤ 1100000) :
    Calls Try.prog 3 #[.agg #[.slice xa cn xc, .slice ra rn rc], .slice ya yn yc] w fun e w' => e = .returned (.bool true) ∧ Below w.heap.size w w' := by
  have HMK := Lib.hid (fun (W : World) (hb : Below w.heap.size w W) => make_any xa cn xc ra rn rc cost lines W (h.below hb) hcn hrn hln)
  have HMY := Lib.hid (fun (W : World) (hb : Below w.heap.size w W) => mk10_any ya yn yc fs W (hy.below hb).sl hy.len hy.ok hyn)
  have HLC := Lib.hid (show AllL 1 (cost.map fracQ) from allL_frac h.cost.ok)
  have HLY := Lib.hid (show AllL 1 (fs.map fracQ) from allL_frac hy.ok)
  have HLL := Lib.hid (show ∀ l, l ∈ lines → AllL 1 (l.fs.map fracQ) ∧ Long 1 (fracQ l.rhs) ∧ l.fs.length ≤ 1100000 from fun l hl => ⟨allL_frac (h.ok l hl).fr.ok, Long.frac (h.ok l hl).rhs.1 (h.ok l hl).rhs.2, by rw [(h.ok l hl).fr.len]; exact hln l hl⟩)
  obtain ⟨w1, hw1⟩ : ∃ w1, w.alloc (.cells #[.slice xa cn xc, .slice ra rn rc] 25) = w1 := ⟨_, rfl⟩
  obtain ⟨qb, hqb⟩ : ∃ qb, w.heap.size = qb := ⟨_, rfl⟩
  have HQB := Lib.hid (show w1.heap[qb]? = some (.cells #[.slice xa cn xc, .slice ra rn rc] 25 (0, 0)) by rw [← hw1, ← hqb]; exact heap_alloc_new w _)
  have HB1 := Lib.hid (show Below w.heap.size w w1 by rw [← hw1]; exact belowBox w _)
  have HAW := Lib.hid (awake_any w1)
  have HW1 := Lib.hid hw1
  have HQE := Lib.hid hqb
  clear h hy hln hw1 hqb
  go_enter Try.func3, Try.ntmps3
  go_upto_region 1 with fail
  (try simp only [HW1.out])
  (try simp only [HQE.out])
  clear HW1 HQE
  go_wp2_with fail
  refine HAW.out.mono ?_
  rintro e w2 ⟨rfl, hb⟩
  replace HQB := Lib.hid ((hb.block qb (lt_of_block HQB.out)).trans HQB.out)
  replace HB1 := Lib.hid (bthen HB1.out hb)
  have q0 := cell_of_block (j := 0) HQB.out rfl
  have q1 := cell_of_block (j := 1) HQB.out rfl
  clear hb HAW
  go_wp2_with fail
  clear q0 q1
  refine (HMK.out w2 HB1.out).mono ?_
  rintro e w3 ⟨ca, cc, pa, pc, cs, rows, rfl, hpr, hcq, hrq, hrn2⟩
  have HPR := Lib.hid hpr.prw
  replace HB1 := Lib.hid (bthen HB1.out hpr.bel)
  have HCQ := Lib.hid (show AllL 1 (qs cs) by rw [hcq]; exact HLC.out)
  have HRQ := Lib.hid (show ∀ r, r ∈ rows → AllL 1 (qs r.coef) ∧ Long 1 r.rhs.q ∧ r.coef.length ≤ 1100000 from fun r hr => by
    have h1 : prowQ r ∈ rows.map prowQ := List.mem_map_of_mem hr
    rw [hrq] at h1
    obtain ⟨l, hl, e⟩ := List.mem_map.1 h1
    have e1 : l.fs.map fracQ = qs r.coef := congrArg (fun x => x.1) e
    have e2 : fracQ l.rhs = r.rhs.q := congrArg (fun x => x.2.2) e
    have h2 := HLL.out l hl
    exact ⟨by rw [← e1]; exact h2.1, by rw [← e2]; exact h2.2.1, by rw [← qs_len, ← e1, List.length_map]; exact h2.2.2⟩)
  clear hpr hcq hrq hrn2 HMK HLC HLL HQB
  go_wp2_with fail
  refine (HMY.out w3 HB1.out).mono ?_
  rintro e w4 ⟨ua, uc, vs, rfl, hvb⟩
  have hal := belowBox w4 (.cells #[.slice ca cn cc, .slice pa rn pc] 31)
  have hpw := (HPR.out.below hvb.bel).below hal
  have hvx := hvb.vec.below hal
  have HPW := Lib.hid (fun (W : World) (hb : Below (w4.alloc (.cells #[.slice ca cn cc, .slice pa rn pc] 31)).heap.size (w4.alloc (.cells #[.slice ca cn cc, .slice pa rn pc] 31)) W) => hpw.below hb)
  have HXV := Lib.hid (fun (W : World) (hb : Below (w4.alloc (.cells #[.slice ca cn cc, .slice pa rn pc] 31)).heap.size (w4.alloc (.cells #[.slice ca cn cc, .slice pa rn pc] 31)) W) => hvx.below hb)
  have HPX := Lib.hid (heap_alloc_new w4 (.cells #[.slice ca cn cc, .slice pa rn pc] 31))
  have HB5 := Lib.hid (bthen (bthen HB1.out hvb.bel) hal)
  have HVQ := Lib.hid (show AllL 1 (qs vs) by rw [hvb.q]; exact HLY.out)
  have hyl := hvb.vec.sl.lenI.1
  have hcl := hpw.lenI
  clear hvb hal hpw hvx HMY HPR HB1 HLY
  go_upto_region 4 with fail
  generalize w4.heap.size = pb at HPX ⊢
  generalize w4.alloc (.cells #[.slice ca cn cc, .slice pa rn pc] 31) = w5 at HPX HPW HXV HB5 ⊢
  have HP0 := Lib.hid (fun (W : World) (hb : Below w5.heap.size w5 W) => (show W.cell? ⟨pb, 0, none⟩ = some (.slice ca cn cc) from hu hb (cell_of_block (j := 0) HPX.out rfl)))
  have HP1' := Lib.hid (fun (W : World) (hb : Below w5.heap.size w5 W) => (show W.cell? ⟨pb, 1, none⟩ = some (.slice pa rn pc) from hu hb (cell_of_block (j := 1) HPX.out rfl)))
  obtain ⟨F0, hF0⟩ : ∃ F0, (decide (yn = cn) && !belowQ (qs vs)) = F0 := ⟨_, rfl⟩
  have HF0 := Lib.hid hF0
  clear hF0 HPX
  have HVB := Lib.hid (fun (W : World) (hb : Below w5.heap.size w5 W) => vbelow_any ua yn uc vs W (HXV.out W hb))
  obtain ⟨FN, hFN⟩ : ∃ FN : Nat → Bool, ∀ k, FN k = (F0 && (rows.take k).all (fun r => rowHolds r vs yn)) := ⟨_, fun _ => rfl⟩
  have HFN := Lib.hid hFN
  have HCL := Lib.hid (show ∀ r, r ∈ rows → RowCan r vs yn from fun r hr => rowCan_long (HRQ.out r hr).1 HVQ.out (HRQ.out r hr).2.1 (HRQ.out r hr).2.2 (by omega))
  clear hFN
  have p0 := HP0.out w5 (Below.refl _ _)
  go_cut [7] (fun v7 wx => v7 = .bool F0 ∧ Below w5.heap.size w5 wx)
  case first =>
    by_cases hyc : yn = cn
    · have e1 : ((yn : Int) == (cn : Int)) = true := by simp; omega
      have e2 : (yn == cn) = true := by simp; omega
      have e3 : decide (yn = cn) = true := decide_eq_true hyc
      have HE := Lib.hid hyc
      clear hyc
      go_wp2_with fail
      refine (HVB.out _ (Below.refl _ _)).mono ?_
      rintro e w6 ⟨rfl, hb⟩
      have HB := Lib.hid hb
      clear hb
      go_wp2_with fail
      go_meet
      exact ⟨by rw [← HF0.out, decide_eq_true HE.out, Bool.true_and], HB.out⟩
    · have e1 : ((yn : Int) == (cn : Int)) = false := by simp; omega
      have e2 : (yn == cn) = false := by simp; omega
      have e3 : decide (yn = cn) = false := decide_eq_false hyc
      have HE := Lib.hid hyc
      clear hyc
      go_wp2_with fail
      go_meet
      exact ⟨by rw [← HF0.out, decide_eq_false HE.out, Bool.false_and], Below.refl _ _⟩
  case rest =>
    obtain ⟨w6, rfl⟩ : ∃ w6 : World, w6 = wc := ⟨_, rfl⟩
    obtain ⟨rfl, hb6⟩ := hcut
    have HB6 := Lib.hid hb6
    clear hb6 p0 HVB
    go_wp2_with fail
    go_loopw [7, 8] (fun v7 v8 wr => ∃ k : Nat, k ≤ rn ∧ v8 = .int .i64 k ∧ v7 = .bool (FN k) ∧ Below w5.heap.size w5 wr) (fun _ v8 _ => rn - (intOf v8).toNat)
    case atStart => exact ⟨0, Nat.zero_le _, rfl, by rw [HFN.out]; simp, HB6.out⟩
    case round =>
      obtain ⟨k, hk, rfl, rfl, hb⟩ := hrel
      clear HB6
      have p1 := HP1'.out wr hb
      by_cases hlt : k < rn
      · obtain ⟨b, o, r, e1, e2, hbl, x0, x1, x2, x3, x4, hok⟩ := (HPW.out wr hb).get k hlt
        have HRR := Lib.hid (fun (W : World) (hb : Below w5.heap.size w5 W) => (show r.ok W from (HPW.out W hb).ok r (List.mem_of_getElem? e2)))
        have HRC := Lib.hid (fun (W : World) (hb : Below w5.heap.size w5 W) => (show W.cell? ⟨b, o + k * 5, none⟩ = some (.slice r.a r.n r.c) ∧ W.cell? ⟨b, o + k * 5 + 1, none⟩ = some (.int .i64 r.kind) ∧ W.cell? ⟨b, o + k * 5 + 2, none⟩ = some (.bool r.rhs.s) ∧ W.cell? ⟨b, o + k * 5 + 3, none⟩ = some (.slice r.rhs.a r.rhs.l r.rhs.c) ∧ W.cell? ⟨b, o + k * 5 + 4, none⟩ = some (.slice r.rhs.b r.rhs.m r.rhs.d) from by
          obtain ⟨b', o', r', e1', e2', -, y0, y1, y2, y3, y4, -⟩ := (HPW.out W hb).get k hlt
          rw [e1] at e1'
          cases e1'
          rw [e2] at e2'
          cases e2'
          exact ⟨y0, y1, y2, y3, y4⟩))
        have HP1 := Lib.hid (fun (W : World) (hb : Below w5.heap.size w5 W) => (show W.cell? ⟨pb, 1, none⟩ = some (.slice (some ⟨b, o, none⟩) rn pc) from by rw [← e1]; exact HP1'.out W hb))
        by_cases hn : r.n = yn
        · obtain ⟨SQ, hSQ⟩ : ∃ q, q = dotQ (qs r.coef) (qs vs) := ⟨_, rfl⟩
          obtain ⟨OQ, hOQ⟩ : ∃ q, q = dotQ (qs r.coef) (qs vs) - r.rhs.q := ⟨_, rfl⟩
          have hcl := HCL.out r (List.mem_of_getElem? e2)
          have HDT := Lib.hid (fun (W : World) (hb : Below w5.heap.size w5 W) => (show Calls Try.prog 12 #[.slice r.a r.n r.c, .slice ua yn uc] W (RetRB2 SQ true W) from by
            have h1 := (HRR.out W hb).vec; rw [hn] at h1 ⊢; rw [hSQ]; exact vdot_eq r.a ua yn r.c uc r.coef vs W h1 (HXV.out W hb) (hcl.1 hn)))
          have HOV := Lib.hid (fun (W : World) (hb : Below w5.heap.size w5 W) => (show Calls Try.prog 13 #[.agg #[.slice r.a r.n r.c, .int .i64 r.kind, .bool r.rhs.s, .slice r.rhs.a r.rhs.l r.rhs.c, .slice r.rhs.b r.rhs.m r.rhs.d], .slice ua yn uc] W (RetRB2 OQ true W) from by
            have h0 := HRR.out W hb; have h1 := h0.vec; rw [hn] at h1 ⊢; rw [hOQ]; exact over_eq r.a yn r.c r.kind r.rhs r.coef ua uc vs W h1 h0.rhs (HXV.out W hb) (hcl.1 hn) (hcl.2.1 hn)))
          obtain ⟨z, hz⟩ : ∃ z, cmpR SQ r.rhs.q = z := ⟨_, rfl⟩
          obtain ⟨HQ, hHQ⟩ : ∃ h, rowHolds r vs yn = h := ⟨_, rfl⟩
          have HCC := Lib.hid (show CanCmp SQ r.rhs.q from by rw [hSQ]; exact hcl.2.2.1 hn)
          unfold CanCmp at HCC
          rw [hz] at HCC
          have HCA := Lib.hid (show CanAdd OQ r.rhs.q from by rw [hOQ]; exact hcl.2.2.2.2.1 hn)
          have HCS := Lib.hid (fun (u v : Rv) (W : World) (hu : u.ok W) (hv : v.ok W) (e1 : u.q = OQ + r.rhs.q) (e2 : v.q = SQ) => (show Calls Try.prog 15 #[.agg #[.bool u.s, .slice u.a u.l u.c, .slice u.b u.m u.d], .agg #[.bool v.s, .slice v.a v.l v.c, .slice v.b v.m v.d]] W fun e w' => e = .returned (.bool true) ∧ Below W.heap.size W w' from by
            have e3 : OQ + r.rhs.q = SQ := by rw [hOQ, hSQ]; grind
            have h1 := hcl.2.2.2.2.2 hn u v W hu hv (by rw [e1, e3, hSQ]) (by rw [e2, hSQ])
            rwa [decide_eq_true rfl] at h1))
          have HKIND := Lib.hid (kind_cases hn hSQ hz hHQ)
          have HFS := Lib.hid (show FN (k + 1) = (FN k && HQ) by rw [HFN.out, HFN.out, List.take_add_one, e2, Option.toList_some, List.all_append, ← Bool.and_assoc]; simp [hHQ])
          have HHO := Lib.hid (fun (W : World) (hb : Below w5.heap.size w5 W) => (show Calls Try.prog 17 #[.agg #[.slice r.a r.n r.c, .int .i64 r.kind, .bool r.rhs.s, .slice r.rhs.a r.rhs.l r.rhs.c, .slice r.rhs.b r.rhs.m r.rhs.d], .slice ua yn uc] W fun e w' => e = .returned (.bool HQ) ∧ Below W.heap.size W w' from by
            rw [← hHQ]; exact holds_any r ua yn uc vs W (HRR.out W hb) (HXV.out W hb) (fun hn => ⟨hcl.1 hn, hcl.2.1 hn⟩)))
          have HBR := Lib.hid hb
          have HRK := HRR
          have i0 : (0 : Int) ≤ (k : Int) := by omega
          have i1 : (k : Int) < (rn : Int) := by omega
          clear hok e2 hb hcl hSQ hOQ hz hHQ hn
          subst e1
          go_wp2_with fail
          refine (HDT.out _ HBR.out).mono ?_
          rintro e w7 ⟨sv, rfl, hso, hsq, hb7⟩
          unfold Rv.val
          have HSV := Lib.hid (hso.below (belowBox w7 (.cells #[.bool sv.s, .slice sv.a sv.l sv.c, .slice sv.b sv.m sv.d] 40)))
          have HSQ := Lib.hid hsq
          have HSB := Lib.hid (heap_alloc_new w7 (.cells #[.bool sv.s, .slice sv.a sv.l sv.c, .slice sv.b sv.m sv.d] 40))
          replace HBR := Lib.hid (bthen HBR.out (bthen hb7 (belowBox w7 (.cells #[.bool sv.s, .slice sv.a sv.l sv.c, .slice sv.b sv.m sv.d] 40))))
          clear hso hsq hb7 p1 x0 x1 x2 x3 x4
          go_upto_region 9 with fail
          generalize w7.heap.size = sb at HSB ⊢
          generalize w7.alloc (.cells #[.bool sv.s, .slice sv.a sv.l sv.c, .slice sv.b sv.m sv.d] 40) = w8 at HSB HSV HBR ⊢
          obtain ⟨x0, x1, x2, x3, x4⟩ := HRC.out _ HBR.out
          have p1 := HP1.out _ HBR.out
          go_wp2_with fail
          refine (HOV.out _ HBR.out).mono ?_
          rintro e w9 ⟨ov, rfl, hoo, hoq, hb9⟩
          unfold Rv.val
          have hal := belowBox w9 (.cells #[.bool ov.s, .slice ov.a ov.l ov.c, .slice ov.b ov.m ov.d] 40)
          have HOV9 := Lib.hid (hoo.below hal)
          have HOQ := Lib.hid hoq
          have HOB := Lib.hid (heap_alloc_new w9 (.cells #[.bool ov.s, .slice ov.a ov.l ov.c, .slice ov.b ov.m ov.d] 40))
          have hs9 := (hb9.block sb (lt_of_block HSB.out)).trans HSB.out
          replace HSB := Lib.hid ((hal.block sb (lt_of_block hs9)).trans hs9)
          replace HSV := Lib.hid ((HSV.out.below hb9).below hal)
          replace HBR := Lib.hid (bthen HBR.out (bthen hb9 hal))
          clear hoo hoq hb9 hal hs9 p1 x0 x1 x2 x3 x4
          go_upto_region 10 with fail
          generalize w9.heap.size = ob at HOB ⊢
          generalize w9.alloc (.cells #[.bool ov.s, .slice ov.a ov.l ov.c, .slice ov.b ov.m ov.d] 40) = w10 at HSB HSV HBR HOB HOV9 ⊢
          have HB := Lib.hid (Below.refl w10.heap.size w10)
          have hK0 : w10.cell? ⟨pb, 1, none⟩ = some (.slice (some ⟨b, o, none⟩) rn pc) ∧ w10.cell? ⟨sb, 0, none⟩ = some (.bool sv.s) ∧ w10.cell? ⟨sb, 1, none⟩ = some (.slice sv.a sv.l sv.c) ∧ w10.cell? ⟨sb, 2, none⟩ = some (.slice sv.b sv.m sv.d) ∧ w10.cell? ⟨b, o + k * 5 + 2, none⟩ = some (.bool r.rhs.s) ∧ w10.cell? ⟨b, o + k * 5 + 3, none⟩ = some (.slice r.rhs.a r.rhs.l r.rhs.c) ∧ w10.cell? ⟨b, o + k * 5 + 4, none⟩ = some (.slice r.rhs.b r.rhs.m r.rhs.d) := by
            obtain ⟨x0, x1, x2, x3, x4⟩ := HRC.out _ HBR.out
            exact ⟨HP1.out _ HBR.out, cell_of_block (j := 0) HSB.out rfl, cell_of_block (j := 1) HSB.out rfl, cell_of_block (j := 2) HSB.out rfl, x2, x3, x4⟩
          refine wp_region_held_drew (S := fun W => W.cell? ⟨pb, 1, none⟩ = some (.slice (some ⟨b, o, none⟩) rn pc) ∧ W.cell? ⟨sb, 0, none⟩ = some (.bool sv.s) ∧ W.cell? ⟨sb, 1, none⟩ = some (.slice sv.a sv.l sv.c) ∧ W.cell? ⟨sb, 2, none⟩ = some (.slice sv.b sv.m sv.d) ∧ W.cell? ⟨b, o + k * 5 + 2, none⟩ = some (.bool r.rhs.s) ∧ W.cell? ⟨b, o + k * 5 + 3, none⟩ = some (.slice r.rhs.a r.rhs.l r.rhs.c) ∧ W.cell? ⟨b, o + k * 5 + 4, none⟩ = some (.slice r.rhs.b r.rhs.m r.rhs.d)) (by kernel_rfl) (hK0) (fun hHeld => ?_)
          replace HB := Lib.hid (bthen HB.out (show Below w10.heap.size w10 w10.drew from Below.drawn w10 1))
          generalize w10.drew = wd at HB hHeld ⊢
          refine tk 0 (some 64) (v := ?_) rfl rfl ?_ ?_
          rotate_left
          · (intro w hSw; (try dsimp only at hSw); ((try obtain ⟨hS0, hS1, hS2, hS3, hS4, hS5, hS6⟩ := hSw); go_simp); (try with_reducible rfl))
          simp only [Act.put, stB, stZ, stS]
          refine tk 1 (some 65) (v := ?_) rfl rfl ?_ ?_
          rotate_left
          · (intro w _; go_simp; (try with_reducible rfl))
          simp only [Act.put, stB, stZ, stS]
          refine tk 2 (some 66) (v := ?_) rfl rfl ?_ ?_
          rotate_left
          · (intro w hSw; (try dsimp only at hSw); ((try obtain ⟨hS0, hS1, hS2, hS3, hS4, hS5, hS6⟩ := hSw); go_simp); (try with_reducible rfl))
          simp only [Act.put, stB, stZ, stS]
          refine tk 3 (some 67) (v := ?_) rfl rfl ?_ ?_
          rotate_left
          · (intro w _; go_simp; (try with_reducible rfl))
          simp only [Act.put, stB, stZ, stS]
          refine tk 4 (some 68) (v := ?_) rfl rfl ?_ ?_
          rotate_left
          · (intro w hSw; (try dsimp only at hSw); ((try obtain ⟨hS0, hS1, hS2, hS3, hS4, hS5, hS6⟩ := hSw); go_simp); (try with_reducible rfl))
          simp only [Act.put, stB, stZ, stS]
          refine tk 5 (some 69) (v := ?_) rfl rfl ?_ ?_
          rotate_left
          · (intro w _; go_simp; (try with_reducible rfl))
          simp only [Act.put, stB, stZ, stS]
          refine tk 6 (some 70) (v := ?_) rfl rfl ?_ ?_
          rotate_left
          · (intro w hSw; (try dsimp only at hSw); ((try obtain ⟨hS0, hS1, hS2, hS3, hS4, hS5, hS6⟩ := hSw); go_simp); (try with_reducible rfl))
          simp only [Act.put, stB, stZ, stS]
          refine wpAnyH_ready (rs := [7]) (by kernel_rfl) (by simp) ?_
          refine (AllReadyH.cons rfl (fun K hK => ?_) AllReadyH.nil)
          go_simp
          refine (HCC.out sv r.rhs _ (HSV.out.below HB.out) (HRK.out _ (bthen HBR.out HB.out)).rhs HSQ.out rfl).mono ?_
          rintro e w11 ⟨rfl, hb⟩
          replace HB := Lib.hid (bthen HB.out hb)
          have hKK := And.intro (hu hb (hHeld.1)) <| And.intro (hu hb (hHeld.2.1)) <| And.intro (hu hb (hHeld.2.2.1)) <| And.intro (hu hb (hHeld.2.2.2.1)) <| And.intro (hu hb (hHeld.2.2.2.2.1)) <| And.intro (hu hb (hHeld.2.2.2.2.2.1)) <| hu hb (hHeld.2.2.2.2.2.2)
          clear hb
          refine hK.out _ _ (hKK) (fun hHeld2 => ?_)
          clear hK K hHeld
          rename _ => hHeld
          try simp only [Act.put, stB, stZ, stS]
          refine tk 8 (some 13) (v := ?_) rfl rfl ?_ ?_
          rotate_left
          · (intro w _; go_simp; (try with_reducible rfl))
          simp only [Act.put, stB, stZ, stS]
          refine wpAnyH_done (by kernel_rfl) ?_ _
          (try simp only [Exit.inBlock, Exit.then])
          clear hHeld
          obtain ⟨x0, x1, x2, x3, x4⟩ := HRC.out _ (bthen HBR.out HB.out)
          have p1 := HP1.out _ (bthen HBR.out HB.out)
          go_upto_region 11 with fail
          go_cut [14] (fun v14 wx => v14 = .bool HQ ∧ Below w11.heap.size w11 wx)
          case first =>
            rcases HKIND.out with ⟨hk1, hH⟩ | ⟨hk1, hH⟩ | ⟨hk1, hH⟩ | ⟨hk1, hk2, hk3, hH⟩
            · have t1 : (r.kind == 1) = true := by rw [hk1]; rfl
              by_cases hz : z ≤ 0
              · have HE := Lib.hid (show HQ = true by rw [hH]; exact decide_eq_true hz)
                clear hk1 hH
                go_wp2_with fail
                go_meet
                exact ⟨by rw [HE.out], Below.refl _ _⟩
              · have HE := Lib.hid (show HQ = false by rw [hH]; exact decide_eq_false hz)
                have t2 : (r.kind == 2) = false := by rw [hk1]; rfl
                have t3 : (r.kind == 3) = false := by rw [hk1]; rfl
                clear hk1 hH
                go_wp2_with fail
                go_meet
                exact ⟨by rw [HE.out], Below.refl _ _⟩
            · have t1 : (r.kind == 1) = false := by rw [hk1]; rfl
              have t2 : (r.kind == 2) = true := by rw [hk1]; rfl
              by_cases hz : 0 ≤ z
              · have HE := Lib.hid (show HQ = true by rw [hH]; exact decide_eq_true hz)
                clear hk1 hH
                go_wp2_with fail
                go_meet
                exact ⟨by rw [HE.out], Below.refl _ _⟩
              · have HE := Lib.hid (show HQ = false by rw [hH]; exact decide_eq_false hz)
                have t3 : (r.kind == 3) = false := by rw [hk1]; rfl
                clear hk1 hH
                go_wp2_with fail
                go_meet
                exact ⟨by rw [HE.out], Below.refl _ _⟩
            · have t1 : (r.kind == 1) = false := by rw [hk1]; rfl
              have t2 : (r.kind == 2) = false := by rw [hk1]; rfl
              have t3 : (r.kind == 3) = true := by rw [hk1]; rfl
              have HE := Lib.hid (show HQ = (z == 0) from hH)
              clear hk1 hH
              go_wp2_with fail
              go_meet
              exact ⟨by rw [HE.out], Below.refl _ _⟩
            · have t1 : (r.kind == 1) = false := beq_eq_false_iff_ne.2 hk1
              have t2 : (r.kind == 2) = false := beq_eq_false_iff_ne.2 hk2
              have t3 : (r.kind == 3) = false := beq_eq_false_iff_ne.2 hk3
              have HE := Lib.hid (show HQ = false from hH)
              clear hk1 hk2 hk3 hH
              go_wp2_with fail
              go_meet
              exact ⟨by rw [HE.out], Below.refl _ _⟩
          case rest =>
            obtain ⟨w12, rfl⟩ : ∃ w12 : World, w12 = wc := ⟨_, rfl⟩
            obtain ⟨rfl, hbc⟩ := hcut
            replace HB := Lib.hid (bthen HB.out hbc)
            clear hbc p1 x0 x1 x2 x3 x4
            have hK0 : w12.cell? ⟨pb, 1, none⟩ = some (.slice (some ⟨b, o, none⟩) rn pc) ∧ w12.cell? ⟨sb, 0, none⟩ = some (.bool sv.s) ∧ w12.cell? ⟨sb, 1, none⟩ = some (.slice sv.a sv.l sv.c) ∧ w12.cell? ⟨sb, 2, none⟩ = some (.slice sv.b sv.m sv.d) ∧ w12.cell? ⟨ob, 0, none⟩ = some (.bool ov.s) ∧ w12.cell? ⟨ob, 1, none⟩ = some (.slice ov.a ov.l ov.c) ∧ w12.cell? ⟨ob, 2, none⟩ = some (.slice ov.b ov.m ov.d) ∧ w12.cell? ⟨b, o + k * 5, none⟩ = some (.slice r.a r.n r.c) ∧ w12.cell? ⟨b, o + k * 5 + 1, none⟩ = some (.int .i64 r.kind) ∧ w12.cell? ⟨b, o + k * 5 + 2, none⟩ = some (.bool r.rhs.s) ∧ w12.cell? ⟨b, o + k * 5 + 3, none⟩ = some (.slice r.rhs.a r.rhs.l r.rhs.c) ∧ w12.cell? ⟨b, o + k * 5 + 4, none⟩ = some (.slice r.rhs.b r.rhs.m r.rhs.d) := by
              obtain ⟨x0, x1, x2, x3, x4⟩ := HRC.out _ (bthen HBR.out HB.out)
              exact ⟨HP1.out _ (bthen HBR.out HB.out), hu HB.out (cell_of_block (j := 0) HSB.out rfl), hu HB.out (cell_of_block (j := 1) HSB.out rfl), hu HB.out (cell_of_block (j := 2) HSB.out rfl), hu HB.out (cell_of_block (j := 0) HOB.out rfl), hu HB.out (cell_of_block (j := 1) HOB.out rfl), hu HB.out (cell_of_block (j := 2) HOB.out rfl), x0, x1, x2, x3, x4⟩
            go_upto_region 12 with fail
            refine wp_region_held_drew (S := fun W => W.cell? ⟨pb, 1, none⟩ = some (.slice (some ⟨b, o, none⟩) rn pc) ∧ W.cell? ⟨sb, 0, none⟩ = some (.bool sv.s) ∧ W.cell? ⟨sb, 1, none⟩ = some (.slice sv.a sv.l sv.c) ∧ W.cell? ⟨sb, 2, none⟩ = some (.slice sv.b sv.m sv.d) ∧ W.cell? ⟨ob, 0, none⟩ = some (.bool ov.s) ∧ W.cell? ⟨ob, 1, none⟩ = some (.slice ov.a ov.l ov.c) ∧ W.cell? ⟨ob, 2, none⟩ = some (.slice ov.b ov.m ov.d) ∧ W.cell? ⟨b, o + k * 5, none⟩ = some (.slice r.a r.n r.c) ∧ W.cell? ⟨b, o + k * 5 + 1, none⟩ = some (.int .i64 r.kind) ∧ W.cell? ⟨b, o + k * 5 + 2, none⟩ = some (.bool r.rhs.s) ∧ W.cell? ⟨b, o + k * 5 + 3, none⟩ = some (.slice r.rhs.a r.rhs.l r.rhs.c) ∧ W.cell? ⟨b, o + k * 5 + 4, none⟩ = some (.slice r.rhs.b r.rhs.m r.rhs.d)) (by kernel_rfl) (hK0) (fun hHeld => ?_)
            replace HB := Lib.hid (bthen HB.out (show Below w12.heap.size w12 w12.drew from Below.drawn w12 1))
            generalize w12.drew = wd at HB hHeld ⊢
            refine tk 0 (some 112) (v := ?_) rfl rfl ?_ ?_
            rotate_left
            · (intro w _; go_simp; (try with_reducible rfl))
            simp only [Act.put, stB, stZ, stS]
            refine tk 1 (some 113) (v := ?_) rfl rfl ?_ ?_
            rotate_left
            · (intro w _; go_simp; (try with_reducible rfl))
            simp only [Act.put, stB, stZ, stS]
            refine tk 2 (some 114) (v := ?_) rfl rfl ?_ ?_
            rotate_left
            · (intro w _; go_simp; (try with_reducible rfl))
            simp only [Act.put, stB, stZ, stS]
            refine tk 3 (some 115) (v := ?_) rfl rfl ?_ ?_
            rotate_left
            · (intro w _; go_simp; (try with_reducible rfl))
            simp only [Act.put, stB, stZ, stS]
            refine tk 4 (some 116) (v := ?_) rfl rfl ?_ ?_
            rotate_left
            · (intro w _; go_simp; (try with_reducible rfl))
            simp only [Act.put, stB, stZ, stS]
            refine tk 5 (some 117) (v := ?_) rfl rfl ?_ ?_
            rotate_left
            · (intro w _; go_simp; (try with_reducible rfl))
            simp only [Act.put, stB, stZ, stS]
            refine tk 6 (some 118) (v := ?_) rfl rfl ?_ ?_
            rotate_left
            · (intro w hSw; (try dsimp only at hSw); ((try obtain ⟨hS0, hS1, hS2, hS3, hS4, hS5, hS6, hS7, hS8, hS9, hS10, hS11⟩ := hSw); go_simp); (try with_reducible rfl))
            simp only [Act.put, stB, stZ, stS]
            refine tk 7 (some 119) (v := ?_) rfl rfl ?_ ?_
            rotate_left
            · (intro w _; go_simp; (try with_reducible rfl))
            simp only [Act.put, stB, stZ, stS]
            refine tk 8 (some 120) (v := ?_) rfl rfl ?_ ?_
            rotate_left
            · (intro w hSw; (try dsimp only at hSw); ((try obtain ⟨hS0, hS1, hS2, hS3, hS4, hS5, hS6, hS7, hS8, hS9, hS10, hS11⟩ := hSw); go_simp); (try with_reducible rfl))
            simp only [Act.put, stB, stZ, stS]
            refine tk 9 (some 121) (v := ?_) rfl rfl ?_ ?_
            rotate_left
            · (intro w _; go_simp; (try with_reducible rfl))
            simp only [Act.put, stB, stZ, stS]
            refine tk 10 (some 122) (v := ?_) rfl rfl ?_ ?_
            rotate_left
            · (intro w hSw; (try dsimp only at hSw); ((try obtain ⟨hS0, hS1, hS2, hS3, hS4, hS5, hS6, hS7, hS8, hS9, hS10, hS11⟩ := hSw); go_simp); (try with_reducible rfl))
            simp only [Act.put, stB, stZ, stS]
            refine tk 11 (some 123) (v := ?_) rfl rfl ?_ ?_
            rotate_left
            · (intro w _; go_simp; (try with_reducible rfl))
            simp only [Act.put, stB, stZ, stS]
            refine tk 12 (some 124) (v := ?_) rfl rfl ?_ ?_
            rotate_left
            · (intro w hSw; (try dsimp only at hSw); ((try obtain ⟨hS0, hS1, hS2, hS3, hS4, hS5, hS6, hS7, hS8, hS9, hS10, hS11⟩ := hSw); go_simp); (try with_reducible rfl))
            simp only [Act.put, stB, stZ, stS]
            refine tk 14 (some 126) (v := ?_) rfl rfl ?_ ?_
            rotate_left
            · (intro w hSw; (try dsimp only at hSw); ((try obtain ⟨hS0, hS1, hS2, hS3, hS4, hS5, hS6, hS7, hS8, hS9, hS10, hS11⟩ := hSw); go_simp); (try with_reducible rfl))
            simp only [Act.put, stB, stZ, stS]
            refine wpAnyH_ready (rs := [13]) (by kernel_rfl) (by simp) ?_
            refine (AllReadyH.cons rfl (fun K hK => ?_) AllReadyH.nil)
            go_simp
            refine (HCA.out ov r.rhs _ (HOV9.out.below HB.out) (HRK.out _ (bthen HBR.out HB.out)).rhs HOQ.out rfl).mono ?_
            rintro e w13 ⟨av, rfl, hao, haq, hb⟩
            unfold Rv.val
            replace HB := Lib.hid (bthen HB.out hb)
            have HAV := Lib.hid (And.intro hao haq)
            have hKK := And.intro (hu hb (hHeld.1)) <| And.intro (hu hb (hHeld.2.1)) <| And.intro (hu hb (hHeld.2.2.1)) <| And.intro (hu hb (hHeld.2.2.2.1)) <| And.intro (hu hb (hHeld.2.2.2.2.1)) <| And.intro (hu hb (hHeld.2.2.2.2.2.1)) <| And.intro (hu hb (hHeld.2.2.2.2.2.2.1)) <| And.intro (hu hb (hHeld.2.2.2.2.2.2.2.1)) <| And.intro (hu hb (hHeld.2.2.2.2.2.2.2.2.1)) <| And.intro (hu hb (hHeld.2.2.2.2.2.2.2.2.2.1)) <| And.intro (hu hb (hHeld.2.2.2.2.2.2.2.2.2.2.1)) <| hu hb (hHeld.2.2.2.2.2.2.2.2.2.2.2)
            clear hb hao haq
            refine hK.out _ _ (hKK) (fun hHeld2 => ?_)
            clear hK K hHeld
            rename _ => hHeld
            try simp only [Act.put, stB, stZ, stS]
            refine wpAnyH_ready (rs := [15]) (by kernel_rfl) (by simp) ?_
            refine (AllReadyH.cons rfl (fun K hK => ?_) AllReadyH.nil)
            go_simp
            refine (HCS.out av sv _ (by first | exact HAV.out.1 | exact HAV.out.1.below (Below.refl _ _)) (HSV.out.below HB.out) HAV.out.2 HSQ.out).mono ?_
            rintro e w14 ⟨rfl, hb⟩
            replace HB := Lib.hid (bthen HB.out hb)
            have hKK := And.intro (hu hb (hHeld.1)) <| And.intro (hu hb (hHeld.2.1)) <| And.intro (hu hb (hHeld.2.2.1)) <| And.intro (hu hb (hHeld.2.2.2.1)) <| And.intro (hu hb (hHeld.2.2.2.2.1)) <| And.intro (hu hb (hHeld.2.2.2.2.2.1)) <| And.intro (hu hb (hHeld.2.2.2.2.2.2.1)) <| And.intro (hu hb (hHeld.2.2.2.2.2.2.2.1)) <| And.intro (hu hb (hHeld.2.2.2.2.2.2.2.2.1)) <| And.intro (hu hb (hHeld.2.2.2.2.2.2.2.2.2.1)) <| And.intro (hu hb (hHeld.2.2.2.2.2.2.2.2.2.2.1)) <| hu hb (hHeld.2.2.2.2.2.2.2.2.2.2.2)
            clear hb
            refine hK.out _ _ (hKK) (fun hHeld2 => ?_)
            clear hK K hHeld
            rename _ => hHeld
            try simp only [Act.put, stB, stZ, stS]
            refine tk 16 (some 128) (v := ?_) rfl rfl ?_ ?_
            rotate_left
            · (intro w _; go_simp; (try with_reducible rfl))
            simp only [Act.put, stB, stZ, stS]
            refine tk 17 (some 129) (v := ?_) rfl rfl ?_ ?_
            rotate_left
            · (intro w _; go_simp; (try with_reducible rfl))
            simp only [Act.put, stB, stZ, stS]
            refine tk 18 (some 130) (v := ?_) rfl rfl ?_ ?_
            rotate_left
            · (intro w _; go_simp; (try with_reducible rfl))
            simp only [Act.put, stB, stZ, stS]
            refine tk 19 (some 131) (v := ?_) rfl rfl ?_ ?_
            rotate_left
            · (intro w _; go_simp; (try with_reducible rfl))
            simp only [Act.put, stB, stZ, stS]
            refine tk 20 (some 132) (v := ?_) rfl rfl ?_ ?_
            rotate_left
            · (intro w _; go_simp; (try with_reducible rfl))
            simp only [Act.put, stB, stZ, stS]
            refine tk 21 (some 133) (v := ?_) rfl rfl ?_ ?_
            rotate_left
            · (intro w hSw; (try dsimp only at hSw); ((try obtain ⟨hS0, hS1, hS2, hS3, hS4, hS5, hS6, hS7, hS8, hS9, hS10, hS11⟩ := hSw); go_simp); (try with_reducible rfl))
            simp only [Act.put, stB, stZ, stS]
            refine tk 22 (some 134) (v := ?_) rfl rfl ?_ ?_
            rotate_left
            · (intro w _; go_simp; (try with_reducible rfl))
            simp only [Act.put, stB, stZ, stS]
            refine tk 23 (some 135) (v := ?_) rfl rfl ?_ ?_
            rotate_left
            · (intro w hSw; (try dsimp only at hSw); ((try obtain ⟨hS0, hS1, hS2, hS3, hS4, hS5, hS6, hS7, hS8, hS9, hS10, hS11⟩ := hSw); go_simp); (try with_reducible rfl))
            simp only [Act.put, stB, stZ, stS]
            refine tk 24 (some 136) (v := ?_) rfl rfl ?_ ?_
            rotate_left
            · (intro w hSw; (try dsimp only at hSw); ((try obtain ⟨hS0, hS1, hS2, hS3, hS4, hS5, hS6, hS7, hS8, hS9, hS10, hS11⟩ := hSw); go_simp); (try with_reducible rfl))
            simp only [Act.put, stB, stZ, stS]
            refine tk 25 (some 137) (v := ?_) rfl rfl ?_ ?_
            rotate_left
            · (intro w _; go_simp; (try with_reducible rfl))
            simp only [Act.put, stB, stZ, stS]
            refine tk 27 (some 139) (v := ?_) rfl rfl ?_ ?_
            rotate_left
            · (intro w _; go_simp; (try with_reducible rfl))
            simp only [Act.put, stB, stZ, stS]
            refine wpAnyH_ready (rs := [26]) (by kernel_rfl) (by simp) ?_
            refine (AllReadyH.cons rfl (fun K hK => ?_) AllReadyH.nil)
            go_simp
            refine (HHO.out _ (bthen HBR.out HB.out)).mono ?_
            rintro e w15 ⟨rfl, hb⟩
            replace HB := Lib.hid (bthen HB.out hb)
            have hKK := And.intro (hu hb (hHeld.1)) <| And.intro (hu hb (hHeld.2.1)) <| And.intro (hu hb (hHeld.2.2.1)) <| And.intro (hu hb (hHeld.2.2.2.1)) <| And.intro (hu hb (hHeld.2.2.2.2.1)) <| And.intro (hu hb (hHeld.2.2.2.2.2.1)) <| And.intro (hu hb (hHeld.2.2.2.2.2.2.1)) <| And.intro (hu hb (hHeld.2.2.2.2.2.2.2.1)) <| And.intro (hu hb (hHeld.2.2.2.2.2.2.2.2.1)) <| And.intro (hu hb (hHeld.2.2.2.2.2.2.2.2.2.1)) <| And.intro (hu hb (hHeld.2.2.2.2.2.2.2.2.2.2.1)) <| hu hb (hHeld.2.2.2.2.2.2.2.2.2.2.2)
            clear hb
            refine hK.out _ _ (hKK) (fun hHeld2 => ?_)
            clear hK K hHeld
            rename _ => hHeld
            try simp only [Act.put, stB, stZ, stS]
            refine tk 28 (some 140) (v := ?_) rfl rfl ?_ ?_
            rotate_left
            · (intro w _; go_simp; (try with_reducible rfl))
            simp only [Act.put, stB, stZ, stS]
            refine tk 29 (some 141) (v := ?_) rfl rfl ?_ ?_
            rotate_left
            · (intro w _; go_simp; (try with_reducible rfl))
            simp only [Act.put, stB, stZ, stS]
            refine wpAnyH_done (by kernel_rfl) ?_ _
            (try simp only [Exit.inBlock, Exit.then])
            clear hHeld
            cases hF : FN k
            · go_wp2_with fail
              go_roundw
              case rel => exact ⟨k + 1, by omega, by go_num, by rw [HFS.out, hF]; rfl, bthen HBR.out HB.out⟩
              case measure => simp [intOf]; omega
            · go_wp2_with fail
              go_roundw
              case rel => exact ⟨k + 1, by omega, by go_num, by rw [HFS.out, hF]; rfl, bthen HBR.out HB.out⟩
              case measure => simp [intOf]; omega
        · obtain ⟨SQ, hSQ⟩ : ∃ q, q = (0 : Rat) := ⟨_, rfl⟩
          obtain ⟨OQ, hOQ⟩ : ∃ q, q = (0 : Rat) := ⟨_, rfl⟩
          have hcl := HCL.out r (List.mem_of_getElem? e2)
          have HDT := Lib.hid (fun (W : World) (hb : Below w5.heap.size w5 W) => (show Calls Try.prog 12 #[.slice r.a r.n r.c, .slice ua yn uc] W (RetRB2 SQ false W) from by
            rw [hSQ]; exact vdot_ne r.a ua r.n yn r.c uc W (HRR.out W hb).vec.sl.lenI.1 (HXV.out W hb).sl.lenI.1 hn))
          have HOV := Lib.hid (fun (W : World) (hb : Below w5.heap.size w5 W) => (show Calls Try.prog 13 #[.agg #[.slice r.a r.n r.c, .int .i64 r.kind, .bool r.rhs.s, .slice r.rhs.a r.rhs.l r.rhs.c, .slice r.rhs.b r.rhs.m r.rhs.d], .slice ua yn uc] W (RetRB2 OQ false W) from by
            rw [hOQ]; exact over_ne r.a r.n r.c r.kind r.rhs ua yn uc W (HRR.out W hb).vec.sl.lenI.1 (HXV.out W hb).sl.lenI.1 hn))
          obtain ⟨z, hz⟩ : ∃ z, cmpR SQ r.rhs.q = z := ⟨_, rfl⟩
          obtain ⟨HQ, hHQ⟩ : ∃ h, rowHolds r vs yn = h := ⟨_, rfl⟩
          have HCC := Lib.hid (show CanCmp SQ r.rhs.q from by rw [hSQ]; exact hcl.2.2.2.1)
          unfold CanCmp at HCC
          rw [hz] at HCC
          have HHQ := Lib.hid (show HQ = false by rw [← hHQ]; unfold rowHolds; rw [decide_eq_false hn]; rfl)
          have HFS := Lib.hid (show FN (k + 1) = (FN k && HQ) by rw [HFN.out, HFN.out, List.take_add_one, e2, Option.toList_some, List.all_append, ← Bool.and_assoc]; simp [hHQ])
          have HHO := Lib.hid (fun (W : World) (hb : Below w5.heap.size w5 W) => (show Calls Try.prog 17 #[.agg #[.slice r.a r.n r.c, .int .i64 r.kind, .bool r.rhs.s, .slice r.rhs.a r.rhs.l r.rhs.c, .slice r.rhs.b r.rhs.m r.rhs.d], .slice ua yn uc] W fun e w' => e = .returned (.bool HQ) ∧ Below W.heap.size W w' from by
            rw [← hHQ]; exact holds_any r ua yn uc vs W (HRR.out W hb) (HXV.out W hb) (fun hn => ⟨hcl.1 hn, hcl.2.1 hn⟩)))
          have HBR := Lib.hid hb
          have HRK := HRR
          have i0 : (0 : Int) ≤ (k : Int) := by omega
          have i1 : (k : Int) < (rn : Int) := by omega
          clear hok e2 hb hcl hSQ hOQ hz hHQ hn
          subst e1
          go_wp2_with fail
          refine (HDT.out _ HBR.out).mono ?_
          rintro e w7 ⟨sv, rfl, hso, hsq, hb7⟩
          unfold Rv.val
          have HSV := Lib.hid (hso.below (belowBox w7 (.cells #[.bool sv.s, .slice sv.a sv.l sv.c, .slice sv.b sv.m sv.d] 40)))
          have HSQ := Lib.hid hsq
          have HSB := Lib.hid (heap_alloc_new w7 (.cells #[.bool sv.s, .slice sv.a sv.l sv.c, .slice sv.b sv.m sv.d] 40))
          replace HBR := Lib.hid (bthen HBR.out (bthen hb7 (belowBox w7 (.cells #[.bool sv.s, .slice sv.a sv.l sv.c, .slice sv.b sv.m sv.d] 40))))
          clear hso hsq hb7 p1 x0 x1 x2 x3 x4
          go_upto_region 9 with fail
          generalize w7.heap.size = sb at HSB ⊢
          generalize w7.alloc (.cells #[.bool sv.s, .slice sv.a sv.l sv.c, .slice sv.b sv.m sv.d] 40) = w8 at HSB HSV HBR ⊢
          obtain ⟨x0, x1, x2, x3, x4⟩ := HRC.out _ HBR.out
          have p1 := HP1.out _ HBR.out
          go_wp2_with fail
          refine (HOV.out _ HBR.out).mono ?_
          rintro e w9 ⟨ov, rfl, hoo, hoq, hb9⟩
          unfold Rv.val
          have hal := belowBox w9 (.cells #[.bool ov.s, .slice ov.a ov.l ov.c, .slice ov.b ov.m ov.d] 40)
          have HOV9 := Lib.hid (hoo.below hal)
          have HOQ := Lib.hid hoq
          have HOB := Lib.hid (heap_alloc_new w9 (.cells #[.bool ov.s, .slice ov.a ov.l ov.c, .slice ov.b ov.m ov.d] 40))
          have hs9 := (hb9.block sb (lt_of_block HSB.out)).trans HSB.out
          replace HSB := Lib.hid ((hal.block sb (lt_of_block hs9)).trans hs9)
          replace HSV := Lib.hid ((HSV.out.below hb9).below hal)
          replace HBR := Lib.hid (bthen HBR.out (bthen hb9 hal))
          clear hoo hoq hb9 hal hs9 p1 x0 x1 x2 x3 x4
          go_upto_region 10 with fail
          generalize w9.heap.size = ob at HOB ⊢
          generalize w9.alloc (.cells #[.bool ov.s, .slice ov.a ov.l ov.c, .slice ov.b ov.m ov.d] 40) = w10 at HSB HSV HBR HOB HOV9 ⊢
          have HB := Lib.hid (Below.refl w10.heap.size w10)
          have hK0 : w10.cell? ⟨pb, 1, none⟩ = some (.slice (some ⟨b, o, none⟩) rn pc) ∧ w10.cell? ⟨sb, 0, none⟩ = some (.bool sv.s) ∧ w10.cell? ⟨sb, 1, none⟩ = some (.slice sv.a sv.l sv.c) ∧ w10.cell? ⟨sb, 2, none⟩ = some (.slice sv.b sv.m sv.d) ∧ w10.cell? ⟨b, o + k * 5 + 2, none⟩ = some (.bool r.rhs.s) ∧ w10.cell? ⟨b, o + k * 5 + 3, none⟩ = some (.slice r.rhs.a r.rhs.l r.rhs.c) ∧ w10.cell? ⟨b, o + k * 5 + 4, none⟩ = some (.slice r.rhs.b r.rhs.m r.rhs.d) := by
            obtain ⟨x0, x1, x2, x3, x4⟩ := HRC.out _ HBR.out
            exact ⟨HP1.out _ HBR.out, cell_of_block (j := 0) HSB.out rfl, cell_of_block (j := 1) HSB.out rfl, cell_of_block (j := 2) HSB.out rfl, x2, x3, x4⟩
          refine wp_region_held_drew (S := fun W => W.cell? ⟨pb, 1, none⟩ = some (.slice (some ⟨b, o, none⟩) rn pc) ∧ W.cell? ⟨sb, 0, none⟩ = some (.bool sv.s) ∧ W.cell? ⟨sb, 1, none⟩ = some (.slice sv.a sv.l sv.c) ∧ W.cell? ⟨sb, 2, none⟩ = some (.slice sv.b sv.m sv.d) ∧ W.cell? ⟨b, o + k * 5 + 2, none⟩ = some (.bool r.rhs.s) ∧ W.cell? ⟨b, o + k * 5 + 3, none⟩ = some (.slice r.rhs.a r.rhs.l r.rhs.c) ∧ W.cell? ⟨b, o + k * 5 + 4, none⟩ = some (.slice r.rhs.b r.rhs.m r.rhs.d)) (by kernel_rfl) (hK0) (fun hHeld => ?_)
          replace HB := Lib.hid (bthen HB.out (show Below w10.heap.size w10 w10.drew from Below.drawn w10 1))
          generalize w10.drew = wd at HB hHeld ⊢
          refine tk 0 (some 64) (v := ?_) rfl rfl ?_ ?_
          rotate_left
          · (intro w hSw; (try dsimp only at hSw); ((try obtain ⟨hS0, hS1, hS2, hS3, hS4, hS5, hS6⟩ := hSw); go_simp); (try with_reducible rfl))
          simp only [Act.put, stB, stZ, stS]
          refine tk 1 (some 65) (v := ?_) rfl rfl ?_ ?_
          rotate_left
          · (intro w _; go_simp; (try with_reducible rfl))
          simp only [Act.put, stB, stZ, stS]
          refine tk 2 (some 66) (v := ?_) rfl rfl ?_ ?_
          rotate_left
          · (intro w hSw; (try dsimp only at hSw); ((try obtain ⟨hS0, hS1, hS2, hS3, hS4, hS5, hS6⟩ := hSw); go_simp); (try with_reducible rfl))
          simp only [Act.put, stB, stZ, stS]
          refine tk 3 (some 67) (v := ?_) rfl rfl ?_ ?_
          rotate_left
          · (intro w _; go_simp; (try with_reducible rfl))
          simp only [Act.put, stB, stZ, stS]
          refine tk 4 (some 68) (v := ?_) rfl rfl ?_ ?_
          rotate_left
          · (intro w hSw; (try dsimp only at hSw); ((try obtain ⟨hS0, hS1, hS2, hS3, hS4, hS5, hS6⟩ := hSw); go_simp); (try with_reducible rfl))
          simp only [Act.put, stB, stZ, stS]
          refine tk 5 (some 69) (v := ?_) rfl rfl ?_ ?_
          rotate_left
          · (intro w _; go_simp; (try with_reducible rfl))
          simp only [Act.put, stB, stZ, stS]
          refine tk 6 (some 70) (v := ?_) rfl rfl ?_ ?_
          rotate_left
          · (intro w hSw; (try dsimp only at hSw); ((try obtain ⟨hS0, hS1, hS2, hS3, hS4, hS5, hS6⟩ := hSw); go_simp); (try with_reducible rfl))
          simp only [Act.put, stB, stZ, stS]
          refine wpAnyH_ready (rs := [7]) (by kernel_rfl) (by simp) ?_
          refine (AllReadyH.cons rfl (fun K hK => ?_) AllReadyH.nil)
          go_simp
          refine (HCC.out sv r.rhs _ (HSV.out.below HB.out) (HRK.out _ (bthen HBR.out HB.out)).rhs HSQ.out rfl).mono ?_
          rintro e w11 ⟨rfl, hb⟩
          replace HB := Lib.hid (bthen HB.out hb)
          have hKK := And.intro (hu hb (hHeld.1)) <| And.intro (hu hb (hHeld.2.1)) <| And.intro (hu hb (hHeld.2.2.1)) <| And.intro (hu hb (hHeld.2.2.2.1)) <| And.intro (hu hb (hHeld.2.2.2.2.1)) <| And.intro (hu hb (hHeld.2.2.2.2.2.1)) <| hu hb (hHeld.2.2.2.2.2.2)
          clear hb
          refine hK.out _ _ (hKK) (fun hHeld2 => ?_)
          clear hK K hHeld
          rename _ => hHeld
          try simp only [Act.put, stB, stZ, stS]
          refine tk 8 (some 13) (v := ?_) rfl rfl ?_ ?_
          rotate_left
          · (intro w _; go_simp; (try with_reducible rfl))
          simp only [Act.put, stB, stZ, stS]
          refine wpAnyH_done (by kernel_rfl) ?_ _
          (try simp only [Exit.inBlock, Exit.then])
          clear hHeld
          obtain ⟨x0, x1, x2, x3, x4⟩ := HRC.out _ (bthen HBR.out HB.out)
          have p1 := HP1.out _ (bthen HBR.out HB.out)
          go_upto_region 11 with fail
          go_cut [14] (fun v14 wx => v14 = .bool HQ ∧ Below w11.heap.size w11 wx)
          case first =>
            go_wp2_with fail
            go_meet
            exact ⟨by rw [HHQ.out], Below.refl _ _⟩
          case rest =>
            obtain ⟨w12, rfl⟩ : ∃ w12 : World, w12 = wc := ⟨_, rfl⟩
            obtain ⟨rfl, hbc⟩ := hcut
            replace HB := Lib.hid (bthen HB.out hbc)
            clear hbc p1 x0 x1 x2 x3 x4
            have hK0 : w12.cell? ⟨pb, 1, none⟩ = some (.slice (some ⟨b, o, none⟩) rn pc) ∧ w12.cell? ⟨sb, 0, none⟩ = some (.bool sv.s) ∧ w12.cell? ⟨sb, 1, none⟩ = some (.slice sv.a sv.l sv.c) ∧ w12.cell? ⟨sb, 2, none⟩ = some (.slice sv.b sv.m sv.d) ∧ w12.cell? ⟨ob, 0, none⟩ = some (.bool ov.s) ∧ w12.cell? ⟨ob, 1, none⟩ = some (.slice ov.a ov.l ov.c) ∧ w12.cell? ⟨ob, 2, none⟩ = some (.slice ov.b ov.m ov.d) ∧ w12.cell? ⟨b, o + k * 5, none⟩ = some (.slice r.a r.n r.c) ∧ w12.cell? ⟨b, o + k * 5 + 1, none⟩ = some (.int .i64 r.kind) ∧ w12.cell? ⟨b, o + k * 5 + 2, none⟩ = some (.bool r.rhs.s) ∧ w12.cell? ⟨b, o + k * 5 + 3, none⟩ = some (.slice r.rhs.a r.rhs.l r.rhs.c) ∧ w12.cell? ⟨b, o + k * 5 + 4, none⟩ = some (.slice r.rhs.b r.rhs.m r.rhs.d) := by
              obtain ⟨x0, x1, x2, x3, x4⟩ := HRC.out _ (bthen HBR.out HB.out)
              exact ⟨HP1.out _ (bthen HBR.out HB.out), hu HB.out (cell_of_block (j := 0) HSB.out rfl), hu HB.out (cell_of_block (j := 1) HSB.out rfl), hu HB.out (cell_of_block (j := 2) HSB.out rfl), hu HB.out (cell_of_block (j := 0) HOB.out rfl), hu HB.out (cell_of_block (j := 1) HOB.out rfl), hu HB.out (cell_of_block (j := 2) HOB.out rfl), x0, x1, x2, x3, x4⟩
            go_upto_region 12 with fail
            refine wp_region_held_drew (S := fun W => W.cell? ⟨pb, 1, none⟩ = some (.slice (some ⟨b, o, none⟩) rn pc) ∧ W.cell? ⟨sb, 0, none⟩ = some (.bool sv.s) ∧ W.cell? ⟨sb, 1, none⟩ = some (.slice sv.a sv.l sv.c) ∧ W.cell? ⟨sb, 2, none⟩ = some (.slice sv.b sv.m sv.d) ∧ W.cell? ⟨ob, 0, none⟩ = some (.bool ov.s) ∧ W.cell? ⟨ob, 1, none⟩ = some (.slice ov.a ov.l ov.c) ∧ W.cell? ⟨ob, 2, none⟩ = some (.slice ov.b ov.m ov.d) ∧ W.cell? ⟨b, o + k * 5, none⟩ = some (.slice r.a r.n r.c) ∧ W.cell? ⟨b, o + k * 5 + 1, none⟩ = some (.int .i64 r.kind) ∧ W.cell? ⟨b, o + k * 5 + 2, none⟩ = some (.bool r.rhs.s) ∧ W.cell? ⟨b, o + k * 5 + 3, none⟩ = some (.slice r.rhs.a r.rhs.l r.rhs.c) ∧ W.cell? ⟨b, o + k * 5 + 4, none⟩ = some (.slice r.rhs.b r.rhs.m r.rhs.d)) (by kernel_rfl) (hK0) (fun hHeld => ?_)
            replace HB := Lib.hid (bthen HB.out (show Below w12.heap.size w12 w12.drew from Below.drawn w12 1))
            generalize w12.drew = wd at HB hHeld ⊢
            refine tk 0 (some 112) (v := ?_) rfl rfl ?_ ?_
            rotate_left
            · (intro w _; go_simp; (try with_reducible rfl))
            simp only [Act.put, stB, stZ, stS]
            refine tk 1 (some 113) (v := ?_) rfl rfl ?_ ?_
            rotate_left
            · (intro w _; go_simp; (try with_reducible rfl))
            simp only [Act.put, stB, stZ, stS]
            refine tk 2 (some 114) (v := ?_) rfl rfl ?_ ?_
            rotate_left
            · (intro w _; go_simp; (try with_reducible rfl))
            simp only [Act.put, stB, stZ, stS]
            refine tk 3 (some 115) (v := ?_) rfl rfl ?_ ?_
            rotate_left
            · (intro w _; go_simp; (try with_reducible rfl))
            simp only [Act.put, stB, stZ, stS]
            refine tk 4 (some 116) (v := ?_) rfl rfl ?_ ?_
            rotate_left
            · (intro w _; go_simp; (try with_reducible rfl))
            simp only [Act.put, stB, stZ, stS]
            refine tk 5 (some 117) (v := ?_) rfl rfl ?_ ?_
            rotate_left
            · (intro w _; go_simp; (try with_reducible rfl))
            simp only [Act.put, stB, stZ, stS]
            refine takeH (i := 6) (d := (some 118)) (v := undef) rfl rfl (by kernel_rfl) (by kernel_rfl) (by kernel_rfl) (fun _ _ _ h => h) (Or.inr ⟨by rfl, rfl⟩) (by assumption) ?_
            simp only [Act.put, stB, stZ, stS]
            refine takeH (i := 7) (d := (some 119)) (v := undef) rfl rfl (by kernel_rfl) (by kernel_rfl) (by kernel_rfl) (fun _ _ _ h => h) (Or.inr ⟨by rfl, rfl⟩) (by assumption) ?_
            simp only [Act.put, stB, stZ, stS]
            refine takeH (i := 8) (d := (some 120)) (v := undef) rfl rfl (by kernel_rfl) (by kernel_rfl) (by kernel_rfl) (fun _ _ _ h => h) (Or.inr ⟨by rfl, rfl⟩) (by assumption) ?_
            simp only [Act.put, stB, stZ, stS]
            refine takeH (i := 9) (d := (some 121)) (v := undef) rfl rfl (by kernel_rfl) (by kernel_rfl) (by kernel_rfl) (fun _ _ _ h => h) (Or.inr ⟨by rfl, rfl⟩) (by assumption) ?_
            simp only [Act.put, stB, stZ, stS]
            refine takeH (i := 10) (d := (some 122)) (v := undef) rfl rfl (by kernel_rfl) (by kernel_rfl) (by kernel_rfl) (fun _ _ _ h => h) (Or.inr ⟨by rfl, rfl⟩) (by assumption) ?_
            simp only [Act.put, stB, stZ, stS]
            refine takeH (i := 11) (d := (some 123)) (v := undef) rfl rfl (by kernel_rfl) (by kernel_rfl) (by kernel_rfl) (fun _ _ _ h => h) (Or.inr ⟨by rfl, rfl⟩) (by assumption) ?_
            simp only [Act.put, stB, stZ, stS]
            refine takeH (i := 12) (d := (some 124)) (v := undef) rfl rfl (by kernel_rfl) (by kernel_rfl) (by kernel_rfl) (fun _ _ _ h => h) (Or.inr ⟨by rfl, rfl⟩) (by assumption) ?_
            simp only [Act.put, stB, stZ, stS]
            refine takeH (i := 13) (d := (some 125)) (v := undef) rfl rfl (by kernel_rfl) (by kernel_rfl) (by kernel_rfl) (fun _ _ _ h => h) (Or.inr ⟨by rfl, rfl⟩) (by assumption) ?_
            simp only [Act.put, stB, stZ, stS]
            refine takeH (i := 14) (d := (some 126)) (v := undef) rfl rfl (by kernel_rfl) (by kernel_rfl) (by kernel_rfl) (fun _ _ _ h => h) (Or.inr ⟨by rfl, rfl⟩) (by assumption) ?_
            simp only [Act.put, stB, stZ, stS]
            refine takeH (i := 15) (d := (some 127)) (v := undef) rfl rfl (by kernel_rfl) (by kernel_rfl) (by kernel_rfl) (fun _ _ _ h => h) (Or.inr ⟨by rfl, rfl⟩) (by assumption) ?_
            simp only [Act.put, stB, stZ, stS]
            refine takeH (i := 16) (d := (some 128)) (v := undef) rfl rfl (by kernel_rfl) (by kernel_rfl) (by kernel_rfl) (fun _ _ _ h => h) (Or.inr ⟨by rfl, rfl⟩) (by assumption) ?_
            simp only [Act.put, stB, stZ, stS]
            refine tk 17 (some 129) (v := ?_) rfl rfl ?_ ?_
            rotate_left
            · (intro w _; go_simp; (try with_reducible rfl))
            simp only [Act.put, stB, stZ, stS]
            refine tk 18 (some 130) (v := ?_) rfl rfl ?_ ?_
            rotate_left
            · (intro w _; go_simp; (try with_reducible rfl))
            simp only [Act.put, stB, stZ, stS]
            refine tk 19 (some 131) (v := ?_) rfl rfl ?_ ?_
            rotate_left
            · (intro w _; go_simp; (try with_reducible rfl))
            simp only [Act.put, stB, stZ, stS]
            refine tk 20 (some 132) (v := ?_) rfl rfl ?_ ?_
            rotate_left
            · (intro w _; go_simp; (try with_reducible rfl))
            simp only [Act.put, stB, stZ, stS]
            refine tk 21 (some 133) (v := ?_) rfl rfl ?_ ?_
            rotate_left
            · (intro w hSw; (try dsimp only at hSw); ((try obtain ⟨hS0, hS1, hS2, hS3, hS4, hS5, hS6, hS7, hS8, hS9, hS10, hS11⟩ := hSw); go_simp); (try with_reducible rfl))
            simp only [Act.put, stB, stZ, stS]
            refine tk 22 (some 134) (v := ?_) rfl rfl ?_ ?_
            rotate_left
            · (intro w _; go_simp; (try with_reducible rfl))
            simp only [Act.put, stB, stZ, stS]
            refine tk 23 (some 135) (v := ?_) rfl rfl ?_ ?_
            rotate_left
            · (intro w hSw; (try dsimp only at hSw); ((try obtain ⟨hS0, hS1, hS2, hS3, hS4, hS5, hS6, hS7, hS8, hS9, hS10, hS11⟩ := hSw); go_simp); (try with_reducible rfl))
            simp only [Act.put, stB, stZ, stS]
            refine tk 24 (some 136) (v := ?_) rfl rfl ?_ ?_
            rotate_left
            · (intro w hSw; (try dsimp only at hSw); ((try obtain ⟨hS0, hS1, hS2, hS3, hS4, hS5, hS6, hS7, hS8, hS9, hS10, hS11⟩ := hSw); go_simp); (try with_reducible rfl))
            simp only [Act.put, stB, stZ, stS]
            refine tk 25 (some 137) (v := ?_) rfl rfl ?_ ?_
            rotate_left
            · (intro w _; go_simp; (try with_reducible rfl))
            simp only [Act.put, stB, stZ, stS]
            refine tk 27 (some 139) (v := ?_) rfl rfl ?_ ?_
            rotate_left
            · (intro w _; go_simp; (try with_reducible rfl))
            simp only [Act.put, stB, stZ, stS]
            refine wpAnyH_ready (rs := [26]) (by kernel_rfl) (by simp) ?_
            refine (AllReadyH.cons rfl (fun K hK => ?_) AllReadyH.nil)
            go_simp
            refine (HHO.out _ (bthen HBR.out HB.out)).mono ?_
            rintro e w15 ⟨rfl, hb⟩
            replace HB := Lib.hid (bthen HB.out hb)
            have hKK := And.intro (hu hb (hHeld.1)) <| And.intro (hu hb (hHeld.2.1)) <| And.intro (hu hb (hHeld.2.2.1)) <| And.intro (hu hb (hHeld.2.2.2.1)) <| And.intro (hu hb (hHeld.2.2.2.2.1)) <| And.intro (hu hb (hHeld.2.2.2.2.2.1)) <| And.intro (hu hb (hHeld.2.2.2.2.2.2.1)) <| And.intro (hu hb (hHeld.2.2.2.2.2.2.2.1)) <| And.intro (hu hb (hHeld.2.2.2.2.2.2.2.2.1)) <| And.intro (hu hb (hHeld.2.2.2.2.2.2.2.2.2.1)) <| And.intro (hu hb (hHeld.2.2.2.2.2.2.2.2.2.2.1)) <| hu hb (hHeld.2.2.2.2.2.2.2.2.2.2.2)
            clear hb
            refine hK.out _ _ (hKK) (fun hHeld2 => ?_)
            clear hK K hHeld
            rename _ => hHeld
            try simp only [Act.put, stB, stZ, stS]
            refine tk 28 (some 140) (v := ?_) rfl rfl ?_ ?_
            rotate_left
            · (intro w _; go_simp; (try with_reducible rfl))
            simp only [Act.put, stB, stZ, stS]
            refine tk 29 (some 141) (v := ?_) rfl rfl ?_ ?_
            rotate_left
            · (intro w _; go_simp; (try with_reducible rfl))
            simp only [Act.put, stB, stZ, stS]
            refine wpAnyH_done (by kernel_rfl) ?_ _
            (try simp only [Exit.inBlock, Exit.then])
            clear hHeld
            cases hF : FN k
            · go_wp2_with fail
              go_roundw
              case rel => exact ⟨k + 1, by omega, by go_num, by rw [HFS.out, hF]; rfl, bthen HBR.out HB.out⟩
              case measure => simp [intOf]; omega
            · go_wp2_with fail
              go_roundw
              case rel => exact ⟨k + 1, by omega, by go_num, by rw [HFS.out, hF]; rfl, bthen HBR.out HB.out⟩
              case measure => simp [intOf]; omega
      · obtain rfl : k = rn := by omega
        have HBR := Lib.hid hb
        obtain ⟨CQ, cok, hdot, hcs⟩ : ∃ CQ cok, (∀ W, Below w5.heap.size w5 W → Calls Try.prog 12 #[.slice ca cn cc, .slice ua yn uc] W (RetRB2 CQ cok W)) ∧ CanSame CQ CQ := by
          by_cases hyc : cn = yn
          · have hcl2 : (qs cs).length ≤ 1100000 := by rw [qs_len, (HPW.out w5 (Below.refl _ _)).cost.len]; exact hcn
            refine ⟨dotQ (qs cs) (qs vs), true, fun W hb => ?_, ?_⟩
            · have h1 := (HPW.out W hb).cost
              rw [hyc] at h1 ⊢
              exact vdot_eq ca ua yn cc uc cs vs W h1 (HXV.out W hb) (canDot_long HCQ.out HVQ.out hcl2 (by omega))
            · have hd : Long 10000000 (dotQ (qs cs) (qs vs)) := (dot_long _ _ HCQ.out HVQ.out).mono (by omega)
              exact canSame_long hd hd (by omega)
          · exact ⟨0, false, fun W hb => vdot_ne ca ua cn yn cc uc W hcl.1 hyl hyc, canSame_long Long.zero Long.zero (by omega)⟩
        have HDT := Lib.hid hdot
        have HCS := Lib.hid (fun (u v : Rv) (W : World) (hu : u.ok W) (hv : v.ok W) (e1 : u.q = CQ) (e2 : v.q = CQ) => (show Calls Try.prog 15 #[.agg #[.bool u.s, .slice u.a u.l u.c, .slice u.b u.m u.d], .agg #[.bool v.s, .slice v.a v.l v.c, .slice v.b v.m v.d]] W fun e w' => e = .returned (.bool true) ∧ Below W.heap.size W w' from by
          have h1 := hcs u v W hu hv e1 e2
          rwa [decide_eq_true rfl] at h1))
        have HFT := Lib.hid (fun (W : World) (hb : Below w5.heap.size w5 W) => (show Calls Try.prog 19 #[.agg #[.slice ca cn cc, .slice pa k pc], .slice ua yn uc] W fun e w' => e = .returned (.bool (FN k)) ∧ Below W.heap.size W w' from by
          have h1 := fits_any ca cn cc pa k pc cs rows W (HPW.out W hb) ua yn uc vs (HXV.out W hb) (fun r hr h1 _ => ⟨(HCL.out r hr).1 h1, (HCL.out r hr).2.1 h1⟩)
          have e : FN k = fitsQ cn rows vs yn := by
            rw [HFN.out, ← HF0.out, List.take_of_length_le (by rw [(HPW.out W hb).len]; exact Nat.le_refl _)]
            rfl
          rw [e]; exact h1))
        clear hdot hcs hb HCL HCQ HVQ HFN HF0
        have p0 := HP0.out _ HBR.out
        go_wp2_with fail
        refine (cost_run ca cn cc pa k pc ua yn uc CQ cok _ (fun W hb => HDT.out W (bthen HBR.out hb))).mono ?_
        rintro e w7 ⟨sv, rfl, hso, hsq, hb7⟩
        unfold Rv.val
        have HSV := Lib.hid (hso.below (belowBox w7 (.cells #[.bool sv.s, .slice sv.a sv.l sv.c, .slice sv.b sv.m sv.d] 40)))
        have HSQ := Lib.hid hsq
        have HSB := Lib.hid (heap_alloc_new w7 (.cells #[.bool sv.s, .slice sv.a sv.l sv.c, .slice sv.b sv.m sv.d] 40))
        replace HBR := Lib.hid (bthen HBR.out (bthen hb7 (belowBox w7 (.cells #[.bool sv.s, .slice sv.a sv.l sv.c, .slice sv.b sv.m sv.d] 40))))
        clear hso hsq hb7 p0 p1
        go_upto_region 16 with fail
        generalize w7.heap.size = sb at HSB ⊢
        generalize w7.alloc (.cells #[.bool sv.s, .slice sv.a sv.l sv.c, .slice sv.b sv.m sv.d] 40) = w8 at HSB HSV HBR ⊢
        have p0 := HP0.out _ HBR.out
        go_wp2_with fail
        refine (HDT.out _ HBR.out).mono ?_
        rintro e w9 ⟨ov, rfl, hoo, hoq, hb9⟩
        unfold Rv.val
        have hal := belowBox w9 (.cells #[.bool ov.s, .slice ov.a ov.l ov.c, .slice ov.b ov.m ov.d] 40)
        have HOV9 := Lib.hid (hoo.below hal)
        have HOQ := Lib.hid hoq
        have HOB := Lib.hid (heap_alloc_new w9 (.cells #[.bool ov.s, .slice ov.a ov.l ov.c, .slice ov.b ov.m ov.d] 40))
        have hs9 := (hb9.block sb (lt_of_block HSB.out)).trans HSB.out
        replace HSB := Lib.hid ((hal.block sb (lt_of_block hs9)).trans hs9)
        replace HSV := Lib.hid ((HSV.out.below hb9).below hal)
        replace HBR := Lib.hid (bthen HBR.out (bthen hb9 hal))
        clear hoo hoq hb9 hal hs9 p0
        go_upto_region 17 with fail
        generalize w9.heap.size = ob at HOB ⊢
        generalize w9.alloc (.cells #[.bool ov.s, .slice ov.a ov.l ov.c, .slice ov.b ov.m ov.d] 40) = w10 at HSB HSV HBR HOB HOV9 ⊢
        have p0 := HP0.out _ HBR.out
        have p1 := HP1'.out _ HBR.out
        go_wp2_with fail
        refine (HFT.out _ HBR.out).mono ?_
        rintro e w11 ⟨rfl, hb⟩
        have s0 := hu hb (cell_of_block (j := 0) HSB.out rfl)
        have s1 := hu hb (cell_of_block (j := 1) HSB.out rfl)
        have s2 := hu hb (cell_of_block (j := 2) HSB.out rfl)
        have o0 := hu hb (cell_of_block (j := 0) HOB.out rfl)
        have o1 := hu hb (cell_of_block (j := 1) HOB.out rfl)
        have o2 := hu hb (cell_of_block (j := 2) HOB.out rfl)
        have HB := Lib.hid hb
        clear hb p0 p1
        go_wp2_with fail
        refine (HCS.out sv ov _ (HSV.out.below HB.out) (HOV9.out.below HB.out) HSQ.out HOQ.out).mono ?_
        rintro e w12 ⟨rfl, hb⟩
        have HB12 := Lib.hid hb
        clear hb
        go_wp2_with fail
        go_ret
        exact ⟨rfl, bthen HB5.out (bthen HBR.out (bthen HB.out HB12.out))⟩
end Go.Proofs.Ytndndfobkbeolaa
