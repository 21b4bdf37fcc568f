/-
  The walk of ProbMays: it answers true; the conditions: what is handed in is in memory, and is not too much; what errors.errorType holds.
  Printed by a program of this repository (wip/pm5.py).
-/
import Derived.Test.YtndndfobkbeolaaGreatDoorQL
import Derived.Test.YtndndfobkbeolaaGreatDoorQK
import Derived.Test.YtndndfobkbeolaaGreatDoorQO
import Derived.BigQuiet
set_option linter.unusedVariables false
set_option linter.unusedSimpArgs false
namespace Go.Proofs.YtndndfobkbeolaaGreatDoor
open Go.RowKit Go.Extern.Stop Go.Stop Go.Extern
def lineP (r : LRow) : PRow := ⟨r.a, r.n, r.c, [], r.kind, Rv.zero⟩
theorem mayAt_congr (cn : Nat) : ∀ (k : Nat) (xs ys : List PRow), xs.map (fun r => (r.n, r.kind)) = ys.map (fun r => (r.n, r.kind)) → mayAt cn k xs = mayAt cn k ys
  | _, [], [], _ => rfl
  | _, [], _ :: _, h => by simp at h
  | _, _ :: _, [], h => by simp at h
  | k, x :: xs, y :: ys, h => by
    simp only [List.map_cons, List.cons.injEq, Prod.mk.injEq] at h
    rw [mayAt_cons, mayAt_cons, h.1.1, h.1.2, mayAt_congr cn (k + 1) xs ys h.2]
theorem mayF_lines {cn : Nat} {rows : List PRow} {lines : List LRow} (h1 : rows.map prowQ = lines.map lineQ) (h2 : rows.map (·.n) = lines.map (·.n)) : mayF cn rows = mayF cn (lines.map lineP) := by
  have hl : rows.length = lines.length := by have := congrArg List.length h2; simpa using this
  have hk : rows.map (·.kind) = lines.map (·.kind) := by
    have h3 := congrArg (List.map fun x => x.2.1) h1
    rw [List.map_map, List.map_map] at h3
    exact h3
  unfold mayF
  rw [List.length_map, hl]
  split
  · rfl
  · refine mayAt_congr cn 0 _ _ ?_
    apply List.ext_getElem?
    intro i
    have a1 := congrArg (fun l => l[i]?) h2
    have a2 := congrArg (fun l => l[i]?) hk
    simp only [List.getElem?_map] at a1 a2 ⊢
    cases hx : rows[i]? <;> cases hy : lines[i]? <;> simp [hx, hy, lineP] at a1 a2 ⊢
    exact ⟨a1, a2⟩
theorem standard_any (ca : Option Addr) (cn cc : Nat) (ra : Option Addr) (rn rc : Nat) (cs : List Rv) (rows : List PRow) (w : World) (h : PrW w ca cn cc ra rn rc cs rows) :
    Calls Tryz.prog 7 #[.agg #[.slice ca cn cc, .slice ra rn rc]] w fun e w' => ∃ ma mn mc co ba bn bc da dn dc ow la ln lc v, e = .returned (.tuple #[.agg #[.slice ma mn mc, .int .i64 co, .slice ba bn bc, .slice da dn dc, .int .i64 ow, .slice la ln lc], v]) ∧ ErrV w' w.heap.size (mayF cn rows) v ∧ Below w.heap.size w w' := by
  by_cases hf : mayF cn rows = noF
  · refine (standard_ok ca cn cc ra rn rc cs rows w h hf).mono ?_
    rintro e w' ⟨ma, mc, cols, ba, bc, da, dc, la, lc, ms, bs, es, ls, rfl, _, _, hb⟩
    exact ⟨ma, rn, mc, cols, ba, rn, bc, da, cols, dc, cn, la, rn, lc, .nilIface, rfl, by rw [hf]; exact ErrV.nil0 _ _, hb⟩
  · refine (standard_err ca cn cc ra rn rc cs rows w h hf).mono ?_
    rintro e w' ⟨v, rfl, hv, hb⟩
    exact ⟨none, 0, 0, 0, none, 0, 0, none, 0, 0, 0, none, 0, 0, v, rfl, hv, hb⟩
set_option maxRecDepth 100000 in
set_option maxHeartbeats 16000000 in
theorem mays_any (xa : Option Addr) (cn xc : Nat) (ra : Option Addr) (rn rc : Nat) (cost : List Fr) (lines : List LRow) (w : World) (hg : Hg w) (h : RawW w xa cn xc ra rn rc cost lines) (hcn : cn ≤ 1100000) (hrn : rn ≤ 1100000) (hln : ∀ r, r ∈ lines → r.n ≤ 1100000) :
    Calls Tryz.prog 3 #[.agg #[.slice xa cn xc, .slice ra rn rc]] w fun e w' => e = .returned (.bool true) ∧ Below w.heap.size w w' := by
  have hlI := h.sl.lenI
  obtain ⟨w1, hw1⟩ : ∃ w1, w.alloc (.cells #[.slice xa cn xc, .slice ra rn rc] 25) = w1 := ⟨_, rfl⟩
  have hq1 : w1.heap[w.heap.size]? = some (.cells #[.slice xa cn xc, .slice ra rn rc] 25 (0, 0)) := by rw [← hw1]; exact heap_alloc_new w _
  have hb1 : Below w.heap.size w w1 := by rw [← hw1]; exact belowBox w _
  obtain ⟨qb, hqb⟩ : ∃ qb, w.heap.size = qb := ⟨_, rfl⟩
  rw [hqb] at hq1
  have HG := Lib.hid (fun (W : World) (hb : Below w.heap.size w W) => hg.below hb hg.lt)
  have HRW := Lib.hid (fun (W : World) (hb : Below w.heap.size w W) => h.below hb)
  have HLEN := Lib.hid h.len
  have HLNS := Lib.hid hln
  have HQ := Lib.hid hq1
  have HB := Lib.hid hb1
  have HW1 := Lib.hid hw1
  have HQE := Lib.hid hqb
  clear hg h hln hq1 hb1 hw1 hqb
  go_enter Tryz.func3, Tryz.ntmps3
  go_upto_region 1 with fail
  (try simp only [HW1.out])
  (try simp only [HQE.out])
  clear HW1 HQE
  go_wp2_with fail
  refine (awake_any w1).mono ?_
  rintro e w2 ⟨rfl, hb⟩
  replace HQ := Lib.hid ((hb.block qb (lt_of_block HQ.out)).trans HQ.out)
  replace HB := Lib.hid (bthen HB.out hb)
  clear hb
  have q0 := cell_of_block (j := 0) HQ.out rfl
  have q1 := cell_of_block (j := 1) HQ.out rfl
  go_wp2_with fail
  clear q0 q1
  refine (make_any xa cn xc ra rn rc cost lines w2 (HRW.out w2 HB.out) hcn hrn HLNS.out).mono ?_
  rintro e w3 ⟨ca, cc, pa, pc, cs, rows, rfl, hpr, hcq, hrq, hrnn⟩
  have HMF := Lib.hid (mayF_lines (cn := cn) hrq hrnn)
  have HRL := Lib.hid (show rows.length = rn from hpr.len)
  have hal := belowBox w3 (.cells #[.slice ca cn cc, .slice pa rn pc] 31)
  have hqq := (hpr.bel.block qb (lt_of_block HQ.out)).trans HQ.out
  replace HQ := Lib.hid ((hal.block qb (lt_of_block hqq)).trans hqq)
  replace HB := Lib.hid (bthen HB.out (bthen hpr.bel hal))
  have HPB := Lib.hid (heap_alloc_new w3 (.cells #[.slice ca cn cc, .slice pa rn pc] 31))
  have HPR := Lib.hid (hpr.prw.below hal)
  clear hpr hcq hrq hrnn hal hqq
  go_upto_region 4 with fail
  generalize w3.heap.size = pb at HPB ⊢
  generalize w3.alloc (.cells #[.slice ca cn cc, .slice pa rn pc] 31) = w4 at HPB HQ HB HPR ⊢
  have p0 := cell_of_block (j := 0) HPB.out rfl
  have p1 := cell_of_block (j := 1) HPB.out rfl
  go_wp2_with fail
  clear p0 p1
  refine (may_any ca cn cc pa rn pc cs rows w4 HPR.out).mono ?_
  rintro e w5 ⟨v1, rfl, he1, hb⟩
  have HE1 := Lib.hid (fun (W : World) (hb5 : Below w5.heap.size w5 W) => he1.below hb5)
  replace HQ := Lib.hid ((hb.block qb (lt_of_block HQ.out)).trans HQ.out)
  replace HPB := Lib.hid ((hb.block pb (lt_of_block HPB.out)).trans HPB.out)
  replace HPR := Lib.hid (HPR.out.below hb)
  replace HB := Lib.hid (bthen HB.out hb)
  clear he1 hb
  have p0 := cell_of_block (j := 0) HPB.out rfl
  have p1 := cell_of_block (j := 1) HPB.out rfl
  go_wp2_with fail
  clear p0 p1
  refine (standard_any ca cn cc pa rn pc cs rows w5 HPR.out).mono ?_
  rintro e w6 ⟨ma, mn, mc, co, ba, bn, bc, da, dn, dc, ow, la, ln, lc, v2, rfl, he2, hb⟩
  have hal := belowBox w6 (.cells #[.slice ma mn mc, .int .i64 co, .slice ba bn bc, .slice da dn dc, .int .i64 ow, .slice la ln lc] 41)
  have HE2 := Lib.hid (fun (W : World) (hb7 : Below (w6.alloc (.cells #[.slice ma mn mc, .int .i64 co, .slice ba bn bc, .slice da dn dc, .int .i64 ow, .slice la ln lc] 41)).heap.size (w6.alloc (.cells #[.slice ma mn mc, .int .i64 co, .slice ba bn bc, .slice da dn dc, .int .i64 ow, .slice la ln lc] 41)) W) => (he2.below hal).below hb7)
  have hqq := (hb.block qb (lt_of_block HQ.out)).trans HQ.out
  replace HQ := Lib.hid ((hal.block qb (lt_of_block hqq)).trans hqq)
  replace HB := Lib.hid (bthen HB.out (bthen hb hal))
  have HB57 := Lib.hid (bthen hb hal)
  clear he2 hb hal hqq HPB HPR
  go_upto_region 6 with fail
  generalize w6.alloc (.cells #[.slice ma mn mc, .int .i64 co, .slice ba bn bc, .slice da dn dc, .int .i64 ow, .slice la ln lc] 41) = w7 at HE2 HQ HB HB57 ⊢
  have q1 := cell_of_block (j := 1) HQ.out rfl
  go_wp2_with fail
  clear q1
  have HB7 := HB
  have hbs : Below w7.heap.size w7 w7 := Below.refl _ _
  have HBS := Lib.hid hbs
  clear hbs
  go_loopw [7, 8, 9, 10] (fun nv sv av iv wr => ∃ k : Nat, k ≤ rn ∧ iv = .int .i64 ((k : Int) - 1) ∧ (nv = .int .i64 (mayAt cn k ((lines.map lineP).drop k)).1 ∧ sv = .string (mayAt cn k ((lines.map lineP).drop k)).2.1 ∧ av = .int .i64 (mayAt cn k ((lines.map lineP).drop k)).2.2) ∧ wr.heap[qb]? = some (.cells #[.slice xa cn xc, .slice ra rn rc] 25 (0, 0)) ∧ Below w7.heap.size w7 wr) (fun _ _ _ iv _ => (intOf iv + 1).toNat)
  case atStart => exact ⟨rn, Nat.le_refl _, rfl, by rw [List.drop_of_length_le (by rw [List.length_map, HLEN.out]; exact Nat.le_refl _), mayAt_nil]; exact ⟨rfl, rfl, rfl⟩, HQ.out, HBS.out⟩
  case round =>
    obtain ⟨k, hk, rfl, ⟨rfl, rfl, rfl⟩, hq, hbw⟩ := hrel
    replace HQ := Lib.hid hq
    replace HBS := Lib.hid hbw
    have q0 := cell_of_block (j := 0) hq rfl
    have q1 := cell_of_block (j := 1) hq rfl
    by_cases hk0 : 0 < k
    · obtain ⟨j, rfl⟩ : ∃ j, k = j + 1 := ⟨k - 1, by omega⟩
      obtain ⟨b, o, r, e1, e2, x0, x1, _, _, hok⟩ := (HRW.out wr (bthen HB7.out hbw)).get j (by omega)
      have hd := List.drop_eq_getElem_cons (show j < (lines.map lineP).length by rw [List.length_map, HLEN.out]; omega)
      rw [List.getElem_map, (List.getElem?_eq_some_iff.1 e2).2] at hd
      have hm : mayAt cn j ((lines.map lineP).drop j) = if r.n ≠ cn then (2, whRow, (j : Int)) else if r.kind < 1 ∨ 3 < r.kind then (160, whRow, (j : Int)) else mayAt cn (j + 1) ((lines.map lineP).drop (j + 1)) := by rw [hd, mayAt_cons]; rfl
      obtain ⟨F, hF⟩ : ∃ F, mayAt cn (j + 1) ((lines.map lineP).drop (j + 1)) = F := ⟨_, rfl⟩
      rw [hF] at hm ⊢
      have hrl := hok.fr.sl.lenI
      have hkI := hok.kind
      unfold I64 at hkI
      have i0 : (0 : Int) ≤ ((j + 1 : Nat) : Int) - 1 := by omega
      have ej : ((j + 1 : Nat) : Int) - 1 = (j : Int) := by omega
      rw [ej] at i0 ⊢
      have i1 : (j : Int) < (rn : Int) := by omega
      subst e1
      by_cases hne : r.n = cn
      · rw [if_neg (fun hh => hh hne)] at hm
        have hn2 : ((r.n : Int) != (cn : Int)) = false := by rw [hne]; simp
        by_cases hk1 : r.kind < 1
        · rw [if_pos (.inl hk1)] at hm
          have HM := Lib.hid hm
          clear hq hbw e2 hok hd hm hF hne hkI ej
          go_wp2_with fail
          go_quiet (fail)
          go_wp2_with fail
          go_roundw
          case rel => exact ⟨j, by omega, by go_num, by rw [HM.out]; exact ⟨rfl, rfl, rfl⟩, HQ.out, bthen HBS.out (Below.drawn _ _)⟩
          case measure => simp [intOf]
        · by_cases hk3 : 3 < r.kind
          · rw [if_pos (.inr hk3)] at hm
            have HM := Lib.hid hm
            clear hq hbw e2 hok hd hm hF hne hkI ej
            go_wp2_with fail
            go_quiet (fail)
            go_wp2_with fail
            go_roundw
            case rel => exact ⟨j, by omega, by go_num, by rw [HM.out]; exact ⟨rfl, rfl, rfl⟩, HQ.out, bthen HBS.out (Below.drawn _ _)⟩
            case measure => simp [intOf]
          · rw [if_neg (fun hh => hh.elim hk1 hk3)] at hm
            have HM := Lib.hid hm
            clear hq hbw e2 hok hd hm hF hne hkI ej
            go_wp2_with fail
            go_quiet (fail)
            go_wp2_with fail
            go_roundw
            case rel => exact ⟨j, by omega, by go_num, by rw [HM.out]; exact ⟨rfl, rfl, rfl⟩, HQ.out, bthen HBS.out (Below.drawn _ _)⟩
            case measure => simp [intOf]
      · rw [if_pos hne] at hm
        have hn2 : ((r.n : Int) != (cn : Int)) = true := by simp; omega
        have HM := Lib.hid hm
        clear hq hbw e2 hok hd hm hF hne hkI ej
        go_wp2_with fail
        go_quiet (fail)
        go_wp2_with fail
        go_roundw
        case rel => exact ⟨j, by omega, by go_num, by rw [HM.out]; exact ⟨rfl, rfl, rfl⟩, HQ.out, bthen HBS.out (Below.drawn _ _)⟩
        case measure => simp [intOf]
    · obtain rfl : k = 0 := by omega
      have hm1 : ¬ (0 : Int) ≤ ((0 : Nat) : Int) - 1 := by omega
      have HBE := Lib.hid (bthen HB7.out hbw)
      have HBE1 := Lib.hid (bthen HB57.out hbw)
      have HBE2 := Lib.hid hbw
      rw [List.drop_zero]
      obtain ⟨F, hF⟩ : ∃ F, mayAt cn 0 (lines.map lineP) = F := ⟨_, rfl⟩
      rw [hF]
      by_cases hc1 : 24 < cn
      · have HFF := Lib.hid (show mayF cn rows = (2, noWh, 0) by unfold mayF; rw [if_pos (.inl hc1)])
        have hc2 : (24 : Int) < (cn : Int) := by omega
        rw [HFF.out] at HE1 HE2
        clear hq hbw hF hc1
        go_wp2_with fail
        refine (told_any (2, noWh, 0) (2, noWh, 0) v1 _ _ (HG.out _ HBE.out) (HE1.out _ HBE1.out)).mono ?_
        rintro e wt ⟨b1, rfl, hb1, hbt⟩
        obtain rfl := hb1 rfl
        have HBT := Lib.hid hbt
        clear hb1 hbt
        go_wp2_with fail
        refine (told_any (2, noWh, 0) (2, noWh, 0) v2 _ _ (HG.out _ (bthen HBE.out HBT.out)) (HE2.out _ (bthen HBE2.out HBT.out))).mono ?_
        rintro e wu ⟨b2, rfl, hb2, hbu⟩
        obtain rfl := hb2 rfl
        have HBU := Lib.hid hbu
        clear hb2 hbu
        go_wp2_with fail
        go_ret
        exact ⟨rfl, bthen HBE.out (bthen HBT.out HBU.out)⟩
      · by_cases hr1 : 20 < rn
        · have HFF := Lib.hid (show mayF cn rows = (2, noWh, 0) by unfold mayF; rw [if_pos (.inr (by rw [HRL.out]; exact hr1))])
          have hc2 : ¬ (24 : Int) < (cn : Int) := by omega
          have hr2 : (20 : Int) < (rn : Int) := by omega
          rw [HFF.out] at HE1 HE2
          clear hq hbw hF hc1 hr1
          go_wp2_with fail
          refine (told_any (2, noWh, 0) (2, noWh, 0) v1 _ _ (HG.out _ HBE.out) (HE1.out _ HBE1.out)).mono ?_
          rintro e wt ⟨b1, rfl, hb1, hbt⟩
          obtain rfl := hb1 rfl
          have HBT := Lib.hid hbt
          clear hb1 hbt
          go_wp2_with fail
          refine (told_any (2, noWh, 0) (2, noWh, 0) v2 _ _ (HG.out _ (bthen HBE.out HBT.out)) (HE2.out _ (bthen HBE2.out HBT.out))).mono ?_
          rintro e wu ⟨b2, rfl, hb2, hbu⟩
          obtain rfl := hb2 rfl
          have HBU := Lib.hid hbu
          clear hb2 hbu
          go_wp2_with fail
          go_ret
          exact ⟨rfl, bthen HBE.out (bthen HBT.out HBU.out)⟩
        · have HFF := Lib.hid (show mayF cn rows = F by rw [HMF.out]; unfold mayF; rw [if_neg (by rw [List.length_map, HLEN.out]; omega), hF])
          have hc2 : ¬ (24 : Int) < (cn : Int) := by omega
          have hr2 : ¬ (20 : Int) < (rn : Int) := by omega
          rw [HFF.out] at HE1 HE2
          clear hq hbw hF hc1 hr1
          go_wp2_with fail
          refine (told_any F F v1 _ _ (HG.out _ HBE.out) (HE1.out _ HBE1.out)).mono ?_
          rintro e wt ⟨b1, rfl, hb1, hbt⟩
          obtain rfl := hb1 rfl
          have HBT := Lib.hid hbt
          clear hb1 hbt
          go_wp2_with fail
          refine (told_any F F v2 _ _ (HG.out _ (bthen HBE.out HBT.out)) (HE2.out _ (bthen HBE2.out HBT.out))).mono ?_
          rintro e wu ⟨b2, rfl, hb2, hbu⟩
          obtain rfl := hb2 rfl
          have HBU := Lib.hid hbu
          clear hb2 hbu
          go_wp2_with fail
          go_ret
          exact ⟨rfl, bthen HBE.out (bthen HBT.out HBU.out)⟩
end Go.Proofs.YtndndfobkbeolaaGreatDoor
