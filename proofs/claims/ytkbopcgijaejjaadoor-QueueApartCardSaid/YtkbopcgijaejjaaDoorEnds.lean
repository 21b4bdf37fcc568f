/-
  The walk of QueueEnds: it answers true; the conditions: what errors.errorType holds; how long the script is.
  Printed by a program of this repository (wip/qu21.py).
-/
import Derived.Test.YtkbopcgijaejjaaDoorQDo
import Derived.Test.YtkbopcgijaejjaaDoorActs
namespace Go.Proofs.YtkbopcgijaejjaaDoor
open Go.RowKit Go.Extern.Stop Go.Stop Go.Extern

/-- No worker has a job. -/
def Calm (bs : List Bool) : Prop := ∀ i : Nat, bs[i]? ≠ some true
theorem calm_rows {rows : List Rw} {ws : List (Int × Int)} {bs : List Bool} (h : Inv rows ws bs) (hc : Calm bs) : ∀ r ∈ rows, r.busy = false := fun r hr => by
  cases hb : r.busy with
  | false => rfl
  | true => obtain ⟨i, hi, _⟩ := h.full r hr hb; exact absurd hi (hc i)
theorem calm_ready {rows : List Rw} {ws : List (Int × Int)} {bs : List Bool} (h : Inv rows ws bs) (hc : Calm bs) : readyS rows = rows.map keyOf := by
  unfold readyS
  rw [List.filter_eq_self.2 fun r hr => by rw [calm_rows h hc r hr]; rfl]
theorem calm_busy {bs : List Bool} (hc : Calm bs) (n : Int) : busyB bs n = false := by
  cases hb : busyB bs n with
  | false => rfl
  | true =>
    have h2 := hb
    unfold busyB at h2
    simp only [Bool.and_eq_true, decide_eq_true_eq] at h2
    have := busyB_get h2.1.1 h2.1.2
    rw [hb] at this
    exact absurd this (hc _)
theorem end_calm (ws : List (Int × Int)) (bs : List Bool) (hl : ws.length = bs.length) (k : Nat) (h : ∀ i : Nat, i < k → bs[i]? ≠ some true) : ∀ i : Nat, i < k + 1 → (endB ws bs k)[i]? ≠ some true := by
  intro i hi
  unfold endB
  by_cases ho : endO ws bs k = .ok
  · rw [if_pos ho, Int.toNat_natCast]
    by_cases he : k = i
    · subst he
      rw [List.getElem?_set]
      split
      · split <;> simp
      · rename_i h2; exact absurd rfl h2
    · rw [List.getElem?_set_ne he]
      exact h i (by omega)
  · rw [if_neg ho]
    by_cases he : i = k
    · subst he
      intro hb
      refine ho ?_
      have hlt := (List.getElem?_eq_some_iff.1 hb).1
      have hbz := busyB_get (bs := bs) (n := (i : Int)) (by omega) (by omega)
      rw [Int.toNat_natCast, hb] at hbz
      unfold endO
      rw [if_neg (by omega), if_pos (Option.some.inj hbz).symm]
    · exact h i (by omega)
/-- A round: one job is done. -/
theorem round_ok {rows : List Rw} {ws : List (Int × Int)} {bs : List Bool} (h : Inv rows ws bs) (hc : Calm bs) (hl : allR rows ≤ 4398046511104) (hw : 1 ≤ ws.length) (ha : 0 < allR rows) (p : Int) :
    beginO rows ws bs 0 = .ok ∧ endO (beginW rows ws bs 0 p) (beginB rows ws bs 0) 0 = .ok ∧ Calm (endB (beginW rows ws bs 0 p) (beginB rows ws bs 0) 0) ∧
      allR (endR (beginR rows ws bs 0 p) (beginW rows ws bs 0 p) (beginB rows ws bs 0) 0) + 1 = allR rows := by
  have hr : rows ≠ [] := fun e => by rw [e] at ha; simp [allR] at ha
  have hrr : readyS rows ≠ [] := by rw [calm_ready h hc]; simpa using hr
  have ho : beginO rows ws bs 0 = .ok := by
    unfold beginO
    rw [if_neg (by omega), if_neg (by rw [calm_busy hc]; simp), if_neg hrr]
  have hb : beginB rows ws bs 0 = bs.set 0 true := by unfold beginB; rw [if_pos ho]; rfl
  have hl0 := h.len
  have h0 : 0 < bs.length := by omega
  have ho2 : endO (beginW rows ws bs 0 p) (beginB rows ws bs 0) 0 = .ok := by
    unfold endO
    rw [len_begin, hb, if_neg (by omega), if_pos]
    have := busyB_get (bs := bs.set 0 true) (n := 0) (by omega) (by rw [List.length_set]; omega)
    rw [show (0 : Int).toNat = 0 from rfl, List.getElem?_set_self h0] at this
    exact (Option.some.inj this).symm
  refine ⟨ho, ho2, ?_, ?_⟩
  · unfold endB
    rw [if_pos ho2, hb]
    intro i
    show ((bs.set 0 true).set 0 false)[i]? ≠ some true
    rw [List.set_set, List.getElem?_set]
    split
    · first | (split <;> simp) | simp
    · exact hc i
  · have := allR_end (h.begin hl 0 p) 0
    rw [if_pos ho2, allR_begin] at this
    exact this
theorem all_q_st {w0 w : World} {qb : Nat} {X : List (Nat × Obj)} {rows : List Rw} {ws : List (Int × Int)} {bs : List Bool} (h : StQ w0 qb X rows ws bs w) (hl : allR rows ≤ 4398046511104) :
    Calls Tryd.prog 14 #[.pointer (some ⟨qb, 0, none⟩)] w fun e w' => e = .returned (.int .i64 (allR rows)) ∧ Below w.heap.size w w' ∧ StQ w0 qb X rows ws bs w' := by
  obtain ⟨F, h1, h2, _⟩ := id h
  exact (all_q h1 hl).mono fun e w' ⟨he, hb⟩ => ⟨he, hb, h.below hb⟩
def LoopC (w : World) (qb mb m n : Nat) (iv : Value) (wr : World) : Prop :=
  ∃ (k : Nat) (rows : List Rw) (ws : List (Int × Int)) (bs : List Bool), k ≤ n ∧ iv = .int .i64 k ∧ StC w qb mb [] rows ws bs rows ws bs wr ∧ allR rows ≤ k ∧ ws.length = m
def LoopE (w : World) (qb m n : Nat) (iv : Value) (wr : World) : Prop :=
  ∃ (k : Nat) (rows : List Rw) (ws : List (Int × Int)) (bs : List Bool), k ≤ 6 ∧ iv = .int .i64 k ∧ StQ w qb [] rows ws bs wr ∧ allR rows ≤ n ∧ ws.length = m ∧ ∀ i : Nat, i < k → bs[i]? ≠ some true
def LoopR (w : World) (qb m n : Nat) (iv : Value) (wr : World) : Prop :=
  ∃ (k : Nat) (rows : List Rw) (ws : List (Int × Int)) (bs : List Bool), k ≤ n ∧ iv = .int .i64 k ∧ StQ w qb [] rows ws bs wr ∧ allR rows + k = n ∧ ws.length = m ∧ Calm bs


set_option maxRecDepth 100000 in
set_option maxHeartbeats 8000000 in
theorem queueEnds_slices (n : Int) (a1 a2 : Option Addr) (c1 c2 : Nat) (xs : List Ac) (ys : List Int) (w : World) (hg : Hg w) (h0 : 0 ≤ n) (h1 : n ≤ 255) (hx : Acts w (.slice a1 xs.length c1) xs) (hy : Sl w 1 (.slice a2 ys.length c2) ys.length (ys.map IV)) (hsz : xs.length * 48 ≤ 140737488351232) :
    Calls Tryd.prog 6 #[.int .u8 n, .slice a1 xs.length c1, .slice a2 ys.length c2] w (Yes w) := by
  have HAW := Lib.hid (awake_any w hg)
  have HX := Lib.hid hx
  have HY := Lib.hid hy
  have HG := Lib.hid hg
  have HN0 := Lib.hid h0
  have HN1 := Lib.hid h1
  have hlen := hx.1.lenI
  have hleny := hy.lenI
  obtain ⟨hm1, hm6⟩ := nW_le n
  clear hx hy hg h0 h1
  go_enter Tryd.func6, Tryd.ntmps6
  go_wp2_with fail
  refine HAW.out.mono ?_
  rintro e w1 ⟨rfl, hb1⟩
  have HB1 := Lib.hid hb1
  clear hb1
  go_wp2_with fail
  refine (both_any n w1 HN0.out HN1.out).mono ?_
  rintro e w2 ⟨qb, mb, F, G, rfl, hq, hm, hF, hG, hb2⟩
  have HS0 := Lib.hid (StC.new HB1.out hq hm hF hG hb2)
  obtain ⟨m, hme⟩ : ∃ m, m = nW n := ⟨_, rfl⟩
  rw [← hme] at HS0 hm1 hm6
  clear hq hm hF hG hb2 hme
  go_wp2_with fail
  go_loopw [9] (fun iv wr => LoopC w qb mb m xs.length iv wr) (fun iv _ => xs.length - (intOf iv).toNat)
  case atStart => exact ⟨0, [], _, _, Nat.zero_le _, rfl, HS0.out, Nat.le_refl _, by simp⟩
  case round =>
    obtain ⟨k, rows, ws, bs, hk, rfl, hst, hal, hwl⟩ := hrel
    by_cases hlt : k < xs.length
    · obtain ⟨⟨b, o, rfl, k0, k1, k2, k3, k4, k5⟩, hok⟩ := HX.out.get hst.world k hlt
      have i0 : (0 : Int) ≤ (k : Int) := by omega
      have i1 : (k : Int) < (xs.length : Int) := by omega
      clear hok
      generalize xs[k] = X at *
      obtain ⟨d, t, s, j, u, p⟩ := X
      simp only at k0 k1 k2 k3 k4 k5
      have HDO := Lib.hid (does_any w qb mb [] rows ws bs d t s j u p wr HG.out hst (by omega))
      have HWL := Lib.hid hwl
      clear hst hwl
      go_wp2_with fail
      refine HDO.out.mono ?_
      rintro e w3 ⟨rfl, rows', ws', bs', hs3, ha3, hl3⟩
      have HS3 := Lib.hid hs3
      have HL3 := Lib.hid hl3
      clear hs3 hl3
      go_wp2
      go_roundw
      case rel => exact ⟨k + 1, rows', ws', bs', by omega, by go_num, HS3.out, by omega, HL3.out.trans HWL.out⟩
      case measure => simp [intOf]; omega
    · have HSQ := Lib.hid hst.queue
      have HWL := Lib.hid hwl
      clear hst hwl
      go_wp2_with fail
      go_loopw [10] (fun iv wr => LoopE w qb m k iv wr) (fun iv _ => 6 - (intOf iv).toNat)
      case atStart => exact ⟨0, rows, ws, bs, Nat.zero_le _, rfl, HSQ.out, hal, HWL.out, fun i hi => by omega⟩
      case round =>
        obtain ⟨wq, rfl⟩ : ∃ wq : World, wq = wr := ⟨_, rfl⟩
        clear HSQ HWL hal
        obtain ⟨q, rows, ws, bs, hq6, rfl, hst, hal, hwl, hcalm⟩ := hrel
        by_cases hlt2 : q < 6
        · have HST := Lib.hid hst
          have HC := Lib.hid (end_calm ws bs hst.inv.len q hcalm)
          have hle := allR_end_le hst.inv (q : Int)
          have HWL := Lib.hid hwl
          clear hst hcalm hwl
          go_wp2_with fail
          refine (end_st HST.out (by omega) (q : Int)).mono ?_
          rintro e w3 ⟨v3, rfl, _, hs3⟩
          have HS3 := Lib.hid hs3
          generalize endR rows ws bs (q : Int) = rows3 at *
          generalize hbs : endB ws bs (q : Int) = bs3 at *
          clear hs3 hbs
          go_wp2
          go_roundw
          case rel => exact ⟨q + 1, rows3, ws, bs3, by omega, by go_num, HS3.out, by omega, HWL.out, HC.out⟩
          case measure => simp [intOf]; omega
        · have hcc : Calm bs := fun i hb => by
            have hlt := (List.getElem?_eq_some_iff.1 hb).1
            have := hst.inv.len
            exact hcalm i (by omega) hb
          have HST := Lib.hid hst
          have HCC := Lib.hid hcc
          have HWL := Lib.hid hwl
          have hge6 : (6 : Int) ≤ (q : Int) := by omega
          clear hst hcc hcalm hwl
          go_wp2_with fail
          refine (all_st HST.out (by omega)).mono ?_
          rintro e w4 ⟨rfl, hs4⟩
          have HS4 := Lib.hid hs4
          obtain ⟨n0, hn0⟩ : ∃ n0, n0 = allR rows := ⟨_, rfl⟩
          rw [← hn0]
          have HN := Lib.hid hn0
          have hn0l : n0 ≤ 4398046511104 := by omega
          clear hs4 hn0 HST
          go_wp2_with fail
          go_loopw [12] (fun iv wr => LoopR w qb m n0 iv wr) (fun iv _ => n0 - (intOf iv).toNat)
          case atStart => exact ⟨0, rows, ws, bs, Nat.zero_le _, rfl, HS4.out, by rw [HN.out]; rfl, HWL.out, HCC.out⟩
          case round =>
            obtain ⟨wz, rfl⟩ : ∃ wz : World, wz = wr := ⟨_, rfl⟩
            clear HN HS4 HWL HCC hal
            obtain ⟨i, rows, ws, bs, hi, rfl, hst, hall, hwl, hcalm⟩ := hrel
            have HST := Lib.hid hst
            have HCALM := Lib.hid hcalm
            have hal : allR rows ≤ 4398046511104 := by omega
            have hm1' : 1 ≤ ws.length := by omega
            by_cases hlt3 : i < n0
            · have hpos : 0 < allR rows := by omega
              by_cases hpk : i < ys.length
              · obtain ⟨pb, po, e5, pv⟩ : ∃ b o, a2 = some ⟨b, o, none⟩ ∧ wz.cell? ⟨b, o + i, none⟩ = some (IV ys[i]) := by
                  obtain ⟨b, o, e, _, h⟩ := one_get (HY.out.below hst.world) i hpk
                  exact ⟨b, o, e, h⟩
                have e5' := e5
                cases e5'
                obtain ⟨pk, hpke⟩ : ∃ pk, pk = ys[i] := ⟨_, rfl⟩
                rw [← hpke] at pv
                unfold IV at pv
                have p0 : (0 : Int) ≤ (i : Int) := by omega
                have p1 : (i : Int) < (ys.length : Int) := by omega
                clear hst hcalm e5 hpke
                have HBG := Lib.hid (begin_st HST.out hal 0 pk)
                go_wp2_with fail
                refine HBG.out.mono ?_
                rintro e w5 ⟨v5, rfl, hv5, hs5⟩
                obtain ⟨r1, r2, r3, r4⟩ := round_ok HST.out.inv HCALM.out hal hm1' hpos pk
                rw [r1] at hv5
                obtain rfl : v5 = .nilIface := hv5
                have hle5 : allR (beginR rows ws bs 0 pk) ≤ 4398046511104 := by rw [allR_begin]; exact hal
                have hwl5 : (beginW rows ws bs 0 pk).length = m := (len_begin 0 pk).trans hwl
                generalize hjob : beginJ rows ws bs 0 pk = job at *
                generalize beginR rows ws bs 0 pk = rows5 at *
                generalize beginW rows ws bs 0 pk = ws5 at *
                generalize beginB rows ws bs 0 = bs5 at *
                have HS5 := Lib.hid hs5
                have HR2 := Lib.hid r2
                have HR3 := Lib.hid r3
                have HR4 := Lib.hid r4
                have HW5 := Lib.hid hwl5
                clear hs5 r1 r2 r3 r4 hjob hwl5
                go_wp2_with fail
                refine (end_st HS5.out hle5 0).mono ?_
                rintro e w6 ⟨v6, rfl, hv6, hs6⟩
                rw [HR2.out] at hv6
                obtain rfl : v6 = .nilIface := hv6
                generalize endK ws5 bs5 0 = K at *
                generalize endJ rows5 ws5 bs5 0 = J at *
                generalize hr6 : endR rows5 ws5 bs5 0 = rows6 at *
                generalize hb6 : endB ws5 bs5 0 = bs6 at *
                have hr4' := HR4.out
                have HC6 := Lib.hid (show Calm bs6 from HR3.out)
                have hr4 : allR rows6 + 1 = allR rows := hr4'
                have HS6 := Lib.hid (hs6.below ((Below.refl _ _).alloc (Nat.le_refl _) (.cells #[.int .i64 K.1, .int .i64 K.2] 29)))
                have hal6 : allR rows6 ≤ 4398046511104 := by omega
                clear hs6 hr6 hb6 hr4'
                go_wp2_with fail
                refine (all_st HS6.out hal6).mono ?_
                rintro e w7 ⟨rfl, hs7⟩
                have HS7 := Lib.hid hs7
                have hA6 : (allR rows6 : Int) = (n0 : Int) - (i : Int) - 1 := by omega
                rw [hA6]
                clear hs7
                go_wp2
                go_roundw
                case rel => exact ⟨i + 1, rows6, ws5, bs6, by omega, by go_num, HS7.out, by omega, HW5.out, HC6.out⟩
                case measure => simp [intOf]; omega
              · have hpk2 : ¬ (i : Int) < (ys.length : Int) := by omega
                clear hst hcalm
                have HBG := Lib.hid (begin_st HST.out hal 0 (i : Int))
                go_wp2_with fail
                refine HBG.out.mono ?_
                rintro e w5 ⟨v5, rfl, hv5, hs5⟩
                obtain ⟨r1, r2, r3, r4⟩ := round_ok HST.out.inv HCALM.out hal hm1' hpos (i : Int)
                rw [r1] at hv5
                obtain rfl : v5 = .nilIface := hv5
                have hle5 : allR (beginR rows ws bs 0 (i : Int)) ≤ 4398046511104 := by rw [allR_begin]; exact hal
                have hwl5 : (beginW rows ws bs 0 (i : Int)).length = m := (len_begin 0 (i : Int)).trans hwl
                generalize hjob : beginJ rows ws bs 0 (i : Int) = job at *
                generalize beginR rows ws bs 0 (i : Int) = rows5 at *
                generalize beginW rows ws bs 0 (i : Int) = ws5 at *
                generalize beginB rows ws bs 0 = bs5 at *
                have HS5 := Lib.hid hs5
                have HR2 := Lib.hid r2
                have HR3 := Lib.hid r3
                have HR4 := Lib.hid r4
                have HW5 := Lib.hid hwl5
                clear hs5 r1 r2 r3 r4 hjob hwl5
                go_wp2_with fail
                refine (end_st HS5.out hle5 0).mono ?_
                rintro e w6 ⟨v6, rfl, hv6, hs6⟩
                rw [HR2.out] at hv6
                obtain rfl : v6 = .nilIface := hv6
                generalize endK ws5 bs5 0 = K at *
                generalize endJ rows5 ws5 bs5 0 = J at *
                generalize hr6 : endR rows5 ws5 bs5 0 = rows6 at *
                generalize hb6 : endB ws5 bs5 0 = bs6 at *
                have hr4' := HR4.out
                have HC6 := Lib.hid (show Calm bs6 from HR3.out)
                have hr4 : allR rows6 + 1 = allR rows := hr4'
                have HS6 := Lib.hid (hs6.below ((Below.refl _ _).alloc (Nat.le_refl _) (.cells #[.int .i64 K.1, .int .i64 K.2] 29)))
                have hal6 : allR rows6 ≤ 4398046511104 := by omega
                clear hs6 hr6 hb6 hr4'
                go_wp2_with fail
                refine (all_st HS6.out hal6).mono ?_
                rintro e w7 ⟨rfl, hs7⟩
                have HS7 := Lib.hid hs7
                have hA6 : (allR rows6 : Int) = (n0 : Int) - (i : Int) - 1 := by omega
                rw [hA6]
                clear hs7
                go_wp2
                go_roundw
                case rel => exact ⟨i + 1, rows6, ws5, bs6, by omega, by go_num, HS7.out, by omega, HW5.out, HC6.out⟩
                case measure => simp [intOf]; omega
            · have hr0 : rows = [] := by
                have h0 : allR rows = 0 := by omega
                have := len_le_all hst.inv.jobs
                exact List.eq_nil_of_length_eq_zero (by omega)
              subst hr0
              have hbo : beginO [] ws bs 0 = .idle := by
                unfold beginO
                rw [if_neg (by omega), if_neg (by rw [calm_busy hcalm]; simp), if_pos (show readyS [] = [] from rfl)]
              have HBO := Lib.hid hbo
              have hge : ¬ (i : Int) < (n0 : Int) := by omega
              clear hst hcalm hbo
              go_wp2_with fail
              refine (begin_st HST.out (by decide) 0 0).mono ?_
              rintro e w5 ⟨v5, rfl, hv5, hs5⟩
              have hj : beginJ [] ws bs 0 0 = 0 := by unfold beginJ; rw [HBO.out]; rfl
              have hr : beginR [] ws bs 0 0 = [] := by unfold beginR; rw [HBO.out]; rfl
              rw [hr] at hs5
              rw [hj]
              rw [HBO.out] at hv5
              obtain ⟨pb, rfl, hf5, _⟩ := hv5
              have HS5 := Lib.hid hs5
              have HI := Lib.hid hf5
              clear hs5 hf5 hj hr
              unfold eF
              go_wp2_with fail
              refine (all_q_st HS5.out (by decide)).mono ?_
              rintro e w6 ⟨rfl, hb6, hs6⟩
              have HS6 := Lib.hid hs6
              have HI6 := Lib.hid (HI.out.below hb6 HI.out.lt)
              rw [show allR [] = 0 from rfl]
              clear hs6 hb6
              go_wp2_with fail
              refine (ready_st HS6.out (by decide)).mono ?_
              rintro e w7 ⟨⟨ra, rc, rfl, _, hb7⟩, hs7⟩
              have HS7 := Lib.hid hs7
              have HI7 := Lib.hid (HI6.out.below hb7 HI6.out.lt)
              rw [show (readyS []).length = 0 from rfl]
              clear hs7 hb7
              go_wp2_with fail
              refine (isFE_same pb 301 301 w7 rfl HI7.out.2.2).mono ?_
              rintro e w8 ⟨rfl, rfl⟩
              go_wp2
              go_ret
              exact ⟨rfl, HS7.out.world⟩
theorem queueEnds_any (n : Int) (v1 : Value) (xs : List Ac) (v2 : Value) (ys : List Int) (w : World) (hg : Hg w) (h0 : 0 ≤ n) (h1 : n ≤ 255) (hx : Acts w v1 xs) (hy : Sl w 1 v2 ys.length (ys.map IV)) (hsz : xs.length * 48 ≤ 140737488351232) : Calls Tryd.prog 6 #[.int .u8 n, v1, v2] w (Yes w) := by
  obtain ⟨a1, c1, rfl, _⟩ := Sl.len hx.1
  obtain ⟨a2, c2, rfl, _⟩ := Sl.len hy
  exact queueEnds_slices n a1 a2 c1 c2 xs ys w hg h0 h1 hx hy hsz
end Go.Proofs.YtkbopcgijaejjaaDoor
