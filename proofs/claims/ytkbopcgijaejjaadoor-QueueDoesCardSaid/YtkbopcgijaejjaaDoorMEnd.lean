/-
  end of actuarylaw30's model by contract; the conditions: the model's cells, what errors.errorType holds, and how many rows there are.
  Printed by a program of this repository (wip/qu19.py).
-/
import Derived.Test.YtkbopcgijaejjaaDoorMDrop
import Derived.Test.YtkbopcgijaejjaaDoorMBegin
namespace Go.Proofs.YtkbopcgijaejjaaDoor
open Go.RowKit Go.Extern.Stop Go.Stop Go.Extern
set_option maxRecDepth 100000 in
set_option maxHeartbeats 4000000 in
theorem mend_arg (mb : Nat) (G : Nat → Prop) (RS : List (Rw × Value)) (ws : List (Int × Int)) (bs : List Bool) (n : Int) (w : World) (hg : Hg w) (h : MS w mb G RS ws bs) (hw : n < 0 ∨ bs.length ≤ n) :
    Calls Tryd.prog 31 #[.pointer (some ⟨mb, 0, none⟩), .int .i64 n, .agg #[.int .i64 0, .int .i64 0], .int .i64 0, eE 1] w (fun e w' => e = .returned (.bool true) ∧ ∃ RX, rowsOf RX = rowsOf RS ∧ MA w mb G RX ws bs w') := by
  unfold eE
  have HM0 := Lib.hid h
  have HB0 := Lib.hid (show Below w.heap.size w (w.alloc (.cells #[.int .i64 0, .int .i64 0] 29)) from (Below.refl _ _).alloc (Nat.le_refl _) _)
  have HG := Lib.hid (hg.alloc (.cells #[.int .i64 0, .int .i64 0] 29))
  obtain ⟨ka, ja, ta, ha, ba, kc, jc, tc, hc, bc, r⟩ := (h.below HB0.out).read
  have c4 := r.c4
  have hlb := r.busy.lenI.1
  clear h hg r
  by_cases h0 : n < 0
  · clear hw
    go_enter Tryd.func31, Tryd.ntmps31
    go_wp2_with fail
    refine (told_E 1 1 0 ⟨#[]⟩ _ HG.out rfl (by rw [ByteArray.toList_eq])).mono ?_
    rintro e w3 ⟨rfl, hb3⟩
    have HB3 := Lib.hid (HB0.out.trans (hb3.mono HB0.out.size))
    clear hb3
    go_wp2
    go_ret
    exact ⟨rfl, RS, rfl, MA.of_below HM0.out HB3.out⟩
  · have h1 : (bs.length : Int) ≤ n := by omega
    clear hw
    go_enter Tryd.func31, Tryd.ntmps31
    go_wp2_with fail
    refine (told_E 1 1 0 ⟨#[]⟩ _ HG.out rfl (by rw [ByteArray.toList_eq])).mono ?_
    rintro e w3 ⟨rfl, hb3⟩
    have HB3 := Lib.hid (HB0.out.trans (hb3.mono HB0.out.size))
    clear hb3
    go_wp2
    go_ret
    exact ⟨rfl, RS, rfl, MA.of_below HM0.out HB3.out⟩

set_option maxRecDepth 100000 in
set_option maxHeartbeats 4000000 in
theorem mend_idle (mb : Nat) (G : Nat → Prop) (RS : List (Rw × Value)) (ws : List (Int × Int)) (bs : List Bool) (n : Int) (w : World) (hg : Hg w) (h : MS w mb G RS ws bs) (hl : ws.length = bs.length) (h0 : 0 ≤ n) (h1 : n < bs.length) (hz : busyB bs n = false) (pb : Nat) (hf : IsF w pb sWorker n 301) :
    Calls Tryd.prog 31 #[.pointer (some ⟨mb, 0, none⟩), .int .i64 n, .agg #[.int .i64 0, .int .i64 0], .int .i64 0, eF pb] w (fun e w' => e = .returned (.bool true) ∧ ∃ RX, rowsOf RX = rowsOf RS ∧ MA w mb G RX ws bs w') := by
  unfold eF
  have HM0 := Lib.hid h
  have HB0 := Lib.hid (show Below w.heap.size w (w.alloc (.cells #[.int .i64 0, .int .i64 0] 29)) from (Below.refl _ _).alloc (Nat.le_refl _) _)
  have HG := Lib.hid (hg.alloc (.cells #[.int .i64 0, .int .i64 0] 29))
  obtain ⟨i, rfl⟩ := Int.eq_ofNat_of_zero_le h0
  have hi : i < bs.length := by omega
  have hwi : i < ws.length := by omega
  obtain ⟨hb, ho, hc, zb, zo, zc, W⟩ := (h.below HB0.out).worker i hwi hl
  have hzz : bs[i] = false := by
    have := busyB_get h0 h1
    rw [hz, Int.toNat_natCast, List.getElem?_eq_getElem hi] at this
    exact Option.some.inj this
  have c4 := W.c4
  have z0 := W.z hi
  rw [hzz] at z0
  have hln := W.len.2
  have HI := Lib.hid (hf.below HB0.out hf.lt)
  clear h hg W hz hzz hf
  go_enter Tryd.func31, Tryd.ntmps31
  go_wp2_with fail
  refine (told_F pb 301 301 i i sWorker sWorker _ HG.out HI.out rfl rfl rfl (by rw [ByteArray.toList_eq]; decide)).mono ?_
  rintro e w3 ⟨rfl, hb3⟩
  have HB3 := Lib.hid (HB0.out.trans (hb3.mono HB0.out.size))
  clear hb3
  go_wp2
  go_ret
  exact ⟨rfl, RS, rfl, MA.of_below HM0.out HB3.out⟩


/-- What is left of a row that has had its first job done. -/
def endRow (rows : List Rw) (I : Nat) (t s : Int) (qr : List Int) : List Rw := if qr = [] then rows.eraseIdx I else rows.set I ⟨t, s, qr, false⟩
theorem row_erase (RS : List (Rw × Value)) (I : Nat) : rowsOf (RS.eraseIdx I) = (rowsOf RS).eraseIdx I := by
  unfold rowsOf
  rw [List.eraseIdx_eq_take_drop_succ, List.eraseIdx_eq_take_drop_succ, List.map_append, List.map_take, List.map_drop]
set_option maxRecDepth 100000 in
set_option maxHeartbeats 8000000 in
theorem mend_ok (mb : Nat) (G : Nat → Prop) (RS : List (Rw × Value)) (ws : List (Int × Int)) (bs : List Bool) (n : Int) (t s q0 : Int) (qr : List Int) (I : Nat) (w : World) (h : MS w mb G RS ws bs) (hn : RS.length ≤ 4398046511104) (hl : ws.length = bs.length) (h0 : 0 ≤ n) (h1 : n < bs.length) (hz : busyB bs n = true) (hk : ws[n.toNat]? = some (t, s)) (hI : I < RS.length) (hat : atR RS t s = I) (hq : RS[I].1.jobs = q0 :: qr) :
    Calls Tryd.prog 31 #[.pointer (some ⟨mb, 0, none⟩), .int .i64 n, .agg #[.int .i64 t, .int .i64 s], .int .i64 q0, .nilIface] w (fun e w' => e = .returned (.bool true) ∧ ∃ RX, rowsOf RX = endRow (rowsOf RS) I RS[I].1.t RS[I].1.s qr ∧ MA w mb G RX ws (bs.set n.toNat false) w') := by
  have HB0 := Lib.hid (show Below w.heap.size w (w.alloc (.cells #[.int .i64 t, .int .i64 s] 29)) from (Below.refl _ _).alloc (Nat.le_refl _) _)
  have HNG := Lib.hid (show ¬ G w.heap.size from fun h' => by have := h.lt _ h'; omega)
  obtain ⟨i, rfl⟩ := Int.eq_ofNat_of_zero_le h0
  have hi : i < bs.length := by omega
  have hwi : i < ws.length := by omega
  rw [Int.toNat_natCast] at hk ⊢
  have hws : ws[i] = (t, s) := by rw [List.getElem?_eq_getElem hwi] at hk; exact Option.some.inj hk
  have hzz : bs[i] = true := by
    have := busyB_get h0 h1
    rw [hz, Int.toNat_natCast, List.getElem?_eq_getElem hi] at this
    exact Option.some.inj this
  have HM0 := Lib.hid (h.below HB0.out)
  obtain ⟨hb, ho, hc, zb, zo, zc, W⟩ := HM0.out.worker i hwi hl
  have c3 := W.c3
  have h30 := W.h0 hwi
  have h31 := W.h1 hwi
  rw [hws] at h30 h31
  have c4 := W.c4
  have z0 := W.z hi
  rw [hzz] at z0
  have hln := W.len
  have i0 : (0 : Int) ≤ (i : Int) := by omega
  have i1 : (i : Int) < (bs.length : Int) := by omega
  have i3 : (i : Int) < (ws.length : Int) := by omega
  have HA := Lib.hid (mat_any mb G RS ws bs t s _ HM0.out)
  have HVA := Lib.hid (show atV RS t s = (I : Int) by unfold atV; rw [hat, if_pos hI])
  have HQ := Lib.hid hq
  have j0 : (0 : Int) ≤ (I : Int) := by omega
  have j1 : (I : Int) < (RS.length : Int) := by omega
  clear h hz hzz hk W hat hq
  go_enter Tryd.func31, Tryd.ntmps31
  go_wp2_with fail
  refine HA.out.mono ?_
  rintro e w1 ⟨rfl, hb1⟩
  rw [HVA.out]
  have HB1 := Lib.hid hb1
  have hm1 := HM0.out.below hb1
  obtain ⟨kb, ko, kc, jb, jo, jc, tb, to_, tc, R⟩ := hm1.row I hI
  have c1 := R.c1
  have x1 := R.j hI
  have hjm := R.jobs hI
  rw [HQ.out] at hjm
  simp only [List.length_cons] at hjm
  obtain ⟨vb, vo, vc, hv, _, _, _, hvc⟩ := (Sl.ofMid hjm).plain (by omega)
  have v0 := hvc 0 (.int .i64 q0) rfl
  rw [Nat.add_zero] at v0
  rw [hv] at x1
  have hlr := R.len
  have v1 : (0 : Int) < ((qr.length + 1 : Nat) : Int) := by omega
  obtain ⟨hb, ho, hc, zb, zo, zc, W⟩ := hm1.worker i hwi hl
  have d4 := W.c4
  have z1 := W.z hi
  have fz := W.fz
  have HM1 := Lib.hid hm1
  have HMAP := Lib.hid (show ∀ R' w' W' B', MA w1 mb G R' W' B' w' → MA (w.alloc (.cells #[.int .i64 t, .int .i64 s] 29)) mb G R' W' B' w' from fun R' w' W' B' h => MA.pre hb1 h)
  have HW1 := Lib.hid W
  clear R hjm hvc hv hb1 hm1 W c3 h30 h31 c4 z0
  go_upto_region 7 with fail
  go_cut [] (fun wx => MA (w.alloc (.cells #[.int .i64 t, .int .i64 s] 29)) mb G RS ws (bs.set i false) wx)
  case first =>
    go_wp2_with fail
    go_meet
    exact HMAP.out _ _ _ _ (HM1.out.bz i false HW1.out.c4)
  case rest =>
    obtain ⟨w5, rfl⟩ : ∃ w5 : World, w5 = wc := ⟨_, rfl⟩
    clear c1 x1 v0 hlr v1 d4 z1 fz
    obtain ⟨G1, hm5, hG1, hk5⟩ := hcut
    have HMAP5 := Lib.hid (show ∀ R' w' W' B', MA w5 mb G1 R' W' B' w' → MA (w.alloc (.cells #[.int .i64 t, .int .i64 s] 29)) mb G R' W' B' w' from fun R' w' W' B' h => MA.step hG1 hk5 h)
    obtain ⟨kb, ko, kc, jb, jo, jc, tb, to_, tc, R⟩ := hm5.row I hI
    have c2 := R.c2
    have t0 := R.t hI
    have ft := R.ft
    have hlr := R.len
    have HM5 := Lib.hid hm5
    have HR5 := Lib.hid R
    clear R hm5 hG1 hk5
    go_upto_region 8 with fail
    go_cut [] (fun wx => MA (w.alloc (.cells #[.int .i64 t, .int .i64 s] 29)) mb G (RS.set I (⟨RS[I].1.t, RS[I].1.s, RS[I].1.jobs, false⟩, RS[I].2)) ws (bs.set i false) wx)
    case first =>
      go_wp2_with fail
      go_meet
      exact HMAP5.out _ _ _ _ (HM5.out.taken I hI false HR5.out.c2)
    case rest =>
      obtain ⟨w6, rfl⟩ : ∃ w6 : World, w6 = wc := ⟨_, rfl⟩
      clear c2 t0 ft hlr
      obtain ⟨RX, hRX⟩ : ∃ RX, RX = RS.set I (⟨RS[I].1.t, RS[I].1.s, RS[I].1.jobs, false⟩, RS[I].2) := ⟨_, rfl⟩
      have hXl : RX.length = RS.length := by rw [hRX, List.length_set]
      have hXI : I < RX.length := by omega
      have hXe : RX[I] = (⟨RS[I].1.t, RS[I].1.s, RS[I].1.jobs, false⟩, RS[I].2) := by subst hRX; simp
      rw [← hRX] at hcut
      obtain ⟨G2, hm6, hG2, hk6⟩ := hcut
      have HMAP6 := Lib.hid (show ∀ R' w' W' B', MA w6 mb G2 R' W' B' w' → MA (w.alloc (.cells #[.int .i64 t, .int .i64 s] 29)) mb G R' W' B' w' from fun R' w' W' B' h => MA.step hG2 hk6 h)
      have HRX := Lib.hid hRX
      have HXE := Lib.hid hXe
      have HXL := Lib.hid hXl
      obtain ⟨ka, ja, ta, ha, ba, kc, jc, tc, hc, bc, hbox⟩ := hm6
      have r := hbox.mr
      have c1 := r.c1
      have hlr := r.keys.lenI.1
      obtain ⟨jb, jo, rfl, hjlt, k2⟩ := one_get r.heads I hXI
      have hjfz : w6.frozen? ⟨jb, jo + I, none⟩ = false := (show Mid w6 0 50 1 (.slice (some ⟨jb, jo, none⟩) RX.length jc) RX.length (RX.map fun p => p.2) from hbox.mid 1 rfl).frozen (jo + I)
      have hjm : Mid w6 0 3 1 RX[I].2 RX[I].1.jobs.length (RX[I].1.jobs.map IV) := hbox.mid (I + 5) (p := jp RX[I]) (by simp [mPs, List.getElem?_eq_getElem hXI])
      have hXj : RX[I].1.jobs = q0 :: qr := by rw [hXe]; exact HQ.out
      rw [hXj] at hjm
      simp only [List.length_cons] at hjm
      obtain ⟨vb, vo, vc, hv, hvn, hvm, _, _⟩ := (Sl.ofMid hjm).plain (by omega)
      rw [hv] at k2 hjm
      obtain ⟨B, hB, hBm, hBo⟩ : ∃ B : Addr, (if vc = 1 then (some ⟨vb, vo, none⟩ : Option Addr) else some ⟨vb, vo + 1, none⟩) = some B ∧ Mid w6 0 3 1 (.slice (some B) qr.length (vc - 1)) qr.length (qr.map IV) ∧ B.block = vb := by
        by_cases hcc : vc = 1
        · have h0 : qr = [] := List.eq_nil_of_length_eq_zero (by omega)
          subst h0
          refine ⟨⟨vb, vo, none⟩, by simp [hcc], ?_, rfl⟩
          rw [hcc]
          exact hjm.empty
        · refine ⟨⟨vb, vo + 1, none⟩, by simp [hcc], ?_, rfl⟩
          have := hjm.drop 1 (by omega)
          simpa using this
      have HBX := Lib.hid hbox
      have HBM := Lib.hid hBm
      have HBO := Lib.hid hBo
      have HV := Lib.hid hv
      have j2 : (I : Int) < (RX.length : Int) := by omega
      have i4 : (1 : Int) ≤ ((qr.length + 1 : Nat) : Int) := by omega
      have i5 : (1 : Int) ≤ (qr.length : Int) + 1 := by omega
      unfold maxLen at hvm
      clear hbox r hjm hXj hv hBm hBo hG2 hk6 hXl hXe hRX
      go_upto_region 9 with fail
      go_cut [] (fun wx => MA (w.alloc (.cells #[.int .i64 t, .int .i64 s] 29)) mb G (RX.set I (⟨RX[I].1.t, RX[I].1.s, qr, RX[I].1.busy⟩, .slice (some B) qr.length (vc - 1))) ws (bs.set i false) wx)
      case first =>
        go_region
        all_goals
          go_wp2_with fail
          go_meet
          obtain ⟨G3, g1, g2, g3⟩ := HMAP6.out _ _ _ _ (mjobs_world I hXI qr (.slice (some B) qr.length (vc - 1)) HBX.out (Keeps.refl _ _) HBM.out (fun k hk => .inl (by rw [HV.out]; simp only [Value.ownBlock, Option.some.injEq] at hk ⊢; rw [← hk]; exact HBO.out.symm)))
          exact ⟨G3, g1.below (Below.refl _ _).drew, g2, g3.trans (Keeps.drew _ (fun _ => False)) fun _ _ (h : False) => h.elim⟩
      case rest =>
        obtain ⟨w7, rfl⟩ : ∃ w7 : World, w7 = wc := ⟨_, rfl⟩
        obtain ⟨RY, hRY⟩ : ∃ RY, RY = RX.set I (⟨RX[I].1.t, RX[I].1.s, qr, RX[I].1.busy⟩, .slice (some B) qr.length (vc - 1)) := ⟨_, rfl⟩
        have hYl : RY.length = RX.length := by rw [hRY, List.length_set]
        have hYI : I < RY.length := by omega
        have hYe : RY[I].2 = .slice (some B) qr.length (vc - 1) := by subst hRY; simp
        have hrow : rowsOf RY = (rowsOf RS).set I ⟨RS[I].1.t, RS[I].1.s, qr, false⟩ := by
          rw [hRY, HXE.out, HRX.out]
          simp only [rowsOf, List.map_set, List.set_set]
        rw [← hRY] at hcut
        have HC := Lib.hid hcut
        obtain ⟨G3, hm7, hG3, hk7⟩ := hcut
        obtain ⟨kb, ko, kc, jb7, jo7, jc7, tb, to_, tc, R⟩ := hm7.row I hYI
        have e1 := R.c1
        have y1 := R.j hYI
        rw [hYe] at y1
        have hl7 := R.len
        have HR := Lib.hid hrow
        have HYL := Lib.hid (hYl.trans HXL.out)
        have HM7 := Lib.hid hm7
        have HMAP7 := Lib.hid (show ∀ R' w' W' B', MA w7 mb G3 R' W' B' w' → MA (w.alloc (.cells #[.int .i64 t, .int .i64 s] 29)) mb G R' W' B' w' from fun R' w' W' B' h => MA.step hG3 hk7 h)
        have j3 : (I : Int) < (RY.length : Int) := by omega
        clear c1 k2 hjfz hlr R hm7 hG3 hk7 hYl hYe hrow hRY hB
        by_cases hqr : qr = []
        · have hq0 : qr.length = 0 := by rw [hqr]; rfl
          rw [hq0] at y1
          have HROW := Lib.hid (show rowsOf (RY.eraseIdx I) = endRow (rowsOf RS) I RS[I].1.t RS[I].1.s qr by
            unfold endRow
            rw [if_pos hqr, row_erase, HR.out, List.eraseIdx_set_eq])
          have HD := Lib.hid (drop_any mb G3 RY ws (bs.set i false) I w7 HM7.out hYI (by rw [HYL.out]; exact hn))
          clear hqr hq0
          go_wp2_with fail
          refine HD.out.mono ?_
          rintro e w8 ⟨⟨v8, rfl⟩, hd⟩
          have hmm := HMAP7.out _ _ _ _ hd
          have HMM := Lib.hid hmm
          obtain ⟨G8, hm8, _, hk8⟩ := hmm
          have HM8 := Lib.hid hm8
          have HMK := Lib.hid hk8
          clear hd hm8 hk8 e1 y1
          have hk8 := HMK.out
          have x0 : w8.cell? ⟨w.heap.size, 0, none⟩ = some (.int .i64 t) := (hk8.cell (a := ⟨w.heap.size, 0, none⟩) (by simp) HNG.out).trans (by simp)
          have x1 : w8.cell? ⟨w.heap.size, 1, none⟩ = some (.int .i64 s) := (hk8.cell (a := ⟨w.heap.size, 1, none⟩) (by simp) HNG.out).trans (by simp)
          obtain ⟨hb, ho, hc, zb, zo, zc, W⟩ := HM8.out.worker i hwi (by rw [List.length_set]; exact hl)
          have c3 := W.c3
          have h30 := W.h0 hwi
          have h31 := W.h1 hwi
          rw [hws] at h30 h31
          have hlw := W.len.1
          have b1 : (t == t) = true := by simp
          have b2 : (s == s) = true := by simp
          have b3 : (q0 == q0) = true := by simp
          have i2 : (i : Int) < (ws.length : Int) := by omega
          clear W hk8
          go_wp2_with fail
          go_quiet (fail)
          go_wp2
          go_ret
          exact ⟨rfl, _, HROW.out, MA.pre HB0.out (HMM.out.elim fun G9 hm => ⟨G9, hm.1.below (Below.dr (Below.refl _ _)), hm.2.1, hm.2.2.trans (Keeps.drewN _ _ (fun _ => False)) fun _ _ (h : False) => h.elim⟩)⟩
        · have hq0 : ((qr.length : Int) == 0) = false := beq_eq_false_iff_ne.2 (fun h => hqr (List.eq_nil_of_length_eq_zero (by omega)))
          have hq1 : (qr.length : Int) ≠ 0 := fun h => hqr (List.eq_nil_of_length_eq_zero (by omega))
          have hq2 : qr.length ≠ 0 := fun h => hqr (List.eq_nil_of_length_eq_zero h)
          have HROW := Lib.hid (show rowsOf RY = endRow (rowsOf RS) I RS[I].1.t RS[I].1.s qr by
            unfold endRow
            rw [if_neg hqr, HR.out])
          obtain ⟨w8, rfl⟩ : ∃ w8 : World, w8 = w7 := ⟨_, rfl⟩
          have HMM := HC
          obtain ⟨G8, hm8, _, hk8⟩ := HMM.out
          have HM8 := Lib.hid hm8
          have HMK := Lib.hid hk8
          clear hm8 hk8 hqr
          have hk8 := HMK.out
          have x0 : w8.cell? ⟨w.heap.size, 0, none⟩ = some (.int .i64 t) := (hk8.cell (a := ⟨w.heap.size, 0, none⟩) (by simp) HNG.out).trans (by simp)
          have x1 : w8.cell? ⟨w.heap.size, 1, none⟩ = some (.int .i64 s) := (hk8.cell (a := ⟨w.heap.size, 1, none⟩) (by simp) HNG.out).trans (by simp)
          obtain ⟨hb, ho, hc, zb, zo, zc, W⟩ := HM8.out.worker i hwi (by rw [List.length_set]; exact hl)
          have c3 := W.c3
          have h30 := W.h0 hwi
          have h31 := W.h1 hwi
          rw [hws] at h30 h31
          have hlw := W.len.1
          have b1 : (t == t) = true := by simp
          have b2 : (s == s) = true := by simp
          have b3 : (q0 == q0) = true := by simp
          have i2 : (i : Int) < (ws.length : Int) := by omega
          clear W hk8
          go_wp2_with fail
          go_quiet (fail)
          go_wp2
          go_ret
          exact ⟨rfl, _, HROW.out, MA.pre HB0.out (HMM.out.elim fun G9 hm => ⟨G9, hm.1.below (Below.dr (Below.refl _ _)), hm.2.1, hm.2.2.trans (Keeps.drewN _ _ (fun _ => False)) fun _ _ (h : False) => h.elim⟩)⟩

end Go.Proofs.YtkbopcgijaejjaaDoor
