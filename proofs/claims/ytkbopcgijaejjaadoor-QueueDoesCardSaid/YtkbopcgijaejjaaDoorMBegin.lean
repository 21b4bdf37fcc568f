/-
  begin of actuarylaw30's model by contract; the conditions: the model's cells, what errors.errorType holds, and how many rows there are.
  Printed by a program of this repository (wip/qu18.py).
-/
import Derived.Test.YtkbopcgijaejjaaDoorMUpd
import Derived.Test.YtkbopcgijaejjaaDoorAwake
namespace Go.Proofs.YtkbopcgijaejjaaDoor
open Go.RowKit Go.Extern.Stop Go.Stop Go.Extern
set_option maxRecDepth 100000 in
set_option maxHeartbeats 4000000 in
theorem mbegin_arg (mb : Nat) (G : Nat → Prop) (RS : List (Rw × Value)) (ws : List (Int × Int)) (bs : List Bool) (n p : Int) (w : World) (hg : Hg w) (h : MS w mb G RS ws bs) (hw : n < 0 ∨ bs.length ≤ n) :
    Calls Tryd.prog 30 #[.pointer (some ⟨mb, 0, none⟩), .int .i64 n, .int .i64 p, .int .i64 0, eE 1] w (fun e w' => e = .returned (.bool true) ∧ ∃ RX, rowsOf RX = rowsOf RS ∧ MA w mb G RX ws bs w') := by
  unfold eE
  have HM := Lib.hid h
  have HG := Lib.hid hg
  obtain ⟨ka, ja, ta, ha, ba, kc, jc, tc, hc, bc, r⟩ := h.read
  have c4 := r.c4
  have hlb := r.busy.lenI.1
  clear h hg r
  by_cases h0 : n < 0
  · clear hw
    go_enter Tryd.func30, Tryd.ntmps30
    go_wp2_with fail
    refine (told_E 1 1 0 ⟨#[]⟩ _ HG.out rfl (by rw [ByteArray.toList_eq])).mono ?_
    rintro e w3 ⟨rfl, hb3⟩
    have HB3 := Lib.hid hb3
    clear hb3
    go_wp2
    go_ret
    exact ⟨rfl, RS, rfl, MA.of_below HM.out HB3.out⟩
  · have h1 : (bs.length : Int) ≤ n := by omega
    clear hw
    go_enter Tryd.func30, Tryd.ntmps30
    go_wp2_with fail
    refine (told_E 1 1 0 ⟨#[]⟩ _ HG.out rfl (by rw [ByteArray.toList_eq])).mono ?_
    rintro e w3 ⟨rfl, hb3⟩
    have HB3 := Lib.hid hb3
    clear hb3
    go_wp2
    go_ret
    exact ⟨rfl, RS, rfl, MA.of_below HM.out HB3.out⟩

set_option maxRecDepth 100000 in
set_option maxHeartbeats 4000000 in
theorem mbegin_busy (mb : Nat) (G : Nat → Prop) (RS : List (Rw × Value)) (ws : List (Int × Int)) (bs : List Bool) (n p : Int) (w : World) (hg : Hg w) (h : MS w mb G RS ws bs) (hn : RS.length ≤ 4398046511104) (hl : ws.length = bs.length) (h0 : 0 ≤ n) (h1 : n < bs.length) (hz : busyB bs n = true) (pb : Nat) (hf : IsF w pb sWorker n 302) :
    Calls Tryd.prog 30 #[.pointer (some ⟨mb, 0, none⟩), .int .i64 n, .int .i64 p, .int .i64 0, eF pb] w (fun e w' => e = .returned (.bool true) ∧ ∃ RX, rowsOf RX = rowsOf RS ∧ MA w mb G RX ws bs w') := by
  unfold eF
  have HM := Lib.hid h
  have HG := Lib.hid hg
  have HRD := Lib.hid (mready_any mb G RS ws bs w h hn)
  obtain ⟨rka, rja, rta, rha, rba, rkc, rjc, rtc, rhc, rbc, rr⟩ := h.read
  have d4 := rr.c4
  have hlbb := rr.busy.lenI.1
  clear rr
  obtain ⟨i, rfl⟩ := Int.eq_ofNat_of_zero_le h0
  have hi : i < bs.length := by omega
  have hwi : i < ws.length := by omega
  have i0 : (0 : Int) ≤ (i : Int) := by omega
  have i1 : (i : Int) < (bs.length : Int) := by omega
  have HZ := Lib.hid (show bs[i] = true by
    have := busyB_get h0 h1
    rw [hz, Int.toNat_natCast, List.getElem?_eq_getElem hi] at this
    exact Option.some.inj this)
  have HI := Lib.hid hf
  clear h hg hz hf
  go_enter Tryd.func30, Tryd.ntmps30
  go_wp2_with fail
  refine HRD.out.mono ?_
  rintro e w1 ⟨oa, oc, rfl, hmr, hb1⟩
  have HMR := Lib.hid hmr
  have HB1 := Lib.hid hb1
  have HM1 := Lib.hid (HM.out.below hb1)
  clear hmr hb1 d4 hlbb
  obtain ⟨hb, ho, hc, zb, zo, zc, W⟩ := HM1.out.worker i hwi hl
  have c4 := W.c4
  have z0 := W.z hi
  rw [HZ.out] at z0
  have hln := W.len.2
  clear W
  go_wp2_with fail
  refine (told_F pb 302 302 i i sWorker sWorker w1 (HG.out.below HB1.out HG.out.lt) (HI.out.below HB1.out HI.out.lt) rfl rfl rfl (by rw [ByteArray.toList_eq]; decide)).mono ?_
  rintro e w3 ⟨rfl, hb3⟩
  have HB3 := Lib.hid (HB1.out.trans (hb3.mono HB1.out.size))
  clear hb3
  go_wp2
  go_ret
  exact ⟨rfl, RS, rfl, MA.of_below HM.out HB3.out⟩
set_option maxRecDepth 100000 in
set_option maxHeartbeats 4000000 in
theorem mbegin_idle (mb : Nat) (G : Nat → Prop) (RS : List (Rw × Value)) (ws : List (Int × Int)) (bs : List Bool) (n p : Int) (w : World) (hg : Hg w) (h : MS w mb G RS ws bs) (hn : RS.length ≤ 4398046511104) (hl : ws.length = bs.length) (h0 : 0 ≤ n) (h1 : n < bs.length) (hz : busyB bs n = false) (hr : readyS (rowsOf RS) = []) (pb : Nat) (hf : IsF w pb sWorker n 301) :
    Calls Tryd.prog 30 #[.pointer (some ⟨mb, 0, none⟩), .int .i64 n, .int .i64 p, .int .i64 0, eF pb] w (fun e w' => e = .returned (.bool true) ∧ ∃ RX, rowsOf RX = rowsOf RS ∧ MA w mb G RX ws bs w') := by
  unfold eF
  have HM := Lib.hid h
  have HG := Lib.hid hg
  have HRD := Lib.hid (mready_any mb G RS ws bs w h hn)
  obtain ⟨rka, rja, rta, rha, rba, rkc, rjc, rtc, rhc, rbc, rr⟩ := h.read
  have d4 := rr.c4
  have hlbb := rr.busy.lenI.1
  clear rr
  obtain ⟨i, rfl⟩ := Int.eq_ofNat_of_zero_le h0
  have hi : i < bs.length := by omega
  have hwi : i < ws.length := by omega
  have i0 : (0 : Int) ≤ (i : Int) := by omega
  have i1 : (i : Int) < (bs.length : Int) := by omega
  have HZ := Lib.hid (show bs[i] = false by
    have := busyB_get h0 h1
    rw [hz, Int.toNat_natCast, List.getElem?_eq_getElem hi] at this
    exact Option.some.inj this)
  have hrl : (readyF 0 (rowsOf RS)).length = 0 := by rw [readyF_len, hr]; rfl
  rw [hrl] at HRD
  have HI := Lib.hid hf
  clear h hg hz hf hr hrl
  go_enter Tryd.func30, Tryd.ntmps30
  go_wp2_with fail
  refine HRD.out.mono ?_
  rintro e w1 ⟨oa, oc, rfl, hmr, hb1⟩
  have HMR := Lib.hid hmr
  have HB1 := Lib.hid hb1
  have HM1 := Lib.hid (HM.out.below hb1)
  clear hmr hb1 d4 hlbb
  obtain ⟨hb, ho, hc, zb, zo, zc, W⟩ := HM1.out.worker i hwi hl
  have c4 := W.c4
  have z0 := W.z hi
  rw [HZ.out] at z0
  have hln := W.len.2
  clear W
  go_wp2_with fail
  refine (told_F pb 301 301 i i sWorker sWorker w1 (HG.out.below HB1.out HG.out.lt) (HI.out.below HB1.out HI.out.lt) rfl rfl rfl (by rw [ByteArray.toList_eq]; decide)).mono ?_
  rintro e w3 ⟨rfl, hb3⟩
  have HB3 := Lib.hid (HB1.out.trans (hb3.mono HB1.out.size))
  clear hb3
  go_wp2
  go_ret
  exact ⟨rfl, RS, rfl, MA.of_below HM.out HB3.out⟩
set_option maxRecDepth 100000 in
set_option maxHeartbeats 8000000 in
theorem mbegin_ok (mb : Nat) (G : Nat → Prop) (RS : List (Rw × Value)) (ws : List (Int × Int)) (bs : List Bool) (n p : Int) (job : Int) (w : World) (h : MS w mb G RS ws bs) (hn : RS.length ≤ 4398046511104) (hinv : Inv (rowsOf RS) ws bs) (h0 : 0 ≤ n) (h1 : n < bs.length) (hz : busyB bs n = false) (hr : readyS (rowsOf RS) ≠ []) (hjob : job = headS (rowsOf RS) (pickS (rowsOf RS) p).1 (pickS (rowsOf RS) p).2) :
    Calls Tryd.prog 30 #[.pointer (some ⟨mb, 0, none⟩), .int .i64 n, .int .i64 p, .int .i64 job, .nilIface] w (fun e w' => e = .returned (.bool true) ∧ ∃ RX, rowsOf RX = markS (rowsOf RS) (pickS (rowsOf RS) p).1 (pickS (rowsOf RS) p).2 true ∧ MA w mb G RX (ws.set n.toNat (pickS (rowsOf RS) p)) (bs.set n.toNat true) w') := by
  have hl := hinv.len
  have HM := Lib.hid h
  have HRD := Lib.hid (mready_any mb G RS ws bs w h hn)
  obtain ⟨rka, rja, rta, rha, rba, rkc, rjc, rtc, rhc, rbc, rr⟩ := h.read
  have d4 := rr.c4
  have hlbb := rr.busy.lenI.1
  clear rr
  obtain ⟨i, rfl⟩ := Int.eq_ofNat_of_zero_le h0
  have hi : i < bs.length := by omega
  have hwi : i < ws.length := by omega
  have i0 : (0 : Int) ≤ (i : Int) := by omega
  have i1 : (i : Int) < (bs.length : Int) := by omega
  have HZ := Lib.hid (show bs[i] = false by
    have := busyB_get h0 h1
    rw [hz, Int.toNat_natCast, List.getElem?_eq_getElem hi] at this
    exact Option.some.inj this)
  have hrn : (rowsOf RS).length = RS.length := by unfold rowsOf; simp
  obtain ⟨hI, hIb, hIk, hlt, hg⟩ := pick_row hinv.keys (by rw [hrn]; exact hn) hr p
  have hFl : pickK p (readyS (rowsOf RS)).length < (readyF 0 (rowsOf RS)).length := by rw [readyF_len]; exact hlt
  obtain ⟨J, hJ⟩ : ∃ J, (readyF 0 (rowsOf RS))[pickK p (readyS (rowsOf RS)).length]? = some J := ⟨_, List.getElem?_eq_getElem hFl⟩
  obtain ⟨rJ, _, hJr, hJb, hJg⟩ := readyF_at 0 (rowsOf RS) _ J hJ
  have hJk : keyOf rJ = pickS (rowsOf RS) p := by rw [hg] at hJg; exact (Option.some.inj hJg).symm
  rw [Nat.sub_zero] at hJr
  obtain ⟨hJl, hJe⟩ := List.getElem?_eq_some_iff.1 hJr
  have hJI : J = atS (rowsOf RS) (pickS (rowsOf RS) p).1 (pickS (rowsOf RS) p).2 := key_inj hinv.keys hJl hI (by rw [hJe, hJk, hIk])
  have hJR : J < RS.length := by rw [← hrn]; exact hJl
  have hrJ : RS[J].1 = rJ := by
    have e : (rowsOf RS)[J]? = some RS[J].1 := by simp [rowsOf, List.getElem?_eq_getElem hJR]
    exact Option.some.inj (e.symm.trans hJr)
  have hmark : markS (rowsOf RS) (pickS (rowsOf RS) p).1 (pickS (rowsOf RS) p).2 true = rowsOf (RS.set J (⟨RS[J].1.t, RS[J].1.s, RS[J].1.jobs, true⟩, RS[J].2)) := by
    unfold markS
    rw [dif_pos hI]
    simp only [← hJI]
    simp only [rowsOf, List.map_set, List.getElem_map]
  have hhead : job = RS[J].1.jobs.headD 0 := by
    rw [hjob]
    unfold headS
    rw [dif_pos hI]
    simp only [← hJI]
    rw [hJe, hrJ]
  have hjne : RS[J].1.jobs ≠ [] := by rw [hrJ, ← hJe]; exact hinv.jobs _ (List.getElem_mem _)
  have hky : pickS (rowsOf RS) p = (RS[J].1.t, RS[J].1.s) := by rw [hrJ, ← hJk]; rfl
  have hpk := (pickK_lt p (readyF 0 (rowsOf RS)).length (by omega) (by rw [readyF_len]; have := readyS_len (rowsOf RS); omega)).2
  rw [readyF_len] at hpk
  rw [hmark, hky, Int.toNat_natCast]
  have HPK := Lib.hid (show wrap64 ((IntKind.u64.wrap p).tmod ((readyF 0 (rowsOf RS)).length : Int)) = (pickK p (readyS (rowsOf RS)).length : Int) by rw [readyF_len]; exact hpk)
  have HJ := Lib.hid hJ
  have HHD := Lib.hid hhead
  have hFn : (readyF 0 (rowsOf RS)).length ≤ 4398046511104 := by rw [readyF_len]; have := readyS_len (rowsOf RS); omega
  clear h hz hr hjob hinv hmark hhead hky hpk hJ hrJ hJr hJe hJI hJk hJg hJb hIb hIk hg hI hJl hlt hrn
  generalize pickK p (readyS (rowsOf RS)).length = k at *
  generalize readyF 0 (rowsOf RS) = L at *
  go_enter Tryd.func30, Tryd.ntmps30
  go_wp2_with fail
  refine HRD.out.mono ?_
  rintro e w1 ⟨oa, oc, rfl, hmr, hb1⟩
  have HMR := Lib.hid hmr
  have HB1 := Lib.hid hb1
  have HM1 := Lib.hid (HM.out.below hb1)
  clear hmr hb1 d4 hlbb
  obtain ⟨hb, ho, hc, zb, zo, zc, W⟩ := HM1.out.worker i hwi hl
  have c4 := W.c4
  have z0 := W.z hi
  rw [HZ.out] at z0
  have hln := W.len.2
  clear W
  have hL0 : ((L.length : Int) == 0) = false := beq_eq_false_iff_ne.2 (by omega)
  have hL1 : (L.length : Int) ≠ 0 := by omega
  obtain ⟨lb, lo, rfl, _, l0⟩ := one_get (Sl.ofMid HMR.out) k hFl
  have hLk : L[k] = J := by
    have := HJ.out
    rw [List.getElem?_eq_getElem hFl] at this
    exact Option.some.inj this
  rw [hLk] at l0
  unfold NV at l0
  have k0 : (0 : Int) ≤ (k : Int) := by omega
  have k1 : (k : Int) < (L.length : Int) := by omega
  have j0 : (0 : Int) ≤ (J : Int) := by omega
  have j1 : (J : Int) < (RS.length : Int) := by omega
  obtain ⟨kb, ko, kc, jb, jo, jc, tb, to_, tc, R⟩ := HM1.out.row J hJR
  have c2 := R.c2
  have t0 := R.t hJR
  have ft := R.ft
  have hlr := R.len
  have HMAP := Lib.hid (show ∀ R' w' W' B', MA w1 mb G R' W' B' w' → MA w mb G R' W' B' w' from fun R' w' W' B' h => MA.pre HB1.out h)
  have HR1 := Lib.hid R
  clear hLk R
  go_upto_region 9 with (rw [HPK.out])
  go_cut [] (fun wx => MA w mb G (RS.set J (⟨RS[J].1.t, RS[J].1.s, RS[J].1.jobs, true⟩, RS[J].2)) ws bs wx)
  case first =>
    go_wp2_with (rw [HPK.out])
    go_meet
    exact HMAP.out _ _ _ _ (HM1.out.taken J hJR true HR1.out.c2)
  case rest =>
    obtain ⟨w5, rfl⟩ : ∃ w5 : World, w5 = wc := ⟨_, rfl⟩
    clear c4 z0 c2 t0 ft hlr l0 k0 k1
    obtain ⟨RX, hRX⟩ : ∃ RX, RX = RS.set J (⟨RS[J].1.t, RS[J].1.s, RS[J].1.jobs, true⟩, RS[J].2) := ⟨_, rfl⟩
    have hXl : RX.length = RS.length := by rw [hRX, List.length_set]
    have hXJ : J < RX.length := by omega
    have hXe : RX[J] = (⟨RS[J].1.t, RS[J].1.s, RS[J].1.jobs, true⟩, RS[J].2) := by subst hRX; simp
    rw [← hRX] at hcut
    have HRXE := Lib.hid hRX
    obtain ⟨G1, hm5, hG1, hk5⟩ := hcut
    have HMAP5 := Lib.hid (show ∀ R' w' W' B', MA w5 mb G1 R' W' B' w' → MA w mb G R' W' B' w' from fun R' w' W' B' h => MA.step hG1 hk5 h)
    obtain ⟨hb, ho, hc, zb, zo, zc, W⟩ := hm5.worker i hwi hl
    have c4 := W.c4
    have z0 := W.z hi
    have fz := W.fz
    have hln := W.len.2
    have HM5 := Lib.hid hm5
    have HW5 := Lib.hid W
    have HXE := Lib.hid hXe
    have HXL := Lib.hid hXl
    have j1 : (J : Int) < (RX.length : Int) := by omega
    clear W hm5 hG1 hk5 hRX hXe hXl
    go_upto_region 10 with fail
    go_cut [] (fun wx => MA w mb G RX ws (bs.set i true) wx)
    case first =>
      go_wp2_with fail
      go_meet
      exact HMAP5.out _ _ _ _ (HM5.out.bz i true HW5.out.c4)
    case rest =>
      obtain ⟨w6, rfl⟩ : ∃ w6 : World, w6 = wc := ⟨_, rfl⟩
      clear c4 z0 fz hln
      obtain ⟨G2, hm6, hG2, hk6⟩ := hcut
      have HMAP6 := Lib.hid (show ∀ R' w' W' B', MA w6 mb G2 R' W' B' w' → MA w mb G R' W' B' w' from fun R' w' W' B' h => MA.step hG2 hk6 h)
      obtain ⟨hb, ho, hc, zb, zo, zc, W⟩ := hm6.worker i hwi (by rw [List.length_set]; exact hl)
      obtain ⟨kb, ko, kc, jb, jo, jc, tb, to_, tc, R⟩ := hm6.row J hXJ
      have c3 := W.c3
      have h30 := W.h0 hwi
      have h31 := W.h1 hwi
      have f30 := W.f0
      have f31 := W.f1
      have hln := W.len.1
      have c0 := R.c0
      have y0 := R.k0 hXJ
      have y1 := R.k1 hXJ
      rw [HXE.out] at y0 y1
      simp only at y0 y1
      have hlr := R.len
      have i2 : (i : Int) < (ws.length : Int) := by omega
      have HM6 := Lib.hid hm6
      have HW6 := Lib.hid W
      clear W R hm6 hG2 hk6
      go_upto_region 11 with fail
      go_cut [] (fun wx => MA w mb G RX (ws.set i (RS[J].1.t, RS[J].1.s)) (bs.set i true) wx)
      case first =>
        go_region
        all_goals
          go_wp2_with fail
          go_meet
          obtain ⟨G3, g1, g2, g3⟩ := HMAP6.out _ _ _ _ (HM6.out.work i hwi RS[J].1.t RS[J].1.s HW6.out.c3)
          exact ⟨G3, g1.below (Below.refl _ _).drew, g2, g3.trans (Keeps.drew _ (fun _ => False)) fun _ _ (h : False) => h.elim⟩
      case rest =>
        obtain ⟨w7, rfl⟩ : ∃ w7 : World, w7 = wc := ⟨_, rfl⟩
        have HC := Lib.hid hcut
        obtain ⟨G3, hm7, _, _⟩ := hcut
        obtain ⟨kb, ko, kc, jb, jo, jc, tb, to_, tc, R⟩ := hm7.row J hXJ
        have c1 := R.c1
        have x1 := R.j hXJ
        have hjm := R.jobs hXJ
        rw [HXE.out] at x1 hjm
        simp only at x1 hjm
        obtain ⟨q0, qr, hq0⟩ : ∃ q0 qr, RS[J].1.jobs = q0 :: qr := by
          cases hx : RS[J].1.jobs with
          | nil => exact absurd hx hjne
          | cons a l => exact ⟨a, l, rfl⟩
        have hjq : job = q0 := by rw [HHD.out, hq0]; rfl
        rw [hq0] at hjm
        simp only [List.length_cons] at hjm
        obtain ⟨vb, vo, vc, hv, _, _, _, hvc⟩ := (Sl.ofMid hjm).plain (by omega)
        have v0 := hvc 0 (.int .i64 q0) rfl
        rw [Nat.add_zero] at v0
        rw [hv] at x1
        have hln2 := R.len
        have b1 : (q0 == q0) = true := by simp
        have v1 : (0 : Int) < ((qr.length + 1 : Nat) : Int) := by omega
        subst hjq
        clear c3 h30 h31 f30 f31 c0 y0 y1 hm7 R hjm hvc hv hq0 hjne
        go_wp2
        go_ret
        exact ⟨rfl, RX, congrArg rowsOf HRXE.out, HC.out⟩
end Go.Proofs.YtkbopcgijaejjaaDoor
