/-
  The walk of StoreSets: it answers true; the conditions: what errors.errorType holds, how long the script is.
  Printed by a program of this repository (wip/law18.py).
-/
import Derived.Test.YtaehklhbokocbaaGreatDoorXLSetsA
import Derived.Test.YtaehklhbokocbaaGreatDoorXRat4
import Derived.Deep.RegionHeld3
set_option linter.unusedVariables false
set_option linter.unusedSimpArgs false
namespace Go.Proofs.YtaehklhbokocbaaGreatDoor
open Go.RowKit Go.Extern.Stop Go.Stop Go.Extern
theorem hu {w W : World} {b o : Nat} {v : Value} (hb : Below w.heap.size w W) (h : w.cell? ⟨b, o, none⟩ = some v) : W.cell? ⟨b, o, none⟩ = some v := (hb.cell (World.block_lt_of_cell? _ _ h)).trans h
theorem sets_wf (xs : List XA) : WF (AS.new.run xs) := by
  have h := (behind xs xs.length).wf
  rw [List.take_length] at h
  exact h
theorem addN_num (q : Rat) (n : Int) (h1 : lenW q.num.natAbs ≤ 1) (h2 : lenW q.den ≤ 1) (hn : n = 1 ∨ n = 2) : lenW (q.num * (((n : Rat)).den : Int) + ((n : Rat)).num * (q.den : Int)).natAbs ≤ 2 := by
  have l1 := lenW_word.1 h1
  have l2 := lenW_word.1 h2
  have e : (q.num * (((n : Rat)).den : Int) + ((n : Rat)).num * (q.den : Int)).natAbs ≤ q.num.natAbs + 2 * q.den := by
    show (q.num * 1 + n * (q.den : Int)).natAbs ≤ _
    rcases hn with rfl | rfl <;> omega
  refine lenW_le ?_
  unfold W64 at l1 l2 ⊢
  omega
theorem addN_small (q : Rat) (n : Int) (h1 : lenW q.num.natAbs ≤ 1) (h2 : lenW q.den ≤ 1) (hn : n = 1 ∨ n = 2) : lenW (q + (n : Rat)).num.natAbs ≤ 2 ∧ lenW (q + (n : Rat)).den ≤ 1 := by
  have h3 := addN_num q n h1 h2 hn
  have hd : ((q.den * ((n : Rat)).den : Nat) : Int) ≠ 0 := by have := Nat.mul_ne_zero q.den_nz ((n : Rat)).den_nz; omega
  rw [← rat_add, rat_num _ _ hd, rat_den _ _ hd, newI_abs]
  refine ⟨Nat.le_trans (lenW_mono (Nat.div_le_self _ _)) h3, Nat.le_trans (lenW_mono (Nat.div_le_self _ _)) ?_⟩
  show lenW ((q.den * 1 : Nat) : Int).natAbs ≤ 1
  rw [Nat.mul_one]
  exact h2
theorem radd_small (v u : Rv) (n : Int) (w : World) (hv : v.ok w) (h1 : lenW v.q.num.natAbs ≤ 1) (h2 : lenW v.q.den ≤ 1) (hu : u.ok w) (hq : u.q = (n : Rat)) (hn : n = 1 ∨ n = 2) :
    Calls Tryz.prog 35 #[.agg #[.bool v.s, .slice v.a v.l v.c, .slice v.b v.m v.d], .agg #[.bool u.s, .slice u.a u.l u.c, .slice u.b u.m u.d]] w (RvR (v.q + (n : Rat)) w) := by
  have hs := addN_small v.q n h1 h2 hn
  have h3 := addN_num v.q n h1 h2 hn
  have ev : (.agg #[.bool v.s, .slice v.a v.l v.c, .slice v.b v.m v.d] : Value) = ratV v.a v.c v.b v.d v.q := hv.val
  have eu : (.agg #[.bool u.s, .slice u.a u.l u.c, .slice u.b u.m u.d] : Value) = ratV u.a u.c u.b u.d u.q := hu.val
  rw [ev, eu, hq]
  have hun := hu.num
  have hud := hu.den
  rw [hq] at hun hud
  have ln : lenW ((n : Rat)).num.natAbs ≤ 1 := by
    show lenW n.natAbs ≤ 1
    rcases hn with rfl | rfl <;> exact lenW_word.2 (by unfold W64; omega)
  have ld : lenW ((n : Rat)).den ≤ 1 := by show lenW 1 ≤ 1; rw [lenW_pos1]; exact Nat.le_refl _
  refine (radd_any mul_upto_small (by omega) (by omega) div_upto_word v.q (n : Rat) v.a v.b u.a u.b v.c v.d u.c u.d w hv.num hv.den hun hud ?_ ?_ ?_ ?_ ?_).mono fun e w' hr => RvR.of hr hs.1 hs.2
  · show lenW v.q.num.natAbs + lenW (((n : Rat)).den : Int).natAbs ≤ 15
    rw [Int.natAbs_natCast]; omega
  · rw [Int.natAbs_natCast]; omega
  · omega
  · exact Nat.le_trans h3 (by omega)
  · show lenW ((v.q.den * 1 : Nat) : Int).natAbs ≤ 1
    rw [Nat.mul_one]
    exact h2
set_option maxRecDepth 100000 in
set_option maxHeartbeats 32000000 in
theorem storeSets_any (a : Option Addr) (c : Nat) (zs : List ZA) (r q p d : Int) (w : World) (hg : Hg w) (hs : Scr w (.slice a zs.length c) zs) (hB : load (acts zs) ≤ 1048576) (hr0 : 0 ≤ r) (hr1 : r ≤ 255) (hq0 : 0 ≤ q) (hq1 : q ≤ 255) (hp : I64 p) (hd : I64 d) :
    Calls Tryz.prog 9 #[.slice a zs.length c, .int .u8 r, .int .u8 q, .agg #[.int .i64 p, .int .i64 d]] w fun e w' => e = .returned (.bool true) ∧ Below w.heap.size w w' := by
  obtain ⟨w1, hw1⟩ : ∃ w1, w.alloc (.cells #[.int .i64 p, .int .i64 d] 36) = w1 := ⟨_, rfl⟩
  obtain ⟨fb, hfb⟩ : ∃ fb, w.heap.size = fb := ⟨_, rfl⟩
  have hb1 : Below w.heap.size w w1 := by rw [← hw1]; exact belowBox w (.cells #[.int .i64 p, .int .i64 d] 36)
  have f0 : w1.cell? ⟨fb, 0, none⟩ = some (.int .i64 p) := by rw [← hw1, ← hfb]; simp
  have f1 : w1.cell? ⟨fb, 1, none⟩ = some (.int .i64 d) := by rw [← hw1, ← hfb]; simp
  have hwf := sets_wf (acts zs)
  have HAW := Lib.hid (awake_any w1 (hg.below hb1 hg.lt))
  have HPL := Lib.hid (fun (W : World) (hb : Below w.heap.size w W) => played_any a c zs W (hs.below hb) (hg.below hb hg.lt) hB)
  obtain ⟨S, hS⟩ : ∃ S, AS.new.run (acts zs) = S := ⟨_, rfl⟩
  rw [hS] at hwf HPL
  have HWF := Lib.hid hwf
  have HB1 := Lib.hid hb1
  have HW1 := Lib.hid hw1
  have HFB := Lib.hid hfb
  have HP := Lib.hid hp
  have HD := Lib.hid hd
  clear hs hg hB hwf hb1 hw1 hfb hS hp hd
  go_enter Tryz.func9, Tryz.ntmps9
  go_upto_region 1 with fail
  (try simp only [HW1.out, HFB.out])
  clear HW1 HFB
  go_wp2_with fail
  refine HAW.out.mono ?_
  rintro e w2 ⟨rfl, hb⟩
  replace f0 := (hb.cell (p := ⟨fb, 0, none⟩) (World.block_lt_of_cell? _ _ f0)).trans f0
  replace f1 := (hb.cell (p := ⟨fb, 1, none⟩) (World.block_lt_of_cell? _ _ f1)).trans f1
  have HB2 := Lib.hid (HB1.out.trans (hb.mono HB1.out.size))
  clear hb HAW HB1
  go_wp2_with fail
  refine (HPL.out _ HB2.out).mono ?_
  rintro e w3 ⟨sb, G, rfl, hsa, hG, hb⟩
  replace f0 := (hb.cell (p := ⟨fb, 0, none⟩) (World.block_lt_of_cell? _ _ f0)).trans f0
  replace f1 := (hb.cell (p := ⟨fb, 1, none⟩) (World.block_lt_of_cell? _ _ f1)).trans f1
  have HSA := Lib.hid hsa
  have HG0 := Lib.hid (show ∀ q, G q → w.heap.size ≤ q from fun q hq => Nat.le_trans HB2.out.size (hG q hq))
  have HB03 := Lib.hid (HB2.out.trans (hb.mono HB2.out.size))
  clear hsa hG hb HPL HB2
  go_wp2_with fail
  refine (as_rows HSA.out HWF.out).mono ?_
  rintro e w4 ⟨ar, cr, rfl, hm, hb⟩
  replace f0 := (hb.cell (p := ⟨fb, 0, none⟩) (World.block_lt_of_cell? _ _ f0)).trans f0
  replace f1 := (hb.cell (p := ⟨fb, 1, none⟩) (World.block_lt_of_cell? _ _ f1)).trans f1
  have hrl := (Sl.ofMid hm).lenI
  obtain ⟨rids, hrids⟩ : ∃ l, S.rids = l := ⟨_, rfl⟩
  rw [hrids] at hm hrl ⊢
  obtain ⟨nr, hnr⟩ : ∃ n, rids.length = n := ⟨_, rfl⟩
  rw [hnr] at hm hrl ⊢
  have HRO := Lib.hid (show ∀ q, (Value.slice ar nr cr).ownBlock = some q → w3.heap.size ≤ q from fun q h => (hm.lt q h).1)
  have HMR := Lib.hid (hm.mono (Nat.zero_le _))
  have HRI := Lib.hid hrids
  have HNR := Lib.hid hnr
  have HB3 := Lib.hid hb
  clear hm hb hrids hnr
  go_wp2_with fail
  refine (as_cols (HSA.out.below HB3.out) HWF.out).mono ?_
  rintro e w5 ⟨ac, ccp, rfl, hm, hb⟩
  replace f0 := (hb.cell (p := ⟨fb, 0, none⟩) (World.block_lt_of_cell? _ _ f0)).trans f0
  replace f1 := (hb.cell (p := ⟨fb, 1, none⟩) (World.block_lt_of_cell? _ _ f1)).trans f1
  have hcl := (Sl.ofMid hm).lenI
  obtain ⟨cids, hcids⟩ : ∃ l, S.cids = l := ⟨_, rfl⟩
  rw [hcids] at hm hcl ⊢
  obtain ⟨nc, hnc⟩ : ∃ n, cids.length = n := ⟨_, rfl⟩
  rw [hnc] at hm hcl ⊢
  have HCO := Lib.hid (show ∀ q, (Value.slice ac nc ccp).ownBlock = some q → w3.heap.size ≤ q from fun q h => Nat.le_trans HB3.out.size (hm.lt q h).1)
  have HMC := Lib.hid (hm.mono (Nat.zero_le _))
  have HCI := Lib.hid hcids
  have HNC := Lib.hid hnc
  replace HMR := Lib.hid (mid_under HMR.out hb)
  replace HB3 := Lib.hid (HB3.out.trans (hb.mono HB3.out.size))
  clear hm hb hcids hnc
  by_cases hr0n : nr = 0
  · go_wp2_with fail
    go_ret
    exact ⟨rfl, HB03.out.trans (HB3.out.mono HB03.out.size)⟩
  by_cases hc0n : nc = 0
  · go_wp2_with fail
    go_ret
    exact ⟨rfl, HB03.out.trans (HB3.out.mono HB03.out.size)⟩
  have hwr : IntKind.i64.wrap r = r := by rw [IntKind.wrap_i64]; omega
  have hwq : IntKind.i64.wrap q = q := by rw [IntKind.wrap_i64]; omega
  have hnz : ¬ (nr : Int) = 0 := by omega
  have hcz : ¬ (nc : Int) = 0 := by omega
  have hne1 : ((nr : Int) == 0) = false := by simp; omega
  have hne2 : ((nc : Int) == 0) = false := by simp; omega
  go_upto_region 9 with fail
  go_cut [12, 13] (fun v12 v13 wx => ∃ k j : Nat, k < nr ∧ j < nc ∧ v12 = .int .i64 k ∧ v13 = .int .i64 j ∧ Below w5.heap.size w5 wx)
  case first =>
    go_quiet (fail)
    go_wp2_with fail
    go_meet
    have h1 := Int.emod_nonneg r hnz
    have h2 := Int.emod_lt_of_pos r (show (0 : Int) < nr by omega)
    have h3 := Int.emod_nonneg q hcz
    have h4 := Int.emod_lt_of_pos q (show (0 : Int) < nc by omega)
    exact ⟨(r % (nr : Int)).toNat, (q % (nc : Int)).toNat, by omega, by omega, congrArg (Value.int .i64) (by omega), congrArg (Value.int .i64) (by omega), Below.drawn w5 nq⟩
  case rest =>
    obtain ⟨w6, hwc⟩ : ∃ W : World, W = wc := ⟨_, rfl⟩
    subst hwc
    obtain ⟨k, j, hk, hj, rfl, rfl, hb⟩ := hcut
    replace f0 := (hb.cell (p := ⟨fb, 0, none⟩) (World.block_lt_of_cell? _ _ f0)).trans f0
    replace f1 := (hb.cell (p := ⟨fb, 1, none⟩) (World.block_lt_of_cell? _ _ f1)).trans f1
    replace HB3 := Lib.hid (HB3.out.trans (hb.mono HB3.out.size))
    replace HMR := Lib.hid (mid_under HMR.out hb)
    replace HMC := Lib.hid (mid_under HMC.out hb)
    clear hb hne1 hne2 hnz hcz hwr hwq hr0n hc0n hr0 hr1 hq0 hq1
    go_wp2_with fail
    refine (One_any p d _ HP.out HD.out).mono ?_
    rintro e w7 ⟨x, rfl, hxo, hxs, hxq, hb⟩
    unfold Rv.val
    replace HB3 := Lib.hid (HB3.out.trans (hb.mono HB3.out.size))
    replace HMR := Lib.hid (mid_under HMR.out hb)
    replace HMC := Lib.hid (mid_under HMC.out hb)
    clear hb f0 f1
    obtain ⟨w8, hw8⟩ : ∃ w8, w7.alloc (.cells #[.bool x.s, .slice x.a x.l x.c, .slice x.b x.m x.d] 51) = w8 := ⟨_, rfl⟩
    obtain ⟨xb, hxb⟩ : ∃ xb, w7.heap.size = xb := ⟨_, rfl⟩
    have hb : Below w7.heap.size w7 w8 := by rw [← hw8]; exact belowBox w7 (.cells #[.bool x.s, .slice x.a x.l x.c, .slice x.b x.m x.d] 51)
    have x0 : w8.cell? ⟨xb, 0, none⟩ = some (.bool x.s) := by rw [← hw8, ← hxb]; simp
    have x1 : w8.cell? ⟨xb, 1, none⟩ = some (.slice x.a x.l x.c) := by rw [← hw8, ← hxb]; simp
    have x2 : w8.cell? ⟨xb, 2, none⟩ = some (.slice x.b x.m x.d) := by rw [← hw8, ← hxb]; simp
    have hx8 : xb < w8.heap.size := by rw [← hw8, ← hxb]; simp
    have HX83 := Lib.hid (show w3.heap.size ≤ w8.heap.size from Nat.le_trans HB3.out.size hb.size)
    have HRU := Lib.hid (show ∀ z, (Value.slice ar nr cr).ownBlock = some z → z < w8.heap.size from fun z h => Nat.lt_of_lt_of_le (HMR.out.lt z h).2 hb.size)
    have HCU := Lib.hid (show ∀ z, (Value.slice ac nc ccp).ownBlock = some z → z < w8.heap.size from fun z h => Nat.lt_of_lt_of_le (HMC.out.lt z h).2 hb.size)
    have HX8 := Lib.hid hx8
    have HXL := Lib.hid (show w3.heap.size ≤ xb by rw [← hxb]; exact HB3.out.size)
    have HXO := Lib.hid (hxo.below hb)
    have HXS := Lib.hid hxs
    have HXQ := Lib.hid hxq
    replace HB3 := Lib.hid (HB3.out.trans (hb.mono HB3.out.size))
    replace HMR := Lib.hid (mid_under HMR.out hb)
    replace HMC := Lib.hid (mid_under HMC.out hb)
    have HW8 := Lib.hid hw8
    have HXB := Lib.hid hxb
    clear hb hxo hxs hxq hw8 hxb hx8
    go_upto_region 11 with fail
    (try simp only [HW8.out, HXB.out])
    clear HW8 HXB
    go_wp2_with fail
    refine (as_prob (HSA.out.below HB3.out) HWF.out).mono ?_
    rintro e w9 ⟨F, ca, ra, cc, rc, cs, rows, rfl, hp, hF, hb⟩
    have h89 := hb.size
    replace x0 := hu hb x0
    replace x1 := hu hb x1
    replace x2 := hu hb x2
    replace HXO := Lib.hid (HXO.out.below hb)
    replace HB3 := Lib.hid (HB3.out.trans (hb.mono HB3.out.size))
    replace HMR := Lib.hid (mid_under HMR.out hb)
    replace HMC := Lib.hid (mid_under HMC.out hb)
    obtain ⟨w10, hw10⟩ : ∃ w10, w9.alloc (.cells #[.slice ca cs.length cc, .slice ra rows.length rc] 73) = w10 := ⟨_, rfl⟩
    obtain ⟨pb, hpb⟩ : ∃ pb, w9.heap.size = pb := ⟨_, rfl⟩
    have hpx := hp.boxed
    rw [hw10, hpb] at hpx
    have hpl : ∀ q, pF pb ca ra cc rc cs rows q → w8.heap.size ≤ q := fun q hq => by
      rcases hq with rfl | hq
      · omega
      · exact hF q (hp.pw.2.1 q hq)
    have hb10 : Below w9.heap.size w9 w10 := by rw [← hw10]; exact belowBox w9 (.cells #[.slice ca cs.length cc, .slice ra rows.length rc] 73)
    replace x0 := hu hb10 x0
    replace x1 := hu hb10 x1
    replace x2 := hu hb10 x2
    replace HXO := Lib.hid (HXO.out.below hb10)
    replace HB3 := Lib.hid (HB3.out.trans (hb10.mono HB3.out.size))
    replace HMR := Lib.hid (mid_under HMR.out hb10)
    replace HMC := Lib.hid (mid_under HMC.out hb10)
    obtain ⟨K, hK⟩ : ∃ K : Nat → Prop, K = fun q => q = xb ∨ pF pb ca ra cc rc cs rows q ∨ (Value.slice ar nr cr).ownBlock = some q ∨ (Value.slice ac nc ccp).ownBlock = some q := ⟨_, rfl⟩
    have hl : LSt w w10 sb S K := by
      have hz3 := HB3.out.size
      refine ⟨G, HSA.out.below HB3.out, HG0.out, HB03.out.trans (HB3.out.mono HB03.out.size), fun q hq hg => ?_, fun q hq => ?_⟩
      · have h1 := HSA.out.lt q hg
        rw [hK] at hq
        rcases hq with h | h | h | h
        · have := HXL.out; omega
        · have := hpl q h; have := HX83.out; omega
        · have := HRO.out q h; omega
        · have := HCO.out q h; omega
      · rw [hK] at hq
        rcases hq with h | h | h | h
        · have := World.block_lt_of_cell? _ _ x0; rw [h]; exact this
        · exact hpx.box.lt q h
        · exact (HMR.out.lt q h).2
        · exact (HMC.out.lt q h).2
    have HW8 := Lib.hid (show w.heap.size ≤ w8.heap.size from Nat.le_trans HB03.out.size HX83.out)
    have HL := Lib.hid hl
    have HPX := Lib.hid hpx
    have HPL8 := Lib.hid hpl
    have HKX := Lib.hid (show K xb by rw [hK]; exact .inl rfl)
    have HKP := Lib.hid (show ∀ q, pF pb ca ra cc rc cs rows q → K q by rw [hK]; exact fun q h => .inr (.inl h))
    have HKR := Lib.hid (show ∀ q, (Value.slice ar nr cr).ownBlock = some q → K q by rw [hK]; exact fun q h => .inr (.inr (.inl h)))
    have HKC := Lib.hid (show ∀ q, (Value.slice ac nc ccp).ownBlock = some q → K q by rw [hK]; exact fun q h => .inr (.inr (.inr h)))
    have HW10 := Lib.hid hw10
    have HPB := Lib.hid hpb
    clear hb hp hF h89 hw10 hpb hpx hpl hb10 hK hl
    go_upto_region 12 with fail
    (try simp only [HW10.out, HPB.out])
    clear HW10 HPB
    have hkl : k < rids.length := by rw [HNR.out]; exact hk
    have hjl : j < cids.length := by rw [HNC.out]; exact hj
    have hks : k < S.rids.length := by rw [HRI.out]; exact hkl
    have hjs : j < S.cids.length := by rw [HCI.out]; exact hjl
    obtain ⟨rid, hrid⟩ : ∃ z, rids[k] = z := ⟨_, rfl⟩
    obtain ⟨cid, hcid⟩ : ∃ z, cids[j] = z := ⟨_, rfl⟩
    have hmr := HMR.out
    rw [← HNR.out] at hmr
    obtain ⟨b1, o1, e1, _, y1⟩ := int_get (Sl.ofMid hmr) k hkl hkl
    have hmc := HMC.out
    rw [← HNC.out] at hmc
    obtain ⟨b2, o2, e2, _, y2⟩ := int_get (Sl.ofMid hmc) j hjl hjl
    rw [hrid] at y1
    rw [hcid] at y2
    obtain ⟨S1, S2, t1, t2, t3, wf1, wf2, wf3⟩ := three_sets S HWF.out hks hjs x.q (x.q + ((1 : Int) : Rat)) (x.q + ((2 : Int) : Rat))
    have er : S.rids[k] = rid := (List.getElem_of_eq HRI.out hks).trans hrid
    have ec : S.cids[j] = cid := (List.getElem_of_eq HCI.out hjs).trans hcid
    rw [er, ec] at t1
    rw [er] at t2
    rw [ec] at t3
    obtain ⟨SZ, hSZ⟩ : ∃ SZ, S.three k j x.q (x.q + ((1 : Int) : Rat)) (x.q + ((2 : Int) : Rat)) = SZ := ⟨_, rfl⟩
    rw [hSZ] at t3 wf3
    have HT1 := Lib.hid t1
    have HT2 := Lib.hid t2
    have HT3 := Lib.hid t3
    have HWZ := Lib.hid wf3
    have HSZ := Lib.hid hSZ
    have HX1 := Lib.hid (show lenW x.q.num.natAbs ≤ 1 ∧ lenW x.q.den ≤ 1 by rw [HXQ.out]; exact fracQ_small HP.out HD.out)
    have hbd := Below.drawn w10 1
    replace HL := Lib.hid (HL.out.below hbd)
    replace HPX := Lib.hid (HPX.out.below hbd)
    replace HXO := Lib.hid (HXO.out.below hbd)
    replace HMR := Lib.hid (mid_under HMR.out hbd)
    replace HMC := Lib.hid (mid_under HMC.out hbd)
    have i0 : (0 : Int) ≤ (k : Int) := by omega
    have i1 : (k : Int) < (nr : Int) := by omega
    have j0 : (0 : Int) ≤ (j : Int) := by omega
    have j1 : (j : Int) < (nc : Int) := by omega
    subst e1 e2
    clear hrid hcid hmr hmc t1 t2 t3 wf1 wf2 wf3 er ec hSZ hbd hkl hjl hks hjs
    go_cut [83] (fun v83 wx => v83 = .bool false ∧ LSt w wx sb SZ K ∧ PBx wx pb ca ra cc rc cs rows (S.cols.map (·.cost)) S.rows ∧ x.ok wx ∧ Mid wx 0 3 1 (.slice (some ⟨b1, o1, none⟩) nr cr) nr (rids.map IV) ∧ Mid wx 0 3 1 (.slice (some ⟨b2, o2, none⟩) nc ccp) nc (cids.map IV) ∧ wx.cell? ⟨xb, 0, none⟩ = some (.bool x.s) ∧ wx.cell? ⟨xb, 1, none⟩ = some (.slice x.a x.l x.c) ∧ wx.cell? ⟨xb, 2, none⟩ = some (.slice x.b x.m x.d))
    case first =>
      refine wp_region_held_drew (S := fun W => W.cell? ⟨b1, o1 + k, none⟩ = some (.int .i64 rid) ∧ W.cell? ⟨b2, o2 + j, none⟩ = some (.int .i64 cid) ∧ W.cell? ⟨xb, 0, none⟩ = some (.bool x.s) ∧ W.cell? ⟨xb, 1, none⟩ = some (.slice x.a x.l x.c) ∧ W.cell? ⟨xb, 2, none⟩ = some (.slice x.b x.m x.d)) (by kernel_rfl) (⟨y1, y2, x0, x1, x2⟩) (fun hHeld => ?_)
      refine tk 0 (some 48) (v := ?_) rfl rfl ?_ ?_
      rotate_left
      · (intro w _; go_simp; (try with_reducible rfl))
      simp only [Act.put, stB, stZ, stS]
      refine tk 1 (some 49) (v := ?_) rfl rfl ?_ ?_
      rotate_left
      · (intro w _; go_simp; (try with_reducible rfl))
      simp only [Act.put, stB, stZ, stS]
      refine tk 2 (some 50) (v := ?_) rfl rfl ?_ ?_
      rotate_left
      · (intro w _; go_simp; (try with_reducible rfl))
      simp only [Act.put, stB, stZ, stS]
      refine tk 3 (some 51) (v := ?_) rfl rfl ?_ ?_
      rotate_left
      · (intro w hSw; (try dsimp only at hSw); ((try obtain ⟨hS0, hS1, hS2, hS3, hS4⟩ := hSw); go_simp); (try with_reducible rfl))
      simp only [Act.put, stB, stZ, stS]
      refine tk 4 (some 52) (v := ?_) rfl rfl ?_ ?_
      rotate_left
      · (intro w hSw; (try dsimp only at hSw); ((try obtain ⟨hS0, hS1, hS2, hS3, hS4⟩ := hSw); go_simp); (try with_reducible rfl))
      simp only [Act.put, stB, stZ, stS]
      refine tk 5 (some 53) (v := ?_) rfl rfl ?_ ?_
      rotate_left
      · (intro w _; go_simp; (try with_reducible rfl))
      simp only [Act.put, stB, stZ, stS]
      refine tk 6 (some 54) (v := ?_) rfl rfl ?_ ?_
      rotate_left
      · (intro w _; go_simp; (try with_reducible rfl))
      simp only [Act.put, stB, stZ, stS]
      refine tk 7 (some 55) (v := ?_) rfl rfl ?_ ?_
      rotate_left
      · (intro w hSw; (try dsimp only at hSw); ((try obtain ⟨hS0, hS1, hS2, hS3, hS4⟩ := hSw); go_simp); (try with_reducible rfl))
      simp only [Act.put, stB, stZ, stS]
      refine tk 8 (some 56) (v := ?_) rfl rfl ?_ ?_
      rotate_left
      · (intro w hSw; (try dsimp only at hSw); ((try obtain ⟨hS0, hS1, hS2, hS3, hS4⟩ := hSw); go_simp); (try with_reducible rfl))
      simp only [Act.put, stB, stZ, stS]
      refine tk 9 (some 57) (v := ?_) rfl rfl ?_ ?_
      rotate_left
      · (intro w hSw; (try dsimp only at hSw); ((try obtain ⟨hS0, hS1, hS2, hS3, hS4⟩ := hSw); go_simp); (try with_reducible rfl))
      simp only [Act.put, stB, stZ, stS]
      refine wpAnyH_ready (rs := [10]) (by kernel_rfl) (by simp) ?_
      refine (AllReadyH.cons rfl (fun K hK => ?_) AllReadyH.nil)
      go_simp
      refine HL.out.setR (s1 := S1) (fl := noF) (fun G hs => by have h := as_setCoef hs HWF.out rid cid x HXO.out HXS.out; rw [HT1.out] at h; exact h) ?_
      intro ev V1 hev hl hfr
      obtain rfl : ev = .nilIface := hev.nil
      replace HL := Lib.hid hl
      replace HPX := Lib.hid (HPX.out.frm hfr HKP.out)
      replace HXO := Lib.hid (hfr.rv HXO.out)
      replace HMR := Lib.hid (hfr.mid HMR.out HKR.out)
      replace HMC := Lib.hid (hfr.mid HMC.out HKC.out)
      have hKK := And.intro (hfr.cell (HKR.out b1 rfl) hHeld.1) <| And.intro (hfr.cell (HKC.out b2 rfl) hHeld.2.1) <| And.intro (hfr.cell (HKX.out) hHeld.2.2.1) <| And.intro (hfr.cell (HKX.out) hHeld.2.2.2.1) <| hfr.cell (HKX.out) hHeld.2.2.2.2
      clear hl hfr hev
      refine hK.out _ _ (hKK) (fun hHeld2 => ?_)
      clear hK K hHeld
      rename _ => hHeld
      try simp only [Act.put, stB, stZ, stS]
      refine tk 11 (some 59) (v := ?_) rfl rfl ?_ ?_
      rotate_left
      · (intro w _; go_simp; (try with_reducible rfl))
      simp only [Act.put, stB, stZ, stS]
      refine tk 12 (some 60) (v := ?_) rfl rfl ?_ ?_
      rotate_left
      · (intro w _; go_simp; (try with_reducible rfl))
      simp only [Act.put, stB, stZ, stS]
      refine tk 13 (some 61) (v := ?_) rfl rfl ?_ ?_
      rotate_left
      · (intro w _; go_simp; (try with_reducible rfl))
      simp only [Act.put, stB, stZ, stS]
      refine tk 14 (some 62) (v := ?_) rfl rfl ?_ ?_
      rotate_left
      · (intro w _; go_simp; (try with_reducible rfl))
      simp only [Act.put, stB, stZ, stS]
      refine tk 15 (some 63) (v := ?_) rfl rfl ?_ ?_
      rotate_left
      · (intro w _; go_simp; (try with_reducible rfl))
      simp only [Act.put, stB, stZ, stS]
      refine tk 16 (some 64) (v := ?_) rfl rfl ?_ ?_
      rotate_left
      · (intro w hSw; (try dsimp only at hSw); ((try obtain ⟨hS0, hS1, hS2, hS3, hS4⟩ := hSw); go_simp); (try with_reducible rfl))
      simp only [Act.put, stB, stZ, stS]
      refine tk 17 (some 65) (v := ?_) rfl rfl ?_ ?_
      rotate_left
      · (intro w hSw; (try dsimp only at hSw); ((try obtain ⟨hS0, hS1, hS2, hS3, hS4⟩ := hSw); go_simp); (try with_reducible rfl))
      simp only [Act.put, stB, stZ, stS]
      refine tk 18 (some 66) (v := ?_) rfl rfl ?_ ?_
      rotate_left
      · (intro w hSw; (try dsimp only at hSw); ((try obtain ⟨hS0, hS1, hS2, hS3, hS4⟩ := hSw); go_simp); (try with_reducible rfl))
      simp only [Act.put, stB, stZ, stS]
      refine wpAnyH_ready (rs := [19]) (by kernel_rfl) (by simp) ?_
      refine (AllReadyH.cons rfl (fun K hK => ?_) AllReadyH.nil)
      go_simp
      refine (vint_any 1 _ (by unfold I64; omega)).mono ?_
      rintro e V2 ⟨v1, rfl, ho, hsm, hq, hb⟩
      unfold Rv.val
      have HV := Lib.hid (show v1.ok V2 ∧ v1.q = ((1 : Int) : Rat) from ⟨ho, hq⟩)
      clear ho hsm hq
      replace HL := Lib.hid (HL.out.below hb)
      replace HPX := Lib.hid (HPX.out.below hb)
      replace HXO := Lib.hid (HXO.out.below hb)
      replace HMR := Lib.hid (mid_under HMR.out hb)
      replace HMC := Lib.hid (mid_under HMC.out hb)
      have hKK := And.intro (hu hb hHeld.1) <| And.intro (hu hb hHeld.2.1) <| And.intro (hu hb hHeld.2.2.1) <| And.intro (hu hb hHeld.2.2.2.1) <| hu hb hHeld.2.2.2.2
      clear hb
      refine hK.out _ _ (hKK) (fun hHeld2 => ?_)
      clear hK K hHeld
      rename _ => hHeld
      try simp only [Act.put, stB, stZ, stS]
      refine wpAnyH_ready (rs := [20]) (by kernel_rfl) (by simp) ?_
      refine (AllReadyH.cons rfl (fun K hK => ?_) AllReadyH.nil)
      go_simp
      refine (radd_small x v1 1 _ HXO.out HX1.out.1 HX1.out.2 HV.out.1 HV.out.2 (.inl rfl)).mono ?_
      rintro e V3 ⟨u1, rfl, ho, hsm, hq, hb⟩
      unfold Rv.val
      have HU := Lib.hid (show u1.ok V3 ∧ u1.small ∧ u1.q = x.q + ((1 : Int) : Rat) from ⟨ho, hsm, hq⟩)
      clear ho hsm hq HV
      replace HL := Lib.hid (HL.out.below hb)
      replace HPX := Lib.hid (HPX.out.below hb)
      replace HXO := Lib.hid (HXO.out.below hb)
      replace HMR := Lib.hid (mid_under HMR.out hb)
      replace HMC := Lib.hid (mid_under HMC.out hb)
      have hKK := And.intro (hu hb hHeld.1) <| And.intro (hu hb hHeld.2.1) <| And.intro (hu hb hHeld.2.2.1) <| And.intro (hu hb hHeld.2.2.2.1) <| hu hb hHeld.2.2.2.2
      clear hb
      refine hK.out _ _ (hKK) (fun hHeld2 => ?_)
      clear hK K hHeld
      rename _ => hHeld
      try simp only [Act.put, stB, stZ, stS]
      refine wpAnyH_ready (rs := [21]) (by kernel_rfl) (by simp) ?_
      refine (AllReadyH.cons rfl (fun K hK => ?_) AllReadyH.nil)
      go_simp
      refine HL.out.setR (s1 := S2) (fl := noF) (fun G hs => by have h := as_setRhs hs rid u1 HU.out.1 HU.out.2.1; rw [HU.out.2.2, HT2.out] at h; exact h) ?_
      intro ev V4 hev hl hfr
      obtain rfl : ev = .nilIface := hev.nil
      replace HL := Lib.hid hl
      replace HPX := Lib.hid (HPX.out.frm hfr HKP.out)
      replace HXO := Lib.hid (hfr.rv HXO.out)
      replace HMR := Lib.hid (hfr.mid HMR.out HKR.out)
      replace HMC := Lib.hid (hfr.mid HMC.out HKC.out)
      have hKK := And.intro (hfr.cell (HKR.out b1 rfl) hHeld.1) <| And.intro (hfr.cell (HKC.out b2 rfl) hHeld.2.1) <| And.intro (hfr.cell (HKX.out) hHeld.2.2.1) <| And.intro (hfr.cell (HKX.out) hHeld.2.2.2.1) <| hfr.cell (HKX.out) hHeld.2.2.2.2
      clear hl hfr hev
      refine hK.out _ _ (hKK) (fun hHeld2 => ?_)
      clear hK K hHeld
      rename _ => hHeld
      try simp only [Act.put, stB, stZ, stS]
      refine tk 22 (some 70) (v := ?_) rfl rfl ?_ ?_
      rotate_left
      · (intro w _; go_simp; (try with_reducible rfl))
      simp only [Act.put, stB, stZ, stS]
      refine tk 23 (some 71) (v := ?_) rfl rfl ?_ ?_
      rotate_left
      · (intro w _; go_simp; (try with_reducible rfl))
      simp only [Act.put, stB, stZ, stS]
      refine tk 24 (some 72) (v := ?_) rfl rfl ?_ ?_
      rotate_left
      · (intro w _; go_simp; (try with_reducible rfl))
      simp only [Act.put, stB, stZ, stS]
      refine tk 25 (some 73) (v := ?_) rfl rfl ?_ ?_
      rotate_left
      · (intro w _; go_simp; (try with_reducible rfl))
      simp only [Act.put, stB, stZ, stS]
      refine tk 26 (some 74) (v := ?_) rfl rfl ?_ ?_
      rotate_left
      · (intro w _; go_simp; (try with_reducible rfl))
      simp only [Act.put, stB, stZ, stS]
      refine tk 27 (some 75) (v := ?_) rfl rfl ?_ ?_
      rotate_left
      · (intro w _; go_simp; (try with_reducible rfl))
      simp only [Act.put, stB, stZ, stS]
      refine tk 28 (some 76) (v := ?_) rfl rfl ?_ ?_
      rotate_left
      · (intro w hSw; (try dsimp only at hSw); ((try obtain ⟨hS0, hS1, hS2, hS3, hS4⟩ := hSw); go_simp); (try with_reducible rfl))
      simp only [Act.put, stB, stZ, stS]
      refine tk 29 (some 77) (v := ?_) rfl rfl ?_ ?_
      rotate_left
      · (intro w hSw; (try dsimp only at hSw); ((try obtain ⟨hS0, hS1, hS2, hS3, hS4⟩ := hSw); go_simp); (try with_reducible rfl))
      simp only [Act.put, stB, stZ, stS]
      refine tk 30 (some 78) (v := ?_) rfl rfl ?_ ?_
      rotate_left
      · (intro w hSw; (try dsimp only at hSw); ((try obtain ⟨hS0, hS1, hS2, hS3, hS4⟩ := hSw); go_simp); (try with_reducible rfl))
      simp only [Act.put, stB, stZ, stS]
      refine wpAnyH_ready (rs := [31]) (by kernel_rfl) (by simp) ?_
      refine (AllReadyH.cons rfl (fun K hK => ?_) AllReadyH.nil)
      go_simp
      refine (vint_any 2 _ (by unfold I64; omega)).mono ?_
      rintro e V5 ⟨v2, rfl, ho, hsm, hq, hb⟩
      unfold Rv.val
      have HV := Lib.hid (show v2.ok V5 ∧ v2.q = ((2 : Int) : Rat) from ⟨ho, hq⟩)
      clear ho hsm hq
      replace HL := Lib.hid (HL.out.below hb)
      replace HPX := Lib.hid (HPX.out.below hb)
      replace HXO := Lib.hid (HXO.out.below hb)
      replace HMR := Lib.hid (mid_under HMR.out hb)
      replace HMC := Lib.hid (mid_under HMC.out hb)
      have hKK := And.intro (hu hb hHeld.1) <| And.intro (hu hb hHeld.2.1) <| And.intro (hu hb hHeld.2.2.1) <| And.intro (hu hb hHeld.2.2.2.1) <| hu hb hHeld.2.2.2.2
      clear hb
      refine hK.out _ _ (hKK) (fun hHeld2 => ?_)
      clear hK K hHeld
      rename _ => hHeld
      try simp only [Act.put, stB, stZ, stS]
      refine wpAnyH_ready (rs := [32]) (by kernel_rfl) (by simp) ?_
      refine (AllReadyH.cons rfl (fun K hK => ?_) AllReadyH.nil)
      go_simp
      refine (radd_small x v2 2 _ HXO.out HX1.out.1 HX1.out.2 HV.out.1 HV.out.2 (.inr rfl)).mono ?_
      rintro e V6 ⟨u2, rfl, ho, hsm, hq, hb⟩
      unfold Rv.val
      have HU := Lib.hid (show u2.ok V6 ∧ u2.small ∧ u2.q = x.q + ((2 : Int) : Rat) from ⟨ho, hsm, hq⟩)
      clear ho hsm hq HV
      replace HL := Lib.hid (HL.out.below hb)
      replace HPX := Lib.hid (HPX.out.below hb)
      replace HXO := Lib.hid (HXO.out.below hb)
      replace HMR := Lib.hid (mid_under HMR.out hb)
      replace HMC := Lib.hid (mid_under HMC.out hb)
      have hKK := And.intro (hu hb hHeld.1) <| And.intro (hu hb hHeld.2.1) <| And.intro (hu hb hHeld.2.2.1) <| And.intro (hu hb hHeld.2.2.2.1) <| hu hb hHeld.2.2.2.2
      clear hb
      refine hK.out _ _ (hKK) (fun hHeld2 => ?_)
      clear hK K hHeld
      rename _ => hHeld
      try simp only [Act.put, stB, stZ, stS]
      refine wpAnyH_ready (rs := [33]) (by kernel_rfl) (by simp) ?_
      refine (AllReadyH.cons rfl (fun K hK => ?_) AllReadyH.nil)
      go_simp
      refine HL.out.setR (s1 := SZ) (fl := noF) (fun G hs => by have h := as_setCost hs cid u2 HU.out.1 HU.out.2.1; rw [HU.out.2.2, HT3.out] at h; exact h) ?_
      intro ev V7 hev hl hfr
      obtain rfl : ev = .nilIface := hev.nil
      replace HL := Lib.hid hl
      replace HPX := Lib.hid (HPX.out.frm hfr HKP.out)
      replace HXO := Lib.hid (hfr.rv HXO.out)
      replace HMR := Lib.hid (hfr.mid HMR.out HKR.out)
      replace HMC := Lib.hid (hfr.mid HMC.out HKC.out)
      have hKK := And.intro (hfr.cell (HKR.out b1 rfl) hHeld.1) <| And.intro (hfr.cell (HKC.out b2 rfl) hHeld.2.1) <| And.intro (hfr.cell (HKX.out) hHeld.2.2.1) <| And.intro (hfr.cell (HKX.out) hHeld.2.2.2.1) <| hfr.cell (HKX.out) hHeld.2.2.2.2
      clear hl hfr hev
      refine hK.out _ _ (hKK) (fun hHeld2 => ?_)
      clear hK K hHeld
      rename _ => hHeld
      try simp only [Act.put, stB, stZ, stS]
      refine tk 34 (some 82) (v := ?_) rfl rfl ?_ ?_
      rotate_left
      · (intro w _; go_simp; (try with_reducible rfl))
      simp only [Act.put, stB, stZ, stS]
      refine tk 35 (some 83) (v := ?_) rfl rfl ?_ ?_
      rotate_left
      · (intro w _; go_simp; (try with_reducible rfl))
      simp only [Act.put, stB, stZ, stS]
      refine wpAnyH_done (by kernel_rfl) ?_ _
      (try simp only [Exit.inBlock, Exit.then])
      obtain ⟨g0, g1, g2, g3, g4⟩ := hHeld
      go_wp2_with fail
      go_meet
      exact ⟨rfl, HL.out, HPX.out, HXO.out, HMR.out, HMC.out, g2, g3, g4⟩
    case rest =>
      obtain ⟨w11, hwc⟩ : ∃ W : World, W = wc := ⟨_, rfl⟩
      subst hwc
      clear x0 x1 x2 y1 y2
      obtain ⟨rfl, hl, hpx, hxo, hmr, hmc, x0, x1, x2⟩ := hcut
      have hkr : k < rows.length := by rw [hpx.pa.rlen, ← rids_length, HRI.out, HNR.out]; exact hk
      have hjc : j < cs.length := by rw [hpx.pa.clen, List.length_map, ← cids_length, HCI.out, HNC.out]; exact hj
      obtain ⟨R, hR⟩ : ∃ R, rows[k]? = some R := ⟨_, List.getElem?_eq_getElem hkr⟩
      have hRm := List.mem_of_getElem? hR
      have hRl : R.coef.length = S.cols.length := by
        have h := HWF.out.len R.ar (by rw [← hpx.rws]; exact List.mem_map_of_mem hRm)
        rw [← h]; simp [Rw.ar]
      have hjR : j < R.coef.length := by rw [hRl, ← cids_length, HCI.out, HNC.out]; exact hj
      obtain ⟨b3, o3, e3, -, r0, -, -, -, -⟩ := prow_get hpx.pa.rowsl k hkr
      rw [(List.getElem?_eq_some_iff.1 hR).2] at r0
      obtain ⟨cj, cjc, ecv, hcvw⟩ := hpx.pa.rvec hRm
      obtain ⟨b4, o4, e4, -, c0, c1, c2⟩ := rv_get hcvw.sl j hjR
      obtain ⟨X, hX⟩ : ∃ X, R.coef[j] = X := ⟨_, rfl⟩
      rw [hX] at c0 c1 c2
      have hm4 : Mid w11 0 51 3 R.cv R.coef.length (R.coef.flatMap Rv.cells) := hpx.box.2.1.1 (coefP R) (by simp only [pPs, List.mem_cons, List.mem_map]; exact .inr (.inr ⟨R, hRm, rfl⟩))
      subst e3 e4
      rw [ecv] at hm4 r0
      have g0 := hm4.frozen (o4 + j * 3)
      have g1 := hm4.frozen (o4 + j * 3 + 1)
      have g2 := hm4.frozen (o4 + j * 3 + 2)
      have p1 := hpx.box.cell 1 rfl
      have HL := Lib.hid hl
      have HPX := Lib.hid hpx
      have HXO := Lib.hid hxo
      have HMR := Lib.hid hmr
      have HMC := Lib.hid hmc
      have HR := Lib.hid hR
      have HECV := Lib.hid ecv
      have HKR3 := Lib.hid hkr
      have HJC := Lib.hid hjc
      have HJR := Lib.hid hjR
      have k1 : (k : Int) < (rows.length : Int) := by omega
      have l1 : (j : Int) < (R.coef.length : Int) := by omega
      clear hl hpx hxo hmr hmc hX hR hRm hRl ecv hcvw hm4 hkr hjc hjR
      go_upto_region 14 with fail
      go_cut [] (fun wx => ∃ wv : World, wx = wv.drew ∧ wv = ((w11.setCell ⟨b4, o4 + j * 3, none⟩ (.bool x.s)).setCell ⟨b4, o4 + j * 3 + 1, none⟩ (.slice x.a x.l x.c)).setCell ⟨b4, o4 + j * 3 + 2, none⟩ (.slice x.b x.m x.d))
      case first =>
        go_region
        all_goals
          go_wp2_with fail
          go_meet
          exact ⟨_, rfl, rfl⟩
      case rest =>
        obtain ⟨w12, hwc⟩ : ∃ W : World, W = wc := ⟨_, rfl⟩
        subst hwc
        obtain ⟨wv, rfl, hwv⟩ := hcut
        have h3 := HPX.out.coef3 HR.out HECV.out HJR.out HXO.out HXS.out
        rw [← hwv] at h3
        obtain ⟨hpx, hkp⟩ := h3
        have HSUB := Lib.hid (show ∀ z, pF pb ca (some ⟨b3, o3, none⟩) cc rc cs rows z → pF pb ca (some ⟨b3, o3, none⟩) cc rc cs rows z from fun z h => h)
        have hnw := HPX.out.noW
        have hge := fun z (hz : pF pb ca (some ⟨b3, o3, none⟩) cc rc cs rows z) => HPL8.out z (HSUB.out z hz)
        replace HL := Lib.hid (HL.out.other hkp fun z hz => ⟨HKP.out z (HSUB.out z hz), hnw z hz, Nat.le_trans HW8.out (hge z hz)⟩)
        replace HXO := Lib.hid (HXO.out.keeps hkp hnw)
        replace HMR := Lib.hid (HMR.out.keeps hkp fun z hz hq => by have := hge z hq; have := HRU.out z hz; omega)
        replace HMC := Lib.hid (HMC.out.keeps hkp fun z hz hq => by have := hge z hq; have := HCU.out z hz; omega)
        have hnx : ¬ (pF pb ca (some ⟨b3, o3, none⟩) cc rc cs rows xb) := fun h => by have := hge xb h; have := HX8.out; omega
        have z0 := (hkp.cell (a := ⟨xb, 0, none⟩) (World.block_lt_of_cell? _ _ x0) hnx).trans x0
        have z1 := (hkp.cell (a := ⟨xb, 1, none⟩) (World.block_lt_of_cell? _ _ x1) hnx).trans x1
        have z2 := (hkp.cell (a := ⟨xb, 2, none⟩) (World.block_lt_of_cell? _ _ x2) hnx).trans x2
        obtain ⟨rows1, hrows1⟩ : ∃ l, rows.set k { R with coef := R.coef.set j x } = l := ⟨_, rfl⟩
        obtain ⟨rs1, hrs1⟩ : ∃ l, upd (fun r : AR => { r with coef := r.coef.set j x.q }) S.rows k = l := ⟨_, rfl⟩
        rw [hrows1, hrs1] at hpx
        replace HSUB := Lib.hid (show ∀ z, pF pb ca (some ⟨b3, o3, none⟩) cc rc cs rows1 z → pF pb ca (some ⟨b3, o3, none⟩) cc rc cs rows z by rw [← hrows1]; exact pF_row HR.out rfl)
        have HRS1 := Lib.hid hrs1
        obtain ⟨R1, hR1⟩ : ∃ R1, rows1[k]? = some R1 := ⟨_, List.getElem?_eq_getElem (by rw [← hrows1, List.length_set]; exact HKR3.out)⟩
        replace HR := Lib.hid hR1
        have HKR4 := Lib.hid (show k < rows1.length by rw [← hrows1, List.length_set]; exact HKR3.out)
        have hb : Below wv.heap.size wv wv.drew := Below.drawn wv 1
        replace HL := Lib.hid (HL.out.below hb)
        replace HPX := Lib.hid (hpx.below hb)
        replace HXO := Lib.hid (HXO.out.below hb)
        replace HMR := Lib.hid (mid_under HMR.out hb)
        replace HMC := Lib.hid (mid_under HMC.out hb)
        replace x0 := hu hb z0
        replace x1 := hu hb z1
        replace x2 := hu hb z2
        obtain ⟨w13, hw13⟩ : ∃ w13, wv.drew = w13 := ⟨_, rfl⟩
        rw [hw13] at x0 x1 x2 ⊢
        rw [hw13] at HL HPX HXO HMR HMC
        have p1 := HPX.out.box.cell 1 rfl
        have k1 : (k : Int) < (rows1.length : Int) := by have := HKR4.out; omega
        have hbd := Below.drawn w13 1
        replace HL := Lib.hid (HL.out.below hbd)
        replace HPX := Lib.hid (HPX.out.below hbd)
        replace HXO := Lib.hid (HXO.out.below hbd)
        replace HMR := Lib.hid (mid_under HMR.out hbd)
        replace HMC := Lib.hid (mid_under HMC.out hbd)
        clear hwv hpx hkp hnw hge hnx z0 z1 z2 hrows1 hrs1 hR1 hb hw13 hbd c0 c1 c2 g0 g1 g2 r0
        go_upto_region 15 with fail
        go_cut [] (fun wx => ∃ rows2 : List Rw, LSt w wx sb SZ K ∧ PBx wx pb ca (some ⟨b3, o3, none⟩) cc rc cs rows2 (S.cols.map (·.cost)) (upd (fun r => { r with rhs := x.q + ((1 : Int) : Rat) }) rs1 k) ∧ (∀ z, pF pb ca (some ⟨b3, o3, none⟩) cc rc cs rows2 z → pF pb ca (some ⟨b3, o3, none⟩) cc rc cs rows z) ∧ x.ok wx ∧ Mid wx 0 3 1 (.slice (some ⟨b1, o1, none⟩) nr cr) nr (rids.map IV) ∧ Mid wx 0 3 1 (.slice (some ⟨b2, o2, none⟩) nc ccp) nc (cids.map IV) ∧ wx.cell? ⟨xb, 0, none⟩ = some (.bool x.s) ∧ wx.cell? ⟨xb, 1, none⟩ = some (.slice x.a x.l x.c) ∧ wx.cell? ⟨xb, 2, none⟩ = some (.slice x.b x.m x.d))
        case first =>
          refine wp_region_held_drew (S := fun W => W.cell? ⟨pb, 1, none⟩ = some (.slice (some ⟨b3, o3, none⟩) rows1.length rc) ∧ W.cell? ⟨xb, 0, none⟩ = some (.bool x.s) ∧ W.cell? ⟨xb, 1, none⟩ = some (.slice x.a x.l x.c) ∧ W.cell? ⟨xb, 2, none⟩ = some (.slice x.b x.m x.d)) (by kernel_rfl) (⟨p1, x0, x1, x2⟩) (fun hHeld => ?_)
          refine tk 0 (some 93) (v := ?_) rfl rfl ?_ ?_
          rotate_left
          · (intro w _; go_simp; (try with_reducible rfl))
          simp only [Act.put, stB, stZ, stS]
          refine tk 1 (some 94) (v := ?_) rfl rfl ?_ ?_
          rotate_left
          · (intro w hSw; (try dsimp only at hSw); ((try obtain ⟨hS0, hS1, hS2, hS3⟩ := hSw); go_simp); (try with_reducible rfl))
          simp only [Act.put, stB, stZ, stS]
          refine tk 2 (some 95) (v := ?_) rfl rfl ?_ ?_
          rotate_left
          · (intro w _; go_simp; (try with_reducible rfl))
          simp only [Act.put, stB, stZ, stS]
          refine tk 3 (some 96) (v := ?_) rfl rfl ?_ ?_
          rotate_left
          · (intro w hSw; (try dsimp only at hSw); ((try obtain ⟨hS0, hS1, hS2, hS3⟩ := hSw); go_simp); (try with_reducible rfl))
          simp only [Act.put, stB, stZ, stS]
          refine wpAnyH_ready (rs := [4]) (by kernel_rfl) (by simp) ?_
          refine (AllReadyH.cons rfl (fun K hK => ?_) AllReadyH.nil)
          go_simp
          refine (vint_any 1 _ (by unfold I64; omega)).mono ?_
          rintro e V1 ⟨v1, rfl, ho, hsm, hq, hb⟩
          unfold Rv.val
          have HV := Lib.hid (show v1.ok V1 ∧ v1.q = ((1 : Int) : Rat) from ⟨ho, hq⟩)
          clear ho hsm hq
          replace HL := Lib.hid (HL.out.below hb)
          replace HPX := Lib.hid (HPX.out.below hb)
          replace HXO := Lib.hid (HXO.out.below hb)
          replace HMR := Lib.hid (mid_under HMR.out hb)
          replace HMC := Lib.hid (mid_under HMC.out hb)
          have hKK := And.intro (hu hb hHeld.1) <| And.intro (hu hb hHeld.2.1) <| And.intro (hu hb hHeld.2.2.1) <| hu hb hHeld.2.2.2
          clear hb
          refine hK.out _ _ (hKK) (fun hHeld2 => ?_)
          clear hK K hHeld
          rename _ => hHeld
          try simp only [Act.put, stB, stZ, stS]
          refine wpAnyH_ready (rs := [5]) (by kernel_rfl) (by simp) ?_
          refine (AllReadyH.cons rfl (fun K hK => ?_) AllReadyH.nil)
          go_simp
          refine (radd_small x v1 1 _ HXO.out HX1.out.1 HX1.out.2 HV.out.1 HV.out.2 (.inl rfl)).mono ?_
          rintro e V2 ⟨u1, rfl, ho, hsm, hq, hb⟩
          unfold Rv.val
          have HU := Lib.hid (show u1.ok V2 ∧ u1.small ∧ u1.q = x.q + ((1 : Int) : Rat) from ⟨ho, hsm, hq⟩)
          clear ho hsm hq HV
          replace HL := Lib.hid (HL.out.below hb)
          replace HPX := Lib.hid (HPX.out.below hb)
          replace HXO := Lib.hid (HXO.out.below hb)
          replace HMR := Lib.hid (mid_under HMR.out hb)
          replace HMC := Lib.hid (mid_under HMC.out hb)
          have hKK := And.intro (hu hb hHeld.1) <| And.intro (hu hb hHeld.2.1) <| And.intro (hu hb hHeld.2.2.1) <| hu hb hHeld.2.2.2
          clear hb
          refine hK.out _ _ (hKK) (fun hHeld2 => ?_)
          clear hK K hHeld
          rename _ => hHeld
          try simp only [Act.put, stB, stZ, stS]
          refine tk 6 (some 99) (v := ?_) rfl rfl ?_ ?_
          rotate_left
          · (intro w hSw; (try dsimp only at hSw); ((try obtain ⟨hS0, hS1, hS2, hS3⟩ := hSw); go_simp); (try with_reducible rfl))
          simp only [Act.put, stB, stZ, stS]
          refine tk 7 (some 100) (v := ?_) rfl rfl ?_ ?_
          rotate_left
          · (intro w _; go_simp; (try with_reducible rfl))
          simp only [Act.put, stB, stZ, stS]
          refine wpAnyH_ready (rs := [8]) (by kernel_rfl) (by simp) ?_
          refine (AllReadyH.cons rfl (fun K hK => ?_) AllReadyH.nil)
          have hpv := HPX.out
          obtain ⟨b9, o9, e9, -, -, -, q2, q3, q4⟩ := prow_get hpv.pa.rowsl k HKR4.out
          cases e9
          have hm9 := hpv.box.mid 1 rfl
          have f2 := hm9.frozen (o3 + k * 5 + 2)
          have f3 := hm9.frozen (o3 + k * 5 + 3)
          have f4 := hm9.frozen (o3 + k * 5 + 4)
          go_simp
          have h3 := hpv.rhs3 HR.out HU.out.1 HU.out.2.1
          rw [HU.out.2.2] at h3
          obtain ⟨hpx, hkp⟩ := h3
          have hnw := HPX.out.noW
          have hge := fun z (hz : pF pb ca (some ⟨b3, o3, none⟩) cc rc cs rows1 z) => HPL8.out z (HSUB.out z hz)
          replace HL := Lib.hid (HL.out.other hkp fun z hz => ⟨HKP.out z (HSUB.out z hz), hnw z hz, Nat.le_trans HW8.out (hge z hz)⟩)
          replace HXO := Lib.hid (HXO.out.keeps hkp hnw)
          replace HMR := Lib.hid (HMR.out.keeps hkp fun z hz hq => by have := hge z hq; have := HRU.out z hz; omega)
          replace HMC := Lib.hid (HMC.out.keeps hkp fun z hz hq => by have := hge z hq; have := HCU.out z hz; omega)
          have hnx : ¬ (pF pb ca (some ⟨b3, o3, none⟩) cc rc cs rows1 xb) := fun h => by have := hge xb h; have := HX8.out; omega
          have z0 := (hkp.cell (a := ⟨xb, 0, none⟩) (World.block_lt_of_cell? _ _ hHeld.2.1) hnx).trans hHeld.2.1
          have z1 := (hkp.cell (a := ⟨xb, 1, none⟩) (World.block_lt_of_cell? _ _ hHeld.2.2.1) hnx).trans hHeld.2.2.1
          have z2 := (hkp.cell (a := ⟨xb, 2, none⟩) (World.block_lt_of_cell? _ _ hHeld.2.2.2) hnx).trans hHeld.2.2.2
          have HSUB2 := Lib.hid (show ∀ z, pF pb ca (some ⟨b3, o3, none⟩) cc rc cs (rows1.set k { R1 with rhs := u1 }) z → pF pb ca (some ⟨b3, o3, none⟩) cc rc cs rows z from fun z h => HSUB.out z (pF_row (k := k) (R := R1) (r' := { R1 with rhs := u1 }) HR.out rfl z h))
          have p9 := hpx.box.cell 1 rfl
          rw [List.length_set] at p9
          replace HPX := Lib.hid hpx
          have hKK := And.intro p9 <| And.intro z0 <| And.intro z1 z2
          clear hpv q2 q3 q4 hm9 f2 f3 f4 hpx hkp hnw hge hnx z0 z1 z2 p9
          refine hK.out _ _ (hKK) (fun hHeld2 => ?_)
          clear hK K hHeld
          rename _ => hHeld
          try simp only [Act.put, stB, stZ, stS]
          refine wpAnyH_done (by kernel_rfl) ?_ _
          (try simp only [Exit.inBlock, Exit.then])
          obtain ⟨g9, g0, g1, g2⟩ := hHeld
          go_wp2_with fail
          go_meet
          exact ⟨_, HL.out, HPX.out, HSUB2.out, HXO.out, HMR.out, HMC.out, g0, g1, g2⟩
        case rest =>
          obtain ⟨w14, hwc⟩ : ∃ W : World, W = wc := ⟨_, rfl⟩
          subst hwc
          clear x0 x1 x2 p1
          obtain ⟨rows2, hl, hpx, hsub, hxo, hmr, hmc, x0, x1, x2⟩ := hcut
          obtain ⟨b5, o5, e5, -, -, -, -⟩ := rv_get hpx.pa.costs j HJC.out
          subst e5
          have p0 := hpx.box.cell 0 rfl
          have l2 : (j : Int) < (cs.length : Int) := by have := HJC.out; omega
          have hbd := Below.drawn w14 1
          have HL := Lib.hid (hl.below hbd)
          have HPX := Lib.hid (hpx.below hbd)
          have HXO := Lib.hid (hxo.below hbd)
          have HMR := Lib.hid (mid_under hmr hbd)
          have HMC := Lib.hid (mid_under hmc hbd)
          have HSUB := Lib.hid hsub
          clear hl hpx hxo hmr hmc hsub hbd
          go_upto_region 16 with fail
          go_cut [] (fun wx => ∃ cs2 : List Rv, LSt w wx sb SZ K ∧ PBx wx pb (some ⟨b5, o5, none⟩) (some ⟨b3, o3, none⟩) cc rc cs2 rows2 ((S.cols.map (·.cost)).set j (x.q + ((2 : Int) : Rat))) (upd (fun r => { r with rhs := x.q + ((1 : Int) : Rat) }) rs1 k) ∧ (∀ z, pF pb (some ⟨b5, o5, none⟩) (some ⟨b3, o3, none⟩) cc rc cs2 rows2 z → pF pb (some ⟨b5, o5, none⟩) (some ⟨b3, o3, none⟩) cc rc cs rows z) ∧ x.ok wx ∧ Mid wx 0 3 1 (.slice (some ⟨b1, o1, none⟩) nr cr) nr (rids.map IV) ∧ Mid wx 0 3 1 (.slice (some ⟨b2, o2, none⟩) nc ccp) nc (cids.map IV) ∧ wx.cell? ⟨xb, 0, none⟩ = some (.bool x.s) ∧ wx.cell? ⟨xb, 1, none⟩ = some (.slice x.a x.l x.c) ∧ wx.cell? ⟨xb, 2, none⟩ = some (.slice x.b x.m x.d))
          case first =>
            refine wp_region_held_drew (S := fun W => W.cell? ⟨pb, 0, none⟩ = some (.slice (some ⟨b5, o5, none⟩) cs.length cc) ∧ W.cell? ⟨xb, 0, none⟩ = some (.bool x.s) ∧ W.cell? ⟨xb, 1, none⟩ = some (.slice x.a x.l x.c) ∧ W.cell? ⟨xb, 2, none⟩ = some (.slice x.b x.m x.d)) (by kernel_rfl) (⟨p0, x0, x1, x2⟩) (fun hHeld => ?_)
            refine tk 0 (some 101) (v := ?_) rfl rfl ?_ ?_
            rotate_left
            · (intro w _; go_simp; (try with_reducible rfl))
            simp only [Act.put, stB, stZ, stS]
            refine tk 1 (some 102) (v := ?_) rfl rfl ?_ ?_
            rotate_left
            · (intro w hSw; (try dsimp only at hSw); ((try obtain ⟨hS0, hS1, hS2, hS3⟩ := hSw); go_simp); (try with_reducible rfl))
            simp only [Act.put, stB, stZ, stS]
            refine tk 2 (some 103) (v := ?_) rfl rfl ?_ ?_
            rotate_left
            · (intro w _; go_simp; (try with_reducible rfl))
            simp only [Act.put, stB, stZ, stS]
            refine tk 3 (some 104) (v := ?_) rfl rfl ?_ ?_
            rotate_left
            · (intro w hSw; (try dsimp only at hSw); ((try obtain ⟨hS0, hS1, hS2, hS3⟩ := hSw); go_simp); (try with_reducible rfl))
            simp only [Act.put, stB, stZ, stS]
            refine wpAnyH_ready (rs := [4]) (by kernel_rfl) (by simp) ?_
            refine (AllReadyH.cons rfl (fun K hK => ?_) AllReadyH.nil)
            go_simp
            refine (vint_any 2 _ (by unfold I64; omega)).mono ?_
            rintro e V1 ⟨v2, rfl, ho, hsm, hq, hb⟩
            unfold Rv.val
            have HV := Lib.hid (show v2.ok V1 ∧ v2.q = ((2 : Int) : Rat) from ⟨ho, hq⟩)
            clear ho hsm hq
            replace HL := Lib.hid (HL.out.below hb)
            replace HPX := Lib.hid (HPX.out.below hb)
            replace HXO := Lib.hid (HXO.out.below hb)
            replace HMR := Lib.hid (mid_under HMR.out hb)
            replace HMC := Lib.hid (mid_under HMC.out hb)
            have hKK := And.intro (hu hb hHeld.1) <| And.intro (hu hb hHeld.2.1) <| And.intro (hu hb hHeld.2.2.1) <| hu hb hHeld.2.2.2
            clear hb
            refine hK.out _ _ (hKK) (fun hHeld2 => ?_)
            clear hK K hHeld
            rename _ => hHeld
            try simp only [Act.put, stB, stZ, stS]
            refine wpAnyH_ready (rs := [5]) (by kernel_rfl) (by simp) ?_
            refine (AllReadyH.cons rfl (fun K hK => ?_) AllReadyH.nil)
            go_simp
            refine (radd_small x v2 2 _ HXO.out HX1.out.1 HX1.out.2 HV.out.1 HV.out.2 (.inr rfl)).mono ?_
            rintro e V2 ⟨u2, rfl, ho, hsm, hq, hb⟩
            unfold Rv.val
            have HU := Lib.hid (show u2.ok V2 ∧ u2.small ∧ u2.q = x.q + ((2 : Int) : Rat) from ⟨ho, hsm, hq⟩)
            clear ho hsm hq HV
            replace HL := Lib.hid (HL.out.below hb)
            replace HPX := Lib.hid (HPX.out.below hb)
            replace HXO := Lib.hid (HXO.out.below hb)
            replace HMR := Lib.hid (mid_under HMR.out hb)
            replace HMC := Lib.hid (mid_under HMC.out hb)
            have hKK := And.intro (hu hb hHeld.1) <| And.intro (hu hb hHeld.2.1) <| And.intro (hu hb hHeld.2.2.1) <| hu hb hHeld.2.2.2
            clear hb
            refine hK.out _ _ (hKK) (fun hHeld2 => ?_)
            clear hK K hHeld
            rename _ => hHeld
            try simp only [Act.put, stB, stZ, stS]
            refine tk 6 (some 107) (v := ?_) rfl rfl ?_ ?_
            rotate_left
            · (intro w hSw; (try dsimp only at hSw); ((try obtain ⟨hS0, hS1, hS2, hS3⟩ := hSw); go_simp); (try with_reducible rfl))
            simp only [Act.put, stB, stZ, stS]
            refine wpAnyH_ready (rs := [7]) (by kernel_rfl) (by simp) ?_
            refine (AllReadyH.cons rfl (fun K hK => ?_) AllReadyH.nil)
            have hpv := HPX.out
            obtain ⟨b9, o9, e9, -, q2, q3, q4⟩ := rv_get hpv.pa.costs j HJC.out
            cases e9
            have hm9 := hpv.box.mid 0 rfl
            have f2 := hm9.frozen (o5 + j * 3)
            have f3 := hm9.frozen (o5 + j * 3 + 1)
            have f4 := hm9.frozen (o5 + j * 3 + 2)
            go_simp
            have h3 := hpv.cost3 HJC.out HU.out.1 HU.out.2.1
            rw [HU.out.2.2] at h3
            obtain ⟨hpx, hkp⟩ := h3
            have hnw := HPX.out.noW
            have hge := fun z (hz : pF pb (some ⟨b5, o5, none⟩) (some ⟨b3, o3, none⟩) cc rc cs rows2 z) => HPL8.out z (HSUB.out z hz)
            replace HL := Lib.hid (HL.out.other hkp fun z hz => ⟨HKP.out z (HSUB.out z hz), hnw z hz, Nat.le_trans HW8.out (hge z hz)⟩)
            replace HXO := Lib.hid (HXO.out.keeps hkp hnw)
            replace HMR := Lib.hid (HMR.out.keeps hkp fun z hz hq => by have := hge z hq; have := HRU.out z hz; omega)
            replace HMC := Lib.hid (HMC.out.keeps hkp fun z hz hq => by have := hge z hq; have := HCU.out z hz; omega)
            have hnx : ¬ (pF pb (some ⟨b5, o5, none⟩) (some ⟨b3, o3, none⟩) cc rc cs rows2 xb) := fun h => by have := hge xb h; have := HX8.out; omega
            have z0 := (hkp.cell (a := ⟨xb, 0, none⟩) (World.block_lt_of_cell? _ _ hHeld.2.1) hnx).trans hHeld.2.1
            have z1 := (hkp.cell (a := ⟨xb, 1, none⟩) (World.block_lt_of_cell? _ _ hHeld.2.2.1) hnx).trans hHeld.2.2.1
            have z2 := (hkp.cell (a := ⟨xb, 2, none⟩) (World.block_lt_of_cell? _ _ hHeld.2.2.2) hnx).trans hHeld.2.2.2
            have HSUB2 := Lib.hid (show ∀ z, pF pb (some ⟨b5, o5, none⟩) (some ⟨b3, o3, none⟩) cc rc (cs.set j u2) rows2 z → pF pb (some ⟨b5, o5, none⟩) (some ⟨b3, o3, none⟩) cc rc cs rows z from fun z h => HSUB.out z (pF_cost (k := j) (v := u2) z h))
            have p9 := hpx.box.cell 0 rfl
            rw [List.length_set] at p9
            replace HPX := Lib.hid hpx
            have hKK := And.intro p9 <| And.intro z0 <| And.intro z1 z2
            clear hpv q2 q3 q4 hm9 f2 f3 f4 hpx hkp hnw hge hnx z0 z1 z2 p9
            refine hK.out _ _ (hKK) (fun hHeld2 => ?_)
            clear hK K hHeld
            rename _ => hHeld
            try simp only [Act.put, stB, stZ, stS]
            refine wpAnyH_done (by kernel_rfl) ?_ _
            (try simp only [Exit.inBlock, Exit.then])
            obtain ⟨g9, g0, g1, g2⟩ := hHeld
            go_wp2_with fail
            go_meet
            exact ⟨_, HL.out, HPX.out, HSUB2.out, HXO.out, HMR.out, HMC.out, g0, g1, g2⟩
          case rest =>
            obtain ⟨w15, hwc⟩ : ∃ W : World, W = wc := ⟨_, rfl⟩
            subst hwc
            clear x0 x1 x2 p0
            obtain ⟨cs2, hl, hpx, -, -, hmr, hmc, -, -, -⟩ := hcut
            have p0 := hpx.box.cell 0 rfl
            have p1 := hpx.box.cell 1 rfl
            have hbd := Below.drawn w15 1
            obtain ⟨G3, hsa3, -, hbl, -, -⟩ := hl
            have HSA3 := Lib.hid (hsa3.below hbd)
            have HBW := Lib.hid (hbl.trans (hbd.mono hbl.size))
            have hpa := hpx.pa.below hbd
            have ec2 : (S.cols.map (·.cost)).set j (x.q + ((2 : Int) : Rat)) = SZ.cols.map (·.cost) := by
              rw [← HSZ.out]
              exact (upd_mapSet (fun c : AC => { c with cost := x.q + ((2 : Int) : Rat) }) (fun c : AC => c.cost) _ (fun _ => rfl) S.cols j).symm
            have er2 : upd (fun r : AR => { r with rhs := x.q + ((1 : Int) : Rat) }) rs1 k = SZ.rows := by rw [← HSZ.out, ← HRS1.out]; rfl
            rw [ec2, er2] at hpa
            have HPA := Lib.hid hpa
            have eri : SZ.rids = rids := by rw [← HSZ.out, three_rids]; exact HRI.out
            have eci : SZ.cids = cids := by rw [← HSZ.out, three_cids]; exact HCI.out
            have hmr2 := mid_under hmr hbd
            have hmc2 := mid_under hmc hbd
            rw [← HNR.out] at hmr2
            rw [← HNC.out] at hmc2
            have HMR := Lib.hid hmr2
            have HMC := Lib.hid hmc2
            have HERI := Lib.hid eri
            have HECI := Lib.hid eci
            have HNR2 := Lib.hid HNR.out
            clear hsa3 hbl hpx hmr hmc hpa ec2 er2 eri eci hmr2 hmc2 hbd
            go_upto_region 17 with fail
            refine wp_region_held_drew (S := fun W => W.cell? ⟨pb, 0, none⟩ = some (.slice (some ⟨b5, o5, none⟩) cs2.length cc) ∧ W.cell? ⟨pb, 1, none⟩ = some (.slice (some ⟨b3, o3, none⟩) rows2.length rc)) (by kernel_rfl) (⟨p0, p1⟩) (fun hHeld => ?_)
            refine tk 0 (some 108) (v := ?_) rfl rfl ?_ ?_
            rotate_left
            · (intro w _; go_simp; (try with_reducible rfl))
            simp only [Act.put, stB, stZ, stS]
            refine tk 2 (some 110) (v := ?_) rfl rfl ?_ ?_
            rotate_left
            · (intro w hSw; (try dsimp only at hSw); ((try obtain ⟨hS0, hS1⟩ := hSw); go_simp); (try with_reducible rfl))
            simp only [Act.put, stB, stZ, stS]
            refine wpAnyH_ready (rs := [1]) (by kernel_rfl) (by simp) ?_
            refine (AllReadyH.cons rfl (fun K hK => ?_) AllReadyH.nil)
            go_simp
            refine (as_prob HSA3.out HWZ.out).mono ?_
            rintro e V1 ⟨F2, ca2, ra2, cc2, rc2, cs9, rows9, rfl, hp2, hF2, hb⟩
            have HP2 := Lib.hid hp2
            replace HSA3 := Lib.hid (HSA3.out.below hb)
            replace HPA := Lib.hid (HPA.out.below hb)
            replace HMR := Lib.hid (mid_under HMR.out hb)
            replace HMC := Lib.hid (mid_under HMC.out hb)
            replace HBW := Lib.hid (HBW.out.trans (hb.mono HBW.out.size))
            have hKK := And.intro (hu hb hHeld.1) (hu hb hHeld.2)
            clear hp2 hF2 hb
            refine hK.out _ _ (hKK) (fun hHeld2 => ?_)
            clear hK K hHeld
            rename _ => hHeld
            try simp only [Act.put, stB, stZ, stS]
            refine wpAnyH_ready (rs := [3]) (by kernel_rfl) (by simp) ?_
            refine (AllReadyH.cons rfl (fun K hK => ?_) AllReadyH.nil)
            go_simp
            refine (same_any _ _ _ ca2 ra2 (some ⟨b5, o5, none⟩) (some ⟨b3, o3, none⟩) cc2 rc2 cc rc cs9 cs2 rows9 rows2 _ _ HP2.out HPA.out).mono ?_
            rintro e V2 ⟨rfl, hb⟩
            replace HSA3 := Lib.hid (HSA3.out.below hb)
            replace HPA := Lib.hid (HPA.out.below hb)
            replace HMR := Lib.hid (mid_under HMR.out hb)
            replace HMC := Lib.hid (mid_under HMC.out hb)
            replace HBW := Lib.hid (HBW.out.trans (hb.mono HBW.out.size))
            have hKK := And.intro (hu hb hHeld.1) (hu hb hHeld.2)
            clear hb
            refine hK.out _ _ (hKK) (fun hHeld2 => ?_)
            clear hK K hHeld
            rename _ => hHeld
            try simp only [Act.put, stB, stZ, stS]
            refine tk 4 (some 112) (v := ?_) rfl rfl ?_ ?_
            rotate_left
            · (intro w _; go_simp; (try with_reducible rfl))
            simp only [Act.put, stB, stZ, stS]
            refine tk 5 (some 113) (v := ?_) rfl rfl ?_ ?_
            rotate_left
            · (intro w _; go_simp; (try with_reducible rfl))
            simp only [Act.put, stB, stZ, stS]
            refine tk 7 (some 115) (v := ?_) rfl rfl ?_ ?_
            rotate_left
            · (intro w _; go_simp; (try with_reducible rfl))
            simp only [Act.put, stB, stZ, stS]
            refine wpAnyH_ready (rs := [6]) (by kernel_rfl) (by simp) ?_
            refine (AllReadyH.cons rfl (fun K hK => ?_) AllReadyH.nil)
            go_simp
            refine (as_rows HSA3.out HWZ.out).mono ?_
            rintro e V3 ⟨an, cn, rfl, hm, hb⟩
            rw [HERI.out] at hm ⊢
            have HMN := Lib.hid (Sl.ofMid hm)
            replace HSA3 := Lib.hid (HSA3.out.below hb)
            replace HPA := Lib.hid (HPA.out.below hb)
            replace HMR := Lib.hid (mid_under HMR.out hb)
            replace HMC := Lib.hid (mid_under HMC.out hb)
            replace HBW := Lib.hid (HBW.out.trans (hb.mono HBW.out.size))
            have hKK := And.intro (hu hb hHeld.1) (hu hb hHeld.2)
            clear hm hb
            refine hK.out _ _ (hKK) (fun hHeld2 => ?_)
            clear hK K hHeld
            rename _ => hHeld
            try simp only [Act.put, stB, stZ, stS]
            refine wpAnyH_ready (rs := [8]) (by kernel_rfl) (by simp) ?_
            refine (AllReadyH.cons rfl (fun K hK => ?_) AllReadyH.nil)
            go_simp
            rw [← HNR.out]
            refine (ints_any an (some ⟨b1, o1, none⟩) cn cr rids rids _ HMN.out (Sl.ofMid HMR.out)).mono ?_
            rintro e V4 ⟨rfl, hb⟩
            rw [decide_eq_true rfl]
            clear HMN
            replace HSA3 := Lib.hid (HSA3.out.below hb)
            replace HPA := Lib.hid (HPA.out.below hb)
            replace HMR := Lib.hid (mid_under HMR.out hb)
            replace HMC := Lib.hid (mid_under HMC.out hb)
            replace HBW := Lib.hid (HBW.out.trans (hb.mono HBW.out.size))
            have hKK := And.intro (hu hb hHeld.1) (hu hb hHeld.2)
            clear hb
            refine hK.out _ _ (hKK) (fun hHeld2 => ?_)
            clear hK K hHeld
            rename _ => hHeld
            try simp only [Act.put, stB, stZ, stS]
            refine tk 9 (some 117) (v := ?_) rfl rfl ?_ ?_
            rotate_left
            · (intro w _; go_simp; (try with_reducible rfl))
            simp only [Act.put, stB, stZ, stS]
            refine tk 10 (some 118) (v := ?_) rfl rfl ?_ ?_
            rotate_left
            · (intro w _; go_simp; (try with_reducible rfl))
            simp only [Act.put, stB, stZ, stS]
            refine tk 11 (some 119) (v := ?_) rfl rfl ?_ ?_
            rotate_left
            · (intro w _; go_simp; (try with_reducible rfl))
            simp only [Act.put, stB, stZ, stS]
            refine tk 13 (some 121) (v := ?_) rfl rfl ?_ ?_
            rotate_left
            · (intro w _; go_simp; (try with_reducible rfl))
            simp only [Act.put, stB, stZ, stS]
            refine wpAnyH_ready (rs := [12]) (by kernel_rfl) (by simp) ?_
            refine (AllReadyH.cons rfl (fun K hK => ?_) AllReadyH.nil)
            go_simp
            refine (as_cols HSA3.out HWZ.out).mono ?_
            rintro e V5 ⟨an, cn, rfl, hm, hb⟩
            rw [HECI.out] at hm ⊢
            have HMN := Lib.hid (Sl.ofMid hm)
            replace HSA3 := Lib.hid (HSA3.out.below hb)
            replace HPA := Lib.hid (HPA.out.below hb)
            replace HMR := Lib.hid (mid_under HMR.out hb)
            replace HMC := Lib.hid (mid_under HMC.out hb)
            replace HBW := Lib.hid (HBW.out.trans (hb.mono HBW.out.size))
            have hKK := And.intro (hu hb hHeld.1) (hu hb hHeld.2)
            clear hm hb
            refine hK.out _ _ (hKK) (fun hHeld2 => ?_)
            clear hK K hHeld
            rename _ => hHeld
            try simp only [Act.put, stB, stZ, stS]
            refine wpAnyH_ready (rs := [14]) (by kernel_rfl) (by simp) ?_
            refine (AllReadyH.cons rfl (fun K hK => ?_) AllReadyH.nil)
            go_simp
            rw [← HNC.out]
            refine (ints_any an (some ⟨b2, o2, none⟩) cn ccp cids cids _ HMN.out (Sl.ofMid HMC.out)).mono ?_
            rintro e V6 ⟨rfl, hb⟩
            rw [decide_eq_true rfl]
            clear HMN
            replace HSA3 := Lib.hid (HSA3.out.below hb)
            replace HPA := Lib.hid (HPA.out.below hb)
            replace HMR := Lib.hid (mid_under HMR.out hb)
            replace HMC := Lib.hid (mid_under HMC.out hb)
            replace HBW := Lib.hid (HBW.out.trans (hb.mono HBW.out.size))
            have hKK := And.intro (hu hb hHeld.1) (hu hb hHeld.2)
            clear hb
            refine hK.out _ _ (hKK) (fun hHeld2 => ?_)
            clear hK K hHeld
            rename _ => hHeld
            try simp only [Act.put, stB, stZ, stS]
            refine tk 15 (some 123) (v := ?_) rfl rfl ?_ ?_
            rotate_left
            · (intro w _; go_simp; (try with_reducible rfl))
            simp only [Act.put, stB, stZ, stS]
            refine tk 16 (some 8) (v := ?_) rfl rfl ?_ ?_
            rotate_left
            · (intro w _; go_simp; (try with_reducible rfl))
            simp only [Act.put, stB, stZ, stS]
            refine wpAnyH_done (by kernel_rfl) ?_ _
            (try simp only [Exit.inBlock, Exit.then])
            clear hHeld
            go_wp2_with fail
            go_ret
            exact ⟨rfl, HBW.out⟩
end Go.Proofs.YtaehklhbokocbaaGreatDoor
