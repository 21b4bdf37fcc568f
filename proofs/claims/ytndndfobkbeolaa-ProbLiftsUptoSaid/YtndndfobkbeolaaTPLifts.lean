/-
 ProbLifts of actuarylaw16 answers true; the conditions: what is handed in is in memory, and is not too much.
 Printed by a program of this repository (wip/pc8.py).
-/
import Derived.Test.YtndndfobkbeolaaTG
import Derived.Test.YtndndfobkbeolaaTC
import Derived.Test.YtndndfobkbeolaaTV
import Derived.Test.YtndndfobkbeolaaTL
import Derived.Test.YtndndfobkbeolaaTK
set_option linter.unusedVariables false
set_option linter.unusedSimpArgs false
namespace Go.Proofs.Ytndndfobkbeolaa
open Go.RowKit Go.Extern.Stop Go.Stop Go.Extern
theorem Short.long {q : Rat} (h : Short q) : Long 1 q := ⟨h.1, h.2⟩
theorem VecW.till {w : World} {a : Option Addr} {n c : Nat} {vs : List Rv} (h : VecW w a n c vs) (m : Nat) (hm : m ≤ n) : VecW w a m c (vs.take m) :=
 ⟨by rw [List.length_take, h.len]; omega, by have h1 := h.sl.cut m hm; rwa [flat_take Rv.cells 3 rvCells_len] at h1, fun v hv => h.ok v (List.mem_of_mem_take hv)⟩
set_option maxRecDepth 100000 in
set_option maxHeartbeats 16000000 in
theorem probLifts_any (xa : Option Addr) (cn xc : Nat) (ra : Option Addr) (rn rc : Nat) (cost : List Fr) (lines : List LRow) (ya : Option Addr) (yn yc : Nat) (fs : List Fr) (w : World) (h : RawW w xa cn xc ra rn rc cost lines) (hy : FrW w ya yn yc fs)
  (hln : ∀ r, r ∈ lines → r.n ≤ 1100000) (hyn : yn ≤ 1100000) :
  Calls Try.prog 4 #[.agg #[.slice xa cn xc, .slice ra rn rc], .slice ya yn yc] w fun e w' => e = .returned (.bool true) ∧ Below w.heap.size w w' := by
 obtain ⟨m, hm⟩ : ∃ m, min cn 5 = m := ⟨_, rfl⟩
 obtain ⟨n, hn⟩ : ∃ n, min rn 4 = n := ⟨_, rfl⟩
 have hm5 : m ≤ 5 := by omega
 have hn4 : n ≤ 4 := by omega
 have hmc : m ≤ cn := by omega
 have hnr : n ≤ rn := by omega
 have HRT := Lib.hid (fun (W : World) (hb : Below w.heap.size w W) => (show Calls Try.prog 20 #[.agg #[.slice xa cn xc, .slice ra rn rc]] W (RightR m n (cost.take m) (lines.take n) W) from by
  have h1 := right_any xa cn xc ra rn rc cost lines W (h.below hb) hln
  rw [hm, hn] at h1
  exact h1))
 have hcut := h.cut m n hmc hnr
 have HSC := Lib.hid (show ∀ q, q ∈ (cost.take m).map fracQ → Short q from short_frac hcut.cost.ok)
 have HRL := Lib.hid (fun (rows : List PRow) (hr : rows.map prowQ = ((lines.take n).map lineQ).map (rightQ m)) => rightL_rows hm5 hcut.ok hr)
 have HMY := Lib.hid (fun (W : World) (hb : Below w.heap.size w W) => mk10_any ya yn yc fs W (hy.below hb).sl hy.len hy.ok hyn)
 have HLY := Lib.hid (show AllL 1 (fs.map fracQ) from allL_frac hy.ok)
 obtain ⟨w1, hw1⟩ : ∃ w1, w.alloc (.cells #[.slice xa cn xc, .slice ra rn rc] 25) = w1 := ⟨_, rfl⟩
 obtain ⟨qb, hqb⟩ : ∃ qb, w.heap.size = qb := ⟨_, rfl⟩
 have HQB := Lib.hid (show w1.heap[qb]? = some (.cells #[.slice xa cn xc, .slice ra rn rc] 25 (0, 0)) by rw [← hw1, ← hqb]; exact heap_alloc_new w _)
 have HB1 := Lib.hid (show Below w.heap.size w w1 by rw [← hw1]; exact belowBox w _)
 have HAW := Lib.hid (awake_any w1)
 have HW1 := Lib.hid hw1
 have HQE := Lib.hid hqb
 clear h hy hln hm hn hmc hnr hcut hw1 hqb
 go_enter Try.func4, Try.ntmps4
 go_upto_region 1 with fail
 (try simp only [HW1.out])
 (try simp only [HQE.out])
 clear HW1 HQE
 go_wp2_with fail
 refine HAW.out.mono ?_
 rintro e w2 ⟨rfl, hb⟩
 replace HQB := Lib.hid ((hb.block qb (lt_of_block HQB.out)).trans HQB.out)
 replace HB1 := Lib.hid (bthen HB1.out hb)
 have q0 := cell_of_block (j := 0) HQB.out rfl
 have q1 := cell_of_block (j := 1) HQB.out rfl
 clear hb HAW
 go_wp2_with fail
 clear q0 q1
 refine (HRT.out w2 HB1.out).mono ?_
 rintro e w3 ⟨ca, cc, pa, pc, cs, rows, rfl, hpr, hcq, hrq⟩
 have hal := belowBox w3 (.cells #[.slice ca m cc, .slice pa n pc] 31)
 have hpw := hpr.prw.below hal
 have hrl := HRL.out rows hrq
 obtain ⟨T, hT⟩ : ∃ T, rows.map prowQ = T := ⟨_, rfl⟩
 obtain ⟨S, hS⟩ : ∃ S, slacks (kindsT T) = S := ⟨_, rfl⟩
 have hrowsl : rows.length = n := hpw.len
 have hrn : ∀ r, r ∈ rows → r.n = m := fun r hr => by
  have h1 := (hpw.ok r hr).vec.len
  have h2 := hrl.len r hr
  rw [qs_len] at h2
  omega
 have HT := Lib.hid hT
 have HS := Lib.hid hS
 have hS4 : S ≤ 4 := by
  have h1 := slacks_le (kindsT T)
  have h2 : (kindsT T).length = n := by unfold kindsT; rw [List.length_map, ← hT, List.length_map, hrowsl]
  omega
 have HMF := Lib.hid (mayF_right hm5 (by omega) fun r hr => ⟨hrn r hr, hrl.kind r hr⟩)
 have HRN := Lib.hid hrn
 have HRK := Lib.hid hrl.kind
 have HRLEN := Lib.hid hrowsl
 have HRQ := Lib.hid (show ∀ r, r ∈ rows → AllL 1 (qs r.coef) ∧ Long 1 r.rhs.q ∧ (qs r.coef).length = m from fun r hr => ⟨fun q hq => (hrl.coef r hr q hq).long, (hrl.rhs r hr).long, hrl.len r hr⟩)
 have HTL := Lib.hid (show ∀ t, t ∈ T → AllL 1 t.1 ∧ Long 1 t.2.2 ∧ t.1.length ≤ 5 from fun t ht => by
  rw [← hT] at ht
  obtain ⟨r, hr, rfl⟩ := List.mem_map.1 ht
  exact ⟨fun q hq => (hrl.coef r hr q hq).long, (hrl.rhs r hr).long, by have := hrl.len r hr; show (qs r.coef).length ≤ 5; omega⟩)
 have HCQ := Lib.hid (show AllL 1 (qs cs) from fun q hq => (HSC.out q (by rw [← hcq]; exact hq)).long)
 have hcsl : (qs cs).length = m := by rw [qs_len]; exact hpw.cost.len
 have HCSL := Lib.hid hcsl
 have HPW := Lib.hid (fun (W : World) (hb : Below (w3.alloc (.cells #[.slice ca m cc, .slice pa n pc] 31)).heap.size (w3.alloc (.cells #[.slice ca m cc, .slice pa n pc] 31)) W) => hpw.below hb)
 have HPX := Lib.hid (heap_alloc_new w3 (.cells #[.slice ca m cc, .slice pa n pc] 31))
 have HB4 := Lib.hid (bthen (bthen HB1.out hpr.bel) hal)
 clear hpr hcq hrq hal hpw hrl hT hS hrowsl hrn hcsl HRT HSC HRL HB1 HQB
 go_upto_region 4 with fail
 generalize w3.heap.size = pb at HPX ⊢
 generalize w3.alloc (.cells #[.slice ca m cc, .slice pa n pc] 31) = w4 at HPX HPW HB4 ⊢
 have p0 := cell_of_block (j := 0) HPX.out rfl
 have p1 := cell_of_block (j := 1) HPX.out rfl
 go_wp2_with fail
 clear p0 p1
 refine (standard_ok ca m cc pa n pc cs rows w4 (HPW.out w4 (Below.refl _ _)) HMF.out).mono ?_
 rintro e w5 ⟨ma, mc, cols, ba, bc, sca, scc, la, lc, ms, bs, scs, ls, rfl, hstd, his, hb⟩
 unfold StdV
 have hal := belowBox w5 (.cells #[.slice ma n mc, .int .i64 cols, .slice ba n bc, .slice sca cols scc, .int .i64 m, .slice la n lc] 59)
 have HSW0 := Lib.hid (hstd.below hal)
 have HIS := Lib.hid his
 have HSX := Lib.hid (heap_alloc_new w5 (.cells #[.slice ma n mc, .int .i64 cols, .slice ba n bc, .slice sca cols scc, .int .i64 m, .slice la n lc] 59))
 have HBP := Lib.hid (bthen hb hal)
 have hcols : cols = m + S := by have h1 := his.cols; rw [kinds_rows, HT.out, HS.out] at h1; exact h1
 have hcols9 : cols ≤ 9 := by omega
 have HCOLS := Lib.hid hcols
 clear hstd his hal hb hcols
 go_upto_region 5 with fail
 generalize w5.heap.size = sb at HSX ⊢
 generalize w5.alloc (.cells #[.slice ma n mc, .int .i64 cols, .slice ba n bc, .slice sca cols scc, .int .i64 m, .slice la n lc] 59) = w6 at HSX HSW0 HBP ⊢
 go_wp2_with fail
 refine (HMY.out w6 (bthen HB4.out HBP.out)).mono ?_
 rintro e w7 ⟨ua, uc, vs, rfl, hvb⟩
 have HPW7 := Lib.hid (fun (W : World) (hb : Below w7.heap.size w7 W) => HPW.out W (bthen HBP.out (bthen hvb.bel hb)))
 have HSW := Lib.hid (fun (W : World) (hb : Below w7.heap.size w7 W) => (HSW0.out.below hvb.bel).below hb)
 have HXV := Lib.hid (fun (W : World) (hb : Below w7.heap.size w7 W) => hvb.vec.below hb)
 have hpx := ((bthen HBP.out hvb.bel).block pb (lt_of_block HPX.out)).trans HPX.out
 have hsx := (hvb.bel.block sb (lt_of_block HSX.out)).trans HSX.out
 have HPC := Lib.hid (fun (W : World) (hb : Below w7.heap.size w7 W) => (show W.cell? ⟨pb, 0, none⟩ = some (.slice ca m cc) ∧ W.cell? ⟨pb, 1, none⟩ = some (.slice pa n pc) from ⟨hu hb (cell_of_block (j := 0) hpx rfl), hu hb (cell_of_block (j := 1) hpx rfl)⟩))
 have HSCL := Lib.hid (fun (W : World) (hb : Below w7.heap.size w7 W) => (show W.cell? ⟨sb, 0, none⟩ = some (.slice ma n mc) ∧ W.cell? ⟨sb, 1, none⟩ = some (.int .i64 cols) ∧ W.cell? ⟨sb, 2, none⟩ = some (.slice ba n bc) ∧ W.cell? ⟨sb, 3, none⟩ = some (.slice sca cols scc) ∧ W.cell? ⟨sb, 4, none⟩ = some (.int .i64 m) ∧ W.cell? ⟨sb, 5, none⟩ = some (.slice la n lc) from ⟨hu hb (cell_of_block (j := 0) hsx rfl), hu hb (cell_of_block (j := 1) hsx rfl), hu hb (cell_of_block (j := 2) hsx rfl), hu hb (cell_of_block (j := 3) hsx rfl), hu hb (cell_of_block (j := 4) hsx rfl), hu hb (cell_of_block (j := 5) hsx rfl)⟩))
 have HB5 := Lib.hid (bthen HB4.out (bthen HBP.out hvb.bel))
 have HVQ := Lib.hid (show AllL 1 (qs vs) by rw [hvb.q]; exact HLY.out)
 have hyl := hvb.vec.sl.lenI.1
 have HVLEN := Lib.hid (show (qs vs).length = yn by rw [qs_len]; exact hvb.len)
 clear hvb hpx hsx HPW HSW0 HMY HB4 HBP HPX HSX HLY
 obtain ⟨s0, s1, s2, s3, s4, s5⟩ := HSCL.out w7 (Below.refl _ _)
 obtain ⟨p0, p1⟩ := HPC.out w7 (Below.refl _ _)
 by_cases hym : yn = m
 ·
  subst hym
  have hstd := lift_std HIS.out HT.out HS.out (fun r hr => (HRQ.out r hr).2.2) HVLEN.out
  obtain ⟨-, hlift, hcst, hsum, hlse, htab⟩ := hstd
  obtain ⟨Z, hZ⟩ : ∃ Z, qs vs ++ slackR (qs vs) T = Z := ⟨_, rfl⟩
  rw [hZ] at hlift hsum
  have HLIFT := Lib.hid hlift
  have HSUM := Lib.hid hsum
  have HCST := Lib.hid hcst
  have HZ := Lib.hid hZ
  have HZL := Lib.hid (show AllL 40 Z by rw [← hZ]; exact slackR_long HTL.out HVQ.out)
  have HML := Lib.hid (show ∀ r, r ∈ ms → AllL 1 (qs r.vs) ∧ r.vs.length ≤ 9 from fun r hr => ⟨tab_long (fun t ht => (HTL.out t ht).1) _ (by rw [← htab]; exact List.mem_map_of_mem hr), by have h1 := (HSW.out w7 (Below.refl _ _)).mat.ok r hr; have h2 := h1.1.len; omega⟩)
  have HBL := Lib.hid (show AllL 1 (qs bs) from fun q hq => by
   have h1 := HIS.out.b
   rw [h1] at hq
   obtain ⟨r, hr, rfl⟩ := List.mem_map.1 hq
   exact (HRQ.out r hr).2.1)
  have hz0 : AllL 1 (qs vs ++ List.replicate S 0) := HVQ.out.append (allL_zeros S)
  have HLF := Lib.hid (fun (W : World) (hb : Below w7.heap.size w7 W) => lift_any ma n mc cols ba bc sca scc yn la lc ms bs scs ls S ua uc vs W (HSW.out W hb) (HXV.out W hb) HCOLS.out.symm (by omega) (by omega) (fun x hx => by
    rw [hlse] at hx
    obtain ⟨i, hi⟩ := List.mem_iff_getElem?.1 hx
    rcases lefts_get _ _ _ _ hi with h1 | h1
    ·
     exact .inl h1
    ·
     rw [HS.out] at h1; right; have := HCOLS.out; omega)
   (fun r hr => canDot_long (HML.out r hr).1 hz0 (by rw [qs_len]; exact (HML.out r hr).2) (by omega)) (canLift_long HML.out HBL.out hz0 (by omega)))
  rw [HLIFT.out] at HLF
  clear hlift hsum hcst hlse htab hz0 hZ
  go_wp2_with fail
  refine (HLF.out w7 (Below.refl _ _)).mono ?_
  rintro e w8 ⟨za, zc, zs, rfl, hz⟩
  have HZB := Lib.hid hz
  have HZV := Lib.hid (fun (W : World) (hb : Below w8.heap.size w8 W) => hz.vec.below hb)
  have HZQ := Lib.hid (show qs zs = Z from hz.q)
  have HBR := Lib.hid hz.bel
  clear hz HLF s0 s1 s2 s3 s4 s5 p0 p1
  obtain ⟨s0, s1, s2, s3, s4, s5⟩ := HSCL.out w8 HBR.out
  obtain ⟨p0, p1⟩ := HPC.out w8 HBR.out
  go_wp2_with fail
  refine (times_any ma n mc cols ms za zc zs w8 (HSW.out w8 HBR.out).mat (HZV.out w8 (Below.refl _ _)) (fun r hr => by rw [HZQ.out]; exact canDot_long (HML.out r hr).1 HZL.out (by rw [qs_len]; exact (HML.out r hr).2) (by omega)) (by omega)).mono ?_
  rintro e w9 ⟨ta, tc, us, rfl, hts⟩
  have HTQ0 := Lib.hid (show qs us = ms.map fun r => dotQ (qs r.vs) Z by rw [hts.q, HZQ.out])
  have HTV := Lib.hid (fun (W : World) (hb : Below w9.heap.size w9 W) => hts.vec.below hb)
  have HZV9 := Lib.hid (fun (W : World) (hb : Below w9.heap.size w9 W) => HZV.out W (bthen hts.bel hb))
  have HB79 := Lib.hid (bthen HBR.out hts.bel)
  obtain ⟨JN, hJN⟩ : ∃ JN : Nat → Bool, ∀ k, JN k = ((rows.take k).all fun r => decide (r.kind ≠ 3) || rowHolds r vs yn) := ⟨_, fun _ => rfl⟩
  have HJN := Lib.hid hJN
  clear hts hJN HBR HZV HZB s0 s1 s2 s3 s4 s5 p0 p1
  go_wp2_with fail
  go_loopw [13, 14] (fun v13 v14 wr => ∃ k : Nat, k ≤ n ∧ v14 = .int .i64 k ∧ v13 = .bool (JN k) ∧ Below w9.heap.size w9 wr) (fun _ v14 _ => n - (intOf v14).toNat)
  case atStart => exact ⟨0, Nat.zero_le _, rfl, by rw [HJN.out]; rfl, Below.refl _ _⟩
  case round =>
   obtain ⟨k, hk, rfl, rfl, hb⟩ := hrel
   have HBR := Lib.hid hb
   obtain ⟨p0, p1⟩ := HPC.out wr (bthen HB79.out hb)
   by_cases hlt : k < n
   ·
    obtain ⟨b, o, r, e1, e2, hbl, x0, x1, x2, x3, x4, hok⟩ := (HPW7.out wr (bthen HB79.out hb)).get k hlt
    have HR2 := Lib.hid e2
    have HRW := Lib.hid (fun (W : World) (hb : Below w9.heap.size w9 W) => (show r.ok W from (HPW7.out W (bthen HB79.out hb)).ok r (List.mem_of_getElem? e2)))
    have HCN := Lib.hid (show CanDot (qs r.coef) (qs vs) ∧ CanAdd (dotQ (qs r.coef) (qs vs)) (-r.rhs.q) from by
     obtain ⟨h1, h2, h3⟩ := HRQ.out r (List.mem_of_getElem? e2)
     exact ⟨canDot_long h1 HVQ.out (n := 5) (by omega) (by omega), canAdd_long (B := 16) ((dot_long _ _ h1 HVQ.out).mono (by omega)) h2.neg (by omega)⟩)
    obtain ⟨HQ, hHQ⟩ : ∃ h, rowHolds r vs yn = h := ⟨_, rfl⟩
    have HHO := Lib.hid (fun (W : World) (hb : Below w9.heap.size w9 W) => (show Calls Try.prog 17 #[.agg #[.slice r.a r.n r.c, .int .i64 r.kind, .bool r.rhs.s, .slice r.rhs.a r.rhs.l r.rhs.c, .slice r.rhs.b r.rhs.m r.rhs.d], .slice ua yn uc] W fun e w' => e = .returned (.bool HQ) ∧ Below W.heap.size W w' from by
     rw [← hHQ]; exact holds_any r ua yn uc vs W (HRW.out W hb) (HXV.out W (bthen HB79.out hb)) (fun _ => HCN.out)))
    have HJS0 := Lib.hid (show JN (k + 1) = (JN k && (decide (r.kind ≠ 3) || HQ)) by rw [HJN.out, HJN.out, List.take_add_one, e2, Option.toList_some, List.all_append]; simp [hHQ])
    have i0 : (0 : Int) ≤ (k : Int) := by omega
    have i1 : (k : Int) < (n : Int) := by omega
    subst e1
    clear hok hHQ hb hbl e2
    by_cases hk3 : r.kind = 3
    ·
     have t3 : (r.kind == 3) = true := by rw [hk3]; rfl
     cases hJ : JN k with
     | true =>
      have HJS := Lib.hid (show JN (k + 1) = HQ by rw [HJS0.out, hJ, hk3]; simp)
      clear hk3 hJ
      go_wp2_with fail
      refine (HHO.out wr HBR.out).mono ?_
      rintro e w11 ⟨rfl, hb⟩
      replace HBR := Lib.hid (bthen HBR.out hb)
      clear hb p0 p1 x0 x1 x2 x3 x4
      obtain ⟨p0, p1⟩ := HPC.out w11 (bthen HB79.out HBR.out)
      obtain ⟨wY, hwY⟩ : ∃ W : World, w11 = W := ⟨_, rfl⟩
      rw [hwY] at p0 p1 HBR ⊢
      have s2 := (HSCL.out wY (bthen HB79.out HBR.out)).2.2.1
      go_upto_region 18 with fail
      refine wp_region_held_drew (S := fun W => W.cell? ⟨sb, 2, none⟩ = some (.slice ba n bc)) (by kernel_rfl) (s2) (fun hHeld => ?_)
      have HB := Lib.hid (show Below wY.heap.size wY wY.drew from Below.drawn wY 1)
      generalize wY.drew = wd at HB hHeld ⊢
      refine tk 0 (some 92) (v := ?_) rfl rfl ?_ ?_
      rotate_left
      ·
       (intro w _; go_simp; (try with_reducible rfl))
      simp only [Act.put, stB, stZ, stS]
      refine tk 1 (some 93) (v := ?_) rfl rfl ?_ ?_
      rotate_left
      ·
       (intro w _; go_simp; (try with_reducible rfl))
      simp only [Act.put, stB, stZ, stS]
      refine tk 2 (some 94) (v := ?_) rfl rfl ?_ ?_
      rotate_left
      ·
       (intro w _; go_simp; (try with_reducible rfl))
      simp only [Act.put, stB, stZ, stS]
      refine takeH (i := 3) (d := (some 95)) (v := undef) rfl rfl (by kernel_rfl) (by kernel_rfl) (by kernel_rfl) (fun _ _ _ h => h) (Or.inr ⟨by rfl, rfl⟩) (by assumption) ?_
      simp only [Act.put, stB, stZ, stS]
      refine takeH (i := 4) (d := (some 96)) (v := undef) rfl rfl (by kernel_rfl) (by kernel_rfl) (by kernel_rfl) (fun _ _ _ h => h) (Or.inr ⟨by rfl, rfl⟩) (by assumption) ?_
      simp only [Act.put, stB, stZ, stS]
      refine takeH (i := 5) (d := (some 97)) (v := undef) rfl rfl (by kernel_rfl) (by kernel_rfl) (by kernel_rfl) (fun _ _ _ h => h) (Or.inr ⟨by rfl, rfl⟩) (by assumption) ?_
      simp only [Act.put, stB, stZ, stS]
      refine takeH (i := 6) (d := (some 98)) (v := undef) rfl rfl (by kernel_rfl) (by kernel_rfl) (by kernel_rfl) (fun _ _ _ h => h) (Or.inr ⟨by rfl, rfl⟩) (by assumption) ?_
      simp only [Act.put, stB, stZ, stS]
      refine takeH (i := 7) (d := (some 99)) (v := undef) rfl rfl (by kernel_rfl) (by kernel_rfl) (by kernel_rfl) (fun _ _ _ h => h) (Or.inr ⟨by rfl, rfl⟩) (by assumption) ?_
      simp only [Act.put, stB, stZ, stS]
      refine takeH (i := 8) (d := (some 100)) (v := undef) rfl rfl (by kernel_rfl) (by kernel_rfl) (by kernel_rfl) (fun _ _ _ h => h) (Or.inr ⟨by rfl, rfl⟩) (by assumption) ?_
      simp only [Act.put, stB, stZ, stS]
      refine takeH (i := 9) (d := (some 101)) (v := undef) rfl rfl (by kernel_rfl) (by kernel_rfl) (by kernel_rfl) (fun _ _ _ h => h) (Or.inr ⟨by rfl, rfl⟩) (by assumption) ?_
      simp only [Act.put, stB, stZ, stS]
      refine takeH (i := 10) (d := (some 102)) (v := undef) rfl rfl (by kernel_rfl) (by kernel_rfl) (by kernel_rfl) (fun _ _ _ h => h) (Or.inr ⟨by rfl, rfl⟩) (by assumption) ?_
      simp only [Act.put, stB, stZ, stS]
      refine takeH (i := 11) (d := (some 103)) (v := undef) rfl rfl (by kernel_rfl) (by kernel_rfl) (by kernel_rfl) (fun _ _ _ h => h) (Or.inr ⟨by rfl, rfl⟩) (by assumption) ?_
      simp only [Act.put, stB, stZ, stS]
      refine takeH (i := 12) (d := (some 104)) (v := undef) rfl rfl (by kernel_rfl) (by kernel_rfl) (by kernel_rfl) (fun _ _ _ h => h) (Or.inr ⟨by rfl, rfl⟩) (by assumption) ?_
      simp only [Act.put, stB, stZ, stS]
      refine takeH (i := 13) (d := (some 105)) (v := undef) rfl rfl (by kernel_rfl) (by kernel_rfl) (by kernel_rfl) (fun _ _ _ h => h) (Or.inr ⟨by rfl, rfl⟩) (by assumption) ?_
      simp only [Act.put, stB, stZ, stS]
      refine tk 14 (some 106) (v := ?_) rfl rfl ?_ ?_
      rotate_left
      ·
       (intro w _; go_simp; (try with_reducible rfl))
      simp only [Act.put, stB, stZ, stS]
      refine wpAnyH_done (by kernel_rfl) ?_ _
      (try simp only [Exit.inBlock, Exit.then])
      clear hHeld
      go_wp2_with fail
      go_roundw
      case rel => exact ⟨k + 1, by omega, by go_num, by rw [HJS.out], bthen HBR.out HB.out⟩
      case measure => simp [intOf]; omega
     | false =>
      have HJS := Lib.hid (show JN (k + 1) = false by rw [HJS0.out, hJ]; rfl)
      clear hk3 hJ
      obtain ⟨wY, hwY⟩ : ∃ W : World, wr = W := ⟨_, rfl⟩
      rw [hwY] at p0 p1 x0 x1 x2 x3 x4 HBR ⊢
      have s2 := (HSCL.out wY (bthen HB79.out HBR.out)).2.2.1
      go_upto_region 18 with fail
      refine wp_region_held_drew (S := fun W => W.cell? ⟨sb, 2, none⟩ = some (.slice ba n bc)) (by kernel_rfl) (s2) (fun hHeld => ?_)
      have HB := Lib.hid (show Below wY.heap.size wY wY.drew from Below.drawn wY 1)
      generalize wY.drew = wd at HB hHeld ⊢
      refine tk 0 (some 92) (v := ?_) rfl rfl ?_ ?_
      rotate_left
      ·
       (intro w _; go_simp; (try with_reducible rfl))
      simp only [Act.put, stB, stZ, stS]
      refine tk 1 (some 93) (v := ?_) rfl rfl ?_ ?_
      rotate_left
      ·
       (intro w _; go_simp; (try with_reducible rfl))
      simp only [Act.put, stB, stZ, stS]
      refine tk 2 (some 94) (v := ?_) rfl rfl ?_ ?_
      rotate_left
      ·
       (intro w _; go_simp; (try with_reducible rfl))
      simp only [Act.put, stB, stZ, stS]
      refine takeH (i := 3) (d := (some 95)) (v := undef) rfl rfl (by kernel_rfl) (by kernel_rfl) (by kernel_rfl) (fun _ _ _ h => h) (Or.inr ⟨by rfl, rfl⟩) (by assumption) ?_
      simp only [Act.put, stB, stZ, stS]
      refine takeH (i := 4) (d := (some 96)) (v := undef) rfl rfl (by kernel_rfl) (by kernel_rfl) (by kernel_rfl) (fun _ _ _ h => h) (Or.inr ⟨by rfl, rfl⟩) (by assumption) ?_
      simp only [Act.put, stB, stZ, stS]
      refine takeH (i := 5) (d := (some 97)) (v := undef) rfl rfl (by kernel_rfl) (by kernel_rfl) (by kernel_rfl) (fun _ _ _ h => h) (Or.inr ⟨by rfl, rfl⟩) (by assumption) ?_
      simp only [Act.put, stB, stZ, stS]
      refine takeH (i := 6) (d := (some 98)) (v := undef) rfl rfl (by kernel_rfl) (by kernel_rfl) (by kernel_rfl) (fun _ _ _ h => h) (Or.inr ⟨by rfl, rfl⟩) (by assumption) ?_
      simp only [Act.put, stB, stZ, stS]
      refine takeH (i := 7) (d := (some 99)) (v := undef) rfl rfl (by kernel_rfl) (by kernel_rfl) (by kernel_rfl) (fun _ _ _ h => h) (Or.inr ⟨by rfl, rfl⟩) (by assumption) ?_
      simp only [Act.put, stB, stZ, stS]
      refine takeH (i := 8) (d := (some 100)) (v := undef) rfl rfl (by kernel_rfl) (by kernel_rfl) (by kernel_rfl) (fun _ _ _ h => h) (Or.inr ⟨by rfl, rfl⟩) (by assumption) ?_
      simp only [Act.put, stB, stZ, stS]
      refine takeH (i := 9) (d := (some 101)) (v := undef) rfl rfl (by kernel_rfl) (by kernel_rfl) (by kernel_rfl) (fun _ _ _ h => h) (Or.inr ⟨by rfl, rfl⟩) (by assumption) ?_
      simp only [Act.put, stB, stZ, stS]
      refine takeH (i := 10) (d := (some 102)) (v := undef) rfl rfl (by kernel_rfl) (by kernel_rfl) (by kernel_rfl) (fun _ _ _ h => h) (Or.inr ⟨by rfl, rfl⟩) (by assumption) ?_
      simp only [Act.put, stB, stZ, stS]
      refine takeH (i := 11) (d := (some 103)) (v := undef) rfl rfl (by kernel_rfl) (by kernel_rfl) (by kernel_rfl) (fun _ _ _ h => h) (Or.inr ⟨by rfl, rfl⟩) (by assumption) ?_
      simp only [Act.put, stB, stZ, stS]
      refine takeH (i := 12) (d := (some 104)) (v := undef) rfl rfl (by kernel_rfl) (by kernel_rfl) (by kernel_rfl) (fun _ _ _ h => h) (Or.inr ⟨by rfl, rfl⟩) (by assumption) ?_
      simp only [Act.put, stB, stZ, stS]
      refine takeH (i := 13) (d := (some 105)) (v := undef) rfl rfl (by kernel_rfl) (by kernel_rfl) (by kernel_rfl) (fun _ _ _ h => h) (Or.inr ⟨by rfl, rfl⟩) (by assumption) ?_
      simp only [Act.put, stB, stZ, stS]
      refine tk 14 (some 106) (v := ?_) rfl rfl ?_ ?_
      rotate_left
      ·
       (intro w _; go_simp; (try with_reducible rfl))
      simp only [Act.put, stB, stZ, stS]
      refine wpAnyH_done (by kernel_rfl) ?_ _
      (try simp only [Exit.inBlock, Exit.then])
      clear hHeld
      go_wp2_with fail
      go_roundw
      case rel => exact ⟨k + 1, by omega, by go_num, by rw [HJS.out], bthen HBR.out HB.out⟩
      case measure => simp [intOf]; omega
    ·
     have t3 : (r.kind == 3) = false := beq_eq_false_iff_ne.2 hk3
     have HJS := Lib.hid (show JN (k + 1) = JN k by rw [HJS0.out]; simp [hk3])
     obtain ⟨hsk, hbk⟩ := HSUM.out k r HR2.out
     rw [if_neg hk3] at hsk
     obtain ⟨b2, o2, u, e3, eu, -, u0, u1, u2, uok⟩ := (HSW.out wr (bthen HB79.out HBR.out)).b.get k hlt
     obtain ⟨b3, o3, t, e4, et, -, t0, t1, t2, tok⟩ := (HTV.out wr HBR.out).get k hlt
     have HUQ := Lib.hid (show u.q = r.rhs.q by have h1 := qs_get eu; rw [hbk] at h1; exact (Option.some.inj h1).symm)
     have HTQ := Lib.hid (show t.q = r.rhs.q by have h1 := qs_get et; rw [HTQ0.out, hsk] at h1; exact (Option.some.inj h1).symm)
     have HUO := Lib.hid (show u.ok w9 from by
      obtain ⟨_, _, u', _, eu', -, -, -, -, h9⟩ := (HSW.out w9 HB79.out).b.get k hlt
      rw [eu] at eu'; cases eu'; exact h9)
     have HTO := Lib.hid (show t.ok w9 from by
      obtain ⟨_, _, t', _, et', -, -, -, -, h9⟩ := (HTV.out w9 (Below.refl _ _)).get k hlt
      rw [et] at et'; cases et'; exact h9)
     have HCS := Lib.hid (fun (u v : Rv) (W : World) (hu : u.ok W) (hv : v.ok W) (e1 : u.q = r.rhs.q) (e2 : v.q = r.rhs.q) => (show Calls Try.prog 15 #[.agg #[.bool u.s, .slice u.a u.l u.c, .slice u.b u.m u.d], .agg #[.bool v.s, .slice v.a v.l v.c, .slice v.b v.m v.d]] W fun e w' => e = .returned (.bool true) ∧ Below W.heap.size W w' from by
      have h1 := canSame_long (HRQ.out r (List.mem_of_getElem? HR2.out)).2.1 (HRQ.out r (List.mem_of_getElem? HR2.out)).2.1 (by omega) u v W hu hv e1 e2
      rwa [decide_eq_true rfl] at h1))
     subst e4
     have HE3 := Lib.hid e3
     clear hsk hbk eu et uok tok hk3 e3
     obtain ⟨wY, hwY⟩ : ∃ W : World, wr = W := ⟨_, rfl⟩
     rw [hwY] at p0 p1 x0 x1 x2 x3 x4 u0 u1 u2 t0 t1 t2 HBR ⊢
     cases hJ : JN k with
     | true =>
      rw [hJ] at HJS
      clear hJ
      go_upto_region 18 with fail
      have hK0 : wY.cell? ⟨sb, 2, none⟩ = some (.slice (some ⟨b2, o2, none⟩) n bc) ∧ wY.cell? ⟨b2, o2 + k * 3, none⟩ = some (.bool u.s) ∧ wY.cell? ⟨b2, o2 + k * 3 + 1, none⟩ = some (.slice u.a u.l u.c) ∧ wY.cell? ⟨b2, o2 + k * 3 + 2, none⟩ = some (.slice u.b u.m u.d) ∧ wY.cell? ⟨b3, o3 + k * 3, none⟩ = some (.bool t.s) ∧ wY.cell? ⟨b3, o3 + k * 3 + 1, none⟩ = some (.slice t.a t.l t.c) ∧ wY.cell? ⟨b3, o3 + k * 3 + 2, none⟩ = some (.slice t.b t.m t.d) := ⟨by rw [← HE3.out]; exact (HSCL.out wY (bthen HB79.out HBR.out)).2.2.1, u0, u1, u2, t0, t1, t2⟩
      clear u0 u1 u2 t0 t1 t2 p0 p1 x0 x1 x2 x3 x4
      refine wp_region_held_drew (S := fun W => W.cell? ⟨sb, 2, none⟩ = some (.slice (some ⟨b2, o2, none⟩) n bc) ∧ W.cell? ⟨b2, o2 + k * 3, none⟩ = some (.bool u.s) ∧ W.cell? ⟨b2, o2 + k * 3 + 1, none⟩ = some (.slice u.a u.l u.c) ∧ W.cell? ⟨b2, o2 + k * 3 + 2, none⟩ = some (.slice u.b u.m u.d) ∧ W.cell? ⟨b3, o3 + k * 3, none⟩ = some (.bool t.s) ∧ W.cell? ⟨b3, o3 + k * 3 + 1, none⟩ = some (.slice t.a t.l t.c) ∧ W.cell? ⟨b3, o3 + k * 3 + 2, none⟩ = some (.slice t.b t.m t.d)) (by kernel_rfl) (hK0) (fun hHeld => ?_)
      have HB := Lib.hid (show Below wY.heap.size wY wY.drew from Below.drawn wY 1)
      generalize wY.drew = wd at HB hHeld ⊢
      refine tk 0 (some 92) (v := ?_) rfl rfl ?_ ?_
      rotate_left
      ·
       (intro w _; go_simp; (try with_reducible rfl))
      simp only [Act.put, stB, stZ, stS]
      refine tk 1 (some 93) (v := ?_) rfl rfl ?_ ?_
      rotate_left
      ·
       (intro w _; go_simp; (try with_reducible rfl))
      simp only [Act.put, stB, stZ, stS]
      refine tk 2 (some 94) (v := ?_) rfl rfl ?_ ?_
      rotate_left
      ·
       (intro w _; go_simp; (try with_reducible rfl))
      simp only [Act.put, stB, stZ, stS]
      refine tk 3 (some 95) (v := ?_) rfl rfl ?_ ?_
      rotate_left
      ·
       (intro w _; go_simp; (try with_reducible rfl))
      simp only [Act.put, stB, stZ, stS]
      refine tk 4 (some 96) (v := ?_) rfl rfl ?_ ?_
      rotate_left
      ·
       (intro w _; go_simp; (try with_reducible rfl))
      simp only [Act.put, stB, stZ, stS]
      refine tk 5 (some 97) (v := ?_) rfl rfl ?_ ?_
      rotate_left
      ·
       (intro w hSw; (try dsimp only at hSw); ((try obtain ⟨hS0, hS1, hS2, hS3, hS4, hS5, hS6⟩ := hSw); go_simp); (try with_reducible rfl))
      simp only [Act.put, stB, stZ, stS]
      refine tk 6 (some 98) (v := ?_) rfl rfl ?_ ?_
      rotate_left
      ·
       (intro w hSw; (try dsimp only at hSw); ((try obtain ⟨hS0, hS1, hS2, hS3, hS4, hS5, hS6⟩ := hSw); go_simp); (try with_reducible rfl))
      simp only [Act.put, stB, stZ, stS]
      refine tk 7 (some 99) (v := ?_) rfl rfl ?_ ?_
      rotate_left
      ·
       (intro w _; go_simp; (try with_reducible rfl))
      simp only [Act.put, stB, stZ, stS]
      refine tk 8 (some 100) (v := ?_) rfl rfl ?_ ?_
      rotate_left
      ·
       (intro w hSw; (try dsimp only at hSw); ((try obtain ⟨hS0, hS1, hS2, hS3, hS4, hS5, hS6⟩ := hSw); go_simp); (try with_reducible rfl))
      simp only [Act.put, stB, stZ, stS]
      refine tk 9 (some 101) (v := ?_) rfl rfl ?_ ?_
      rotate_left
      ·
       (intro w _; go_simp; (try with_reducible rfl))
      simp only [Act.put, stB, stZ, stS]
      refine tk 10 (some 102) (v := ?_) rfl rfl ?_ ?_
      rotate_left
      ·
       (intro w hSw; (try dsimp only at hSw); ((try obtain ⟨hS0, hS1, hS2, hS3, hS4, hS5, hS6⟩ := hSw); go_simp); (try with_reducible rfl))
      simp only [Act.put, stB, stZ, stS]
      refine tk 11 (some 103) (v := ?_) rfl rfl ?_ ?_
      rotate_left
      ·
       (intro w hSw; (try dsimp only at hSw); ((try obtain ⟨hS0, hS1, hS2, hS3, hS4, hS5, hS6⟩ := hSw); go_simp); (try with_reducible rfl))
      simp only [Act.put, stB, stZ, stS]
      refine wpAnyH_ready (rs := [12]) (by kernel_rfl) (by simp) ?_
      refine (AllReadyH.cons rfl (fun K hK => ?_) AllReadyH.nil)
      go_simp
      refine (HCS.out t u _ (HTO.out.below (bthen HBR.out HB.out)) (HUO.out.below (bthen HBR.out HB.out)) HTQ.out HUQ.out).mono ?_
      rintro e w14 ⟨rfl, hb⟩
      replace HB := Lib.hid (bthen HB.out hb)
      have hKK := And.intro (hu hb (hHeld.1)) <| And.intro (hu hb (hHeld.2.1)) <| And.intro (hu hb (hHeld.2.2.1)) <| And.intro (hu hb (hHeld.2.2.2.1)) <| And.intro (hu hb (hHeld.2.2.2.2.1)) <| And.intro (hu hb (hHeld.2.2.2.2.2.1)) <| hu hb (hHeld.2.2.2.2.2.2)
      clear hb
      refine hK.out _ _ (hKK) (fun hHeld2 => ?_)
      clear hK K hHeld
      rename _ => hHeld
      try simp only [Act.put, stB, stZ, stS]
      refine tk 13 (some 105) (v := ?_) rfl rfl ?_ ?_
      rotate_left
      ·
       (intro w _; go_simp; (try with_reducible rfl))
      simp only [Act.put, stB, stZ, stS]
      refine tk 14 (some 106) (v := ?_) rfl rfl ?_ ?_
      rotate_left
      ·
       (intro w _; go_simp; (try with_reducible rfl))
      simp only [Act.put, stB, stZ, stS]
      refine wpAnyH_done (by kernel_rfl) ?_ _
      (try simp only [Exit.inBlock, Exit.then])
      clear hHeld
      go_wp2_with fail
      go_roundw
      case rel => exact ⟨k + 1, by omega, by go_num, by rw [HJS.out], bthen HBR.out HB.out⟩
      case measure => simp [intOf]; omega
     | false =>
      rw [hJ] at HJS
      clear hJ
      go_upto_region 18 with fail
      have hK0 : wY.cell? ⟨sb, 2, none⟩ = some (.slice (some ⟨b2, o2, none⟩) n bc) ∧ wY.cell? ⟨b2, o2 + k * 3, none⟩ = some (.bool u.s) ∧ wY.cell? ⟨b2, o2 + k * 3 + 1, none⟩ = some (.slice u.a u.l u.c) ∧ wY.cell? ⟨b2, o2 + k * 3 + 2, none⟩ = some (.slice u.b u.m u.d) ∧ wY.cell? ⟨b3, o3 + k * 3, none⟩ = some (.bool t.s) ∧ wY.cell? ⟨b3, o3 + k * 3 + 1, none⟩ = some (.slice t.a t.l t.c) ∧ wY.cell? ⟨b3, o3 + k * 3 + 2, none⟩ = some (.slice t.b t.m t.d) := ⟨by rw [← HE3.out]; exact (HSCL.out wY (bthen HB79.out HBR.out)).2.2.1, u0, u1, u2, t0, t1, t2⟩
      clear u0 u1 u2 t0 t1 t2 p0 p1 x0 x1 x2 x3 x4
      refine wp_region_held_drew (S := fun W => W.cell? ⟨sb, 2, none⟩ = some (.slice (some ⟨b2, o2, none⟩) n bc) ∧ W.cell? ⟨b2, o2 + k * 3, none⟩ = some (.bool u.s) ∧ W.cell? ⟨b2, o2 + k * 3 + 1, none⟩ = some (.slice u.a u.l u.c) ∧ W.cell? ⟨b2, o2 + k * 3 + 2, none⟩ = some (.slice u.b u.m u.d) ∧ W.cell? ⟨b3, o3 + k * 3, none⟩ = some (.bool t.s) ∧ W.cell? ⟨b3, o3 + k * 3 + 1, none⟩ = some (.slice t.a t.l t.c) ∧ W.cell? ⟨b3, o3 + k * 3 + 2, none⟩ = some (.slice t.b t.m t.d)) (by kernel_rfl) (hK0) (fun hHeld => ?_)
      have HB := Lib.hid (show Below wY.heap.size wY wY.drew from Below.drawn wY 1)
      generalize wY.drew = wd at HB hHeld ⊢
      refine tk 0 (some 92) (v := ?_) rfl rfl ?_ ?_
      rotate_left
      ·
       (intro w _; go_simp; (try with_reducible rfl))
      simp only [Act.put, stB, stZ, stS]
      refine tk 1 (some 93) (v := ?_) rfl rfl ?_ ?_
      rotate_left
      ·
       (intro w _; go_simp; (try with_reducible rfl))
      simp only [Act.put, stB, stZ, stS]
      refine tk 2 (some 94) (v := ?_) rfl rfl ?_ ?_
      rotate_left
      ·
       (intro w _; go_simp; (try with_reducible rfl))
      simp only [Act.put, stB, stZ, stS]
      refine tk 3 (some 95) (v := ?_) rfl rfl ?_ ?_
      rotate_left
      ·
       (intro w _; go_simp; (try with_reducible rfl))
      simp only [Act.put, stB, stZ, stS]
      refine tk 4 (some 96) (v := ?_) rfl rfl ?_ ?_
      rotate_left
      ·
       (intro w _; go_simp; (try with_reducible rfl))
      simp only [Act.put, stB, stZ, stS]
      refine tk 5 (some 97) (v := ?_) rfl rfl ?_ ?_
      rotate_left
      ·
       (intro w hSw; (try dsimp only at hSw); ((try obtain ⟨hS0, hS1, hS2, hS3, hS4, hS5, hS6⟩ := hSw); go_simp); (try with_reducible rfl))
      simp only [Act.put, stB, stZ, stS]
      refine tk 6 (some 98) (v := ?_) rfl rfl ?_ ?_
      rotate_left
      ·
       (intro w hSw; (try dsimp only at hSw); ((try obtain ⟨hS0, hS1, hS2, hS3, hS4, hS5, hS6⟩ := hSw); go_simp); (try with_reducible rfl))
      simp only [Act.put, stB, stZ, stS]
      refine tk 7 (some 99) (v := ?_) rfl rfl ?_ ?_
      rotate_left
      ·
       (intro w _; go_simp; (try with_reducible rfl))
      simp only [Act.put, stB, stZ, stS]
      refine tk 8 (some 100) (v := ?_) rfl rfl ?_ ?_
      rotate_left
      ·
       (intro w hSw; (try dsimp only at hSw); ((try obtain ⟨hS0, hS1, hS2, hS3, hS4, hS5, hS6⟩ := hSw); go_simp); (try with_reducible rfl))
      simp only [Act.put, stB, stZ, stS]
      refine tk 9 (some 101) (v := ?_) rfl rfl ?_ ?_
      rotate_left
      ·
       (intro w _; go_simp; (try with_reducible rfl))
      simp only [Act.put, stB, stZ, stS]
      refine tk 10 (some 102) (v := ?_) rfl rfl ?_ ?_
      rotate_left
      ·
       (intro w hSw; (try dsimp only at hSw); ((try obtain ⟨hS0, hS1, hS2, hS3, hS4, hS5, hS6⟩ := hSw); go_simp); (try with_reducible rfl))
      simp only [Act.put, stB, stZ, stS]
      refine tk 11 (some 103) (v := ?_) rfl rfl ?_ ?_
      rotate_left
      ·
       (intro w hSw; (try dsimp only at hSw); ((try obtain ⟨hS0, hS1, hS2, hS3, hS4, hS5, hS6⟩ := hSw); go_simp); (try with_reducible rfl))
      simp only [Act.put, stB, stZ, stS]
      refine wpAnyH_ready (rs := [12]) (by kernel_rfl) (by simp) ?_
      refine (AllReadyH.cons rfl (fun K hK => ?_) AllReadyH.nil)
      go_simp
      refine (HCS.out t u _ (HTO.out.below (bthen HBR.out HB.out)) (HUO.out.below (bthen HBR.out HB.out)) HTQ.out HUQ.out).mono ?_
      rintro e w14 ⟨rfl, hb⟩
      replace HB := Lib.hid (bthen HB.out hb)
      have hKK := And.intro (hu hb (hHeld.1)) <| And.intro (hu hb (hHeld.2.1)) <| And.intro (hu hb (hHeld.2.2.1)) <| And.intro (hu hb (hHeld.2.2.2.1)) <| And.intro (hu hb (hHeld.2.2.2.2.1)) <| And.intro (hu hb (hHeld.2.2.2.2.2.1)) <| hu hb (hHeld.2.2.2.2.2.2)
      clear hb
      refine hK.out _ _ (hKK) (fun hHeld2 => ?_)
      clear hK K hHeld
      rename _ => hHeld
      try simp only [Act.put, stB, stZ, stS]
      refine tk 13 (some 105) (v := ?_) rfl rfl ?_ ?_
      rotate_left
      ·
       (intro w _; go_simp; (try with_reducible rfl))
      simp only [Act.put, stB, stZ, stS]
      refine tk 14 (some 106) (v := ?_) rfl rfl ?_ ?_
      rotate_left
      ·
       (intro w _; go_simp; (try with_reducible rfl))
      simp only [Act.put, stB, stZ, stS]
      refine wpAnyH_done (by kernel_rfl) ?_ _
      (try simp only [Exit.inBlock, Exit.then])
      clear hHeld
      go_wp2_with fail
      go_roundw
      case rel => exact ⟨k + 1, by omega, by go_num, by rw [HJS.out], bthen HBR.out HB.out⟩
      case measure => simp [intOf]; omega
   ·
    obtain rfl : k = n := by omega
    have HDX := Lib.hid (fun (W : World) (hb : Below w9.heap.size w9 W) => (show Calls Try.prog 12 #[.slice ca yn cc, .slice ua yn uc] W (RetRB2 (dotQ (qs cs) (qs vs)) true W) from vdot_eq ca ua yn cc uc cs vs W (HPW7.out W (bthen HB79.out hb)).cost (HXV.out W (bthen HB79.out hb)) (canDot_long HCQ.out HVQ.out (n := 5) (by rw [HCSL.out]; exact hm5) (by omega))))
    have HDZ := Lib.hid (fun (W : World) (hb : Below w9.heap.size w9 W) => (show Calls Try.prog 12 #[.slice sca cols scc, .slice za cols zc] W (RetRB2 (dotQ (qs cs) (qs vs)) true W) from by
     have hcl : AllL 1 (qs scs) := by rw [HCST.out]; exact HCQ.out.append (allL_zeros S)
     have h1 := vdot_eq sca za cols scc zc scs zs W (HSW.out W (bthen HB79.out hb)).c (HZV9.out W hb) (by rw [HZQ.out]; exact canDot_long hcl HZL.out (n := 9) (by rw [qs_len, (HSW.out W (bthen HB79.out hb)).c.len]; exact hcols9) (by omega))
     rw [HZQ.out, HCST.out, ← HZ.out, lift_cost _ _ _ _ (by rw [HCSL.out, HVLEN.out])] at h1
     exact h1))
    have HDQ := Lib.hid (show Long 16 (dotQ (qs cs) (qs vs)) from (dot_long _ _ HCQ.out HVQ.out).mono (by rw [HCSL.out]; omega))
    have HCS := Lib.hid (fun (u v : Rv) (W : World) (hu : u.ok W) (hv : v.ok W) (e1 : u.q = dotQ (qs cs) (qs vs)) (e2 : v.q = dotQ (qs cs) (qs vs)) => (show Calls Try.prog 15 #[.agg #[.bool u.s, .slice u.a u.l u.c, .slice u.b u.m u.d], .agg #[.bool v.s, .slice v.a v.l v.c, .slice v.b v.m v.d]] W fun e w' => e = .returned (.bool true) ∧ Below W.heap.size W w' from by
     have h1 := canSame_long HDQ.out HDQ.out (by omega) u v W hu hv e1 e2
     rwa [decide_eq_true rfl] at h1))
    have hyc : yn ≤ cols := by have := HCOLS.out; omega
    have HVS := Lib.hid (fun (W : World) (hb : Below w9.heap.size w9 W) => (show Calls Try.prog 24 #[.slice za yn zc, .slice ua yn uc] W fun e w' => e = .returned (.bool true) ∧ Below W.heap.size W w' from by
     have hq : qs (zs.take yn) = qs vs := by rw [qs_take, HZQ.out, ← HZ.out, List.take_left' HVLEN.out]
     have h1 := vsame_any za ua yn yn zc uc (zs.take yn) vs W ((HZV9.out W hb).till yn hyc) (HXV.out W (bthen HB79.out hb)) (fun i u v h1 h2 => by
      have h3 := qs_get h1
      rw [hq] at h3
      exact canCmp_long (HVQ.out.get h3) (HVQ.out.get (qs_get h2)) (by omega))
     rwa [decide_eq_true (show sameQ (zs.take yn) vs from hq)] at h1))
    obtain ⟨BZ, hBZ⟩ : ∃ BZ, belowQ (qs zs) = BZ := ⟨_, rfl⟩
    have HVB := Lib.hid (fun (W : World) (hb : Below w9.heap.size w9 W) => (show Calls Try.prog 11 #[.slice za cols zc] W fun e w' => e = .returned (.bool BZ) ∧ Below W.heap.size W w' from by
     rw [← hBZ]; exact vbelow_any za cols zc zs W (HZV9.out W hb)))
    have hfin : (!BZ && JN k) = fitsQ yn rows vs yn := by
     have e1 : JN k = T.all (fun t => decide (t.2.1 ≠ 3) || holdsT (qs vs) t) := by
      rw [HJN.out, List.take_of_length_le (by rw [HRLEN.out]; exact Nat.le_refl _), ← HT.out, List.all_map]
      refine all_of_mem rows fun r hr => ?_
      show _ = (decide (r.kind ≠ 3) || holdsT (qs vs) (prowQ r))
      rw [holdsT_row r vs yn (HRN.out r hr) (HRK.out r hr)]
     have e2 : rows.all (fun r => rowHolds r vs yn) = T.all (holdsT (qs vs)) := by
      rw [← HT.out, List.all_map]
      refine all_of_mem rows fun r hr => ?_
      exact holdsT_row r vs yn (HRN.out r hr) (HRK.out r hr)
     have e3 : BZ = (anyBelow (qs vs) || anyBelow (slackR (qs vs) T)) := by rw [← hBZ, HZQ.out, ← HZ.out, belowQ_any, anyBelow_app]
     unfold fitsQ
     rw [decide_eq_true rfl, Bool.true_and, e2, ← lift_fits (qs vs) T (fun t ht => by
      rw [← HT.out] at ht
      obtain ⟨r, hr, rfl⟩ := List.mem_map.1 ht
      exact HRK.out r hr), e1, e3, belowQ_any]
     cases anyBelow (qs vs) <;> cases anyBelow (slackR (qs vs) T) <;> rfl
    have HFT0 := Lib.hid (fun (W : World) (hb : Below w9.heap.size w9 W) => (show Calls Try.prog 19 #[.agg #[.slice ca yn cc, .slice pa k pc], .slice ua yn uc] W fun e w' => e = .returned (.bool (!BZ && JN k)) ∧ Below W.heap.size W w' from by
     rw [hfin]
     exact fits_any ca yn cc pa k pc cs rows W (HPW7.out W (bthen HB79.out hb)) ua yn uc vs (HXV.out W (bthen HB79.out hb)) (fun r hr _ _ => by
      obtain ⟨h1, h2, h3⟩ := HRQ.out r hr
      exact ⟨canDot_long h1 HVQ.out (n := 5) (by omega) (by omega), canAdd_long (B := 16) ((dot_long _ _ h1 HVQ.out).mono (by omega)) h2.neg (by omega)⟩)))
    clear hb hBZ hfin
    obtain ⟨s0, s1, s2, s3, s4, s5⟩ := HSCL.out wr (bthen HB79.out HBR.out)
    go_wp2_with fail
    refine (HDZ.out _ HBR.out).mono ?_
    rintro e w20 ⟨sv, rfl, hso, hsq, hb20⟩
    unfold Rv.val
    have HSV := Lib.hid (hso.below (belowBox w20 (.cells #[.bool sv.s, .slice sv.a sv.l sv.c, .slice sv.b sv.m sv.d] 40)))
    have HSQ := Lib.hid hsq
    have HGB := Lib.hid (heap_alloc_new w20 (.cells #[.bool sv.s, .slice sv.a sv.l sv.c, .slice sv.b sv.m sv.d] 40))
    replace HBR := Lib.hid (bthen HBR.out (bthen hb20 (belowBox w20 (.cells #[.bool sv.s, .slice sv.a sv.l sv.c, .slice sv.b sv.m sv.d] 40))))
    clear hso hsq hb20 p0 p1 s0 s1 s2 s3 s4 s5
    go_upto_region 21 with fail
    generalize w20.heap.size = gb at HGB ⊢
    generalize w20.alloc (.cells #[.bool sv.s, .slice sv.a sv.l sv.c, .slice sv.b sv.m sv.d] 40) = w21 at HGB HSV HBR ⊢
    obtain ⟨p0, p1⟩ := HPC.out w21 (bthen HB79.out HBR.out)
    go_wp2_with fail
    refine (cost_run ca yn cc pa k pc ua yn uc _ true _ (fun W hb => HDX.out W (bthen HBR.out hb))).mono ?_
    rintro e w22 ⟨ov, rfl, hoo, hoq, hb22⟩
    unfold Rv.val
    have hal := belowBox w22 (.cells #[.bool ov.s, .slice ov.a ov.l ov.c, .slice ov.b ov.m ov.d] 40)
    have HOV := Lib.hid (hoo.below hal)
    have HOQ := Lib.hid hoq
    have HHB := Lib.hid (heap_alloc_new w22 (.cells #[.bool ov.s, .slice ov.a ov.l ov.c, .slice ov.b ov.m ov.d] 40))
    have hs9 := (hb22.block gb (lt_of_block HGB.out)).trans HGB.out
    replace HGB := Lib.hid ((hal.block gb (lt_of_block hs9)).trans hs9)
    replace HSV := Lib.hid ((HSV.out.below hb22).below hal)
    replace HBR := Lib.hid (bthen HBR.out (bthen hb22 hal))
    clear hoo hoq hb22 hal hs9 p0 p1
    go_upto_region 22 with fail
    generalize w22.heap.size = hb9 at HHB ⊢
    generalize w22.alloc (.cells #[.bool ov.s, .slice ov.a ov.l ov.c, .slice ov.b ov.m ov.d] 40) = w10 at HGB HSV HBR HHB HOV ⊢
    have hK0 : w10.cell? ⟨pb, 0, none⟩ = some (.slice ca yn cc) ∧ w10.cell? ⟨pb, 1, none⟩ = some (.slice pa k pc) ∧ w10.cell? ⟨sb, 4, none⟩ = some (.int .i64 yn) ∧ w10.cell? ⟨gb, 0, none⟩ = some (.bool sv.s) ∧ w10.cell? ⟨gb, 1, none⟩ = some (.slice sv.a sv.l sv.c) ∧ w10.cell? ⟨gb, 2, none⟩ = some (.slice sv.b sv.m sv.d) ∧ w10.cell? ⟨hb9, 0, none⟩ = some (.bool ov.s) ∧ w10.cell? ⟨hb9, 1, none⟩ = some (.slice ov.a ov.l ov.c) ∧ w10.cell? ⟨hb9, 2, none⟩ = some (.slice ov.b ov.m ov.d) := by
     obtain ⟨p0, p1⟩ := HPC.out w10 (bthen HB79.out HBR.out)
     exact ⟨p0, p1, (HSCL.out w10 (bthen HB79.out HBR.out)).2.2.2.2.1, cell_of_block (j := 0) HGB.out rfl, cell_of_block (j := 1) HGB.out rfl, cell_of_block (j := 2) HGB.out rfl, cell_of_block (j := 0) HHB.out rfl, cell_of_block (j := 1) HHB.out rfl, cell_of_block (j := 2) HHB.out rfl⟩
    have zl0 : (0 : Int) ≤ (yn : Int) := by omega
    have hzc : cols ≤ zc := (HZV9.out w9 (Below.refl _ _)).sl.lenI.2.1
    have zl1 : (yn : Int) ≤ (zc : Int) := by omega
    replace HB5 := Lib.hid (bthen HB5.out HB79.out)
    cases BZ with
    | true =>
     have HFT := Lib.hid (fun (W : World) (hb : Below w9.heap.size w9 W) => (show Calls Try.prog 19 #[.agg #[.slice ca yn cc, .slice pa k pc], .slice ua yn uc] W fun e w' => e = .returned (.bool false) ∧ Below W.heap.size W w' from HFT0.out W hb))
     clear HFT0
     refine wp_region_held_drew (S := fun W => W.cell? ⟨pb, 0, none⟩ = some (.slice ca yn cc) ∧ W.cell? ⟨pb, 1, none⟩ = some (.slice pa k pc) ∧ W.cell? ⟨sb, 4, none⟩ = some (.int .i64 yn) ∧ W.cell? ⟨gb, 0, none⟩ = some (.bool sv.s) ∧ W.cell? ⟨gb, 1, none⟩ = some (.slice sv.a sv.l sv.c) ∧ W.cell? ⟨gb, 2, none⟩ = some (.slice sv.b sv.m sv.d) ∧ W.cell? ⟨hb9, 0, none⟩ = some (.bool ov.s) ∧ W.cell? ⟨hb9, 1, none⟩ = some (.slice ov.a ov.l ov.c) ∧ W.cell? ⟨hb9, 2, none⟩ = some (.slice ov.b ov.m ov.d)) (by kernel_rfl) (hK0) (fun hHeld => ?_)
     have HB := Lib.hid (show Below w10.heap.size w10 w10.drew from Below.drawn w10 1)
     generalize w10.drew = wd at HB hHeld ⊢
     refine tk 0 (some 120) (v := ?_) rfl rfl ?_ ?_
     rotate_left
     ·
      (intro w _; go_simp; (try with_reducible rfl))
     simp only [Act.put, stB, stZ, stS]
     refine tk 1 (some 121) (v := ?_) rfl rfl ?_ ?_
     rotate_left
     ·
      (intro w _; go_simp; (try with_reducible rfl))
     simp only [Act.put, stB, stZ, stS]
     refine tk 2 (some 122) (v := ?_) rfl rfl ?_ ?_
     rotate_left
     ·
      (intro w hSw; (try dsimp only at hSw); ((try obtain ⟨hS0, hS1, hS2, hS3, hS4, hS5, hS6, hS7, hS8⟩ := hSw); go_simp); (try with_reducible rfl))
     simp only [Act.put, stB, stZ, stS]
     refine tk 3 (some 123) (v := ?_) rfl rfl ?_ ?_
     rotate_left
     ·
      (intro w hSw; (try dsimp only at hSw); ((try obtain ⟨hS0, hS1, hS2, hS3, hS4, hS5, hS6, hS7, hS8⟩ := hSw); go_simp); (try with_reducible rfl))
     simp only [Act.put, stB, stZ, stS]
     refine wpAnyH_ready (rs := [4]) (by kernel_rfl) (by simp) ?_
     refine (AllReadyH.cons rfl (fun K hK => ?_) AllReadyH.nil)
     go_simp
     refine (HCS.out sv ov _ (HSV.out.below HB.out) (HOV.out.below HB.out) HSQ.out HOQ.out).mono ?_
     rintro e w14 ⟨rfl, hb⟩
     replace HB := Lib.hid (bthen HB.out hb)
     have hKK := And.intro (hu hb (hHeld.1)) <| And.intro (hu hb (hHeld.2.1)) <| And.intro (hu hb (hHeld.2.2.1)) <| And.intro (hu hb (hHeld.2.2.2.1)) <| And.intro (hu hb (hHeld.2.2.2.2.1)) <| And.intro (hu hb (hHeld.2.2.2.2.2.1)) <| And.intro (hu hb (hHeld.2.2.2.2.2.2.1)) <| And.intro (hu hb (hHeld.2.2.2.2.2.2.2.1)) <| hu hb (hHeld.2.2.2.2.2.2.2.2)
     clear hb
     refine hK.out _ _ (hKK) (fun hHeld2 => ?_)
     clear hK K hHeld
     rename _ => hHeld
     try simp only [Act.put, stB, stZ, stS]
     refine tk 5 (some 125) (v := ?_) rfl rfl ?_ ?_
     rotate_left
     ·
      (intro w _; go_simp; (try with_reducible rfl))
     simp only [Act.put, stB, stZ, stS]
     refine tk 6 (some 126) (v := ?_) rfl rfl ?_ ?_
     rotate_left
     ·
      (intro w _; go_simp; (try with_reducible rfl))
     simp only [Act.put, stB, stZ, stS]
     refine tk 7 (some 127) (v := ?_) rfl rfl ?_ ?_
     rotate_left
     ·
      (intro w _; go_simp; (try with_reducible rfl))
     simp only [Act.put, stB, stZ, stS]
     refine tk 8 (some 128) (v := ?_) rfl rfl ?_ ?_
     rotate_left
     ·
      (intro w _; go_simp; (try with_reducible rfl))
     simp only [Act.put, stB, stZ, stS]
     refine tk 9 (some 129) (v := ?_) rfl rfl ?_ ?_
     rotate_left
     ·
      (intro w hSw; (try dsimp only at hSw); ((try obtain ⟨hS0, hS1, hS2, hS3, hS4, hS5, hS6, hS7, hS8⟩ := hSw); go_simp); (try with_reducible rfl))
     simp only [Act.put, stB, stZ, stS]
     refine tk 10 (some 130) (v := ?_) rfl rfl ?_ ?_
     rotate_left
     ·
      (intro w _; go_simp; (try with_reducible rfl))
     simp only [Act.put, stB, stZ, stS]
     refine tk 11 (some 131) (v := ?_) rfl rfl ?_ ?_
     rotate_left
     ·
      (intro w _; go_simp; (try with_reducible rfl))
     simp only [Act.put, stB, stZ, stS]
     refine wpAnyH_ready (rs := [12]) (by kernel_rfl) (by simp) ?_
     refine (AllReadyH.cons rfl (fun K hK => ?_) AllReadyH.nil)
     go_simp
     refine (HVS.out _ (bthen HBR.out HB.out)).mono ?_
     rintro e w15 ⟨rfl, hb⟩
     replace HB := Lib.hid (bthen HB.out hb)
     have hKK := And.intro (hu hb (hHeld.1)) <| And.intro (hu hb (hHeld.2.1)) <| And.intro (hu hb (hHeld.2.2.1)) <| And.intro (hu hb (hHeld.2.2.2.1)) <| And.intro (hu hb (hHeld.2.2.2.2.1)) <| And.intro (hu hb (hHeld.2.2.2.2.2.1)) <| And.intro (hu hb (hHeld.2.2.2.2.2.2.1)) <| And.intro (hu hb (hHeld.2.2.2.2.2.2.2.1)) <| hu hb (hHeld.2.2.2.2.2.2.2.2)
     clear hb
     refine hK.out _ _ (hKK) (fun hHeld2 => ?_)
     clear hK K hHeld
     rename _ => hHeld
     try simp only [Act.put, stB, stZ, stS]
     refine tk 13 (some 133) (v := ?_) rfl rfl ?_ ?_
     rotate_left
     ·
      (intro w _; go_simp; (try with_reducible rfl))
     simp only [Act.put, stB, stZ, stS]
     refine tk 14 (some 134) (v := ?_) rfl rfl ?_ ?_
     rotate_left
     ·
      (intro w _; go_simp; (try with_reducible rfl))
     simp only [Act.put, stB, stZ, stS]
     refine tk 15 (some 135) (v := ?_) rfl rfl ?_ ?_
     rotate_left
     ·
      (intro w _; go_simp; (try with_reducible rfl))
     simp only [Act.put, stB, stZ, stS]
     refine tk 21 (some 141) (v := ?_) rfl rfl ?_ ?_
     rotate_left
     ·
      (intro w hSw; (try dsimp only at hSw); ((try obtain ⟨hS0, hS1, hS2, hS3, hS4, hS5, hS6, hS7, hS8⟩ := hSw); go_simp); (try with_reducible rfl))
     simp only [Act.put, stB, stZ, stS]
     refine tk 22 (some 142) (v := ?_) rfl rfl ?_ ?_
     rotate_left
     ·
      (intro w _; go_simp; (try with_reducible rfl))
     simp only [Act.put, stB, stZ, stS]
     refine wpAnyH_ready (rs := [16]) (by kernel_rfl) (by simp) ?_
     refine (AllReadyH.cons rfl (fun K hK => ?_) AllReadyH.nil)
     go_simp
     refine (HVB.out _ (bthen HBR.out HB.out)).mono ?_
     rintro e w16 ⟨rfl, hb⟩
     replace HB := Lib.hid (bthen HB.out hb)
     have hKK := And.intro (hu hb (hHeld.1)) <| And.intro (hu hb (hHeld.2.1)) <| And.intro (hu hb (hHeld.2.2.1)) <| And.intro (hu hb (hHeld.2.2.2.1)) <| And.intro (hu hb (hHeld.2.2.2.2.1)) <| And.intro (hu hb (hHeld.2.2.2.2.2.1)) <| And.intro (hu hb (hHeld.2.2.2.2.2.2.1)) <| And.intro (hu hb (hHeld.2.2.2.2.2.2.2.1)) <| hu hb (hHeld.2.2.2.2.2.2.2.2)
     clear hb
     refine hK.out _ _ (hKK) (fun hHeld2 => ?_)
     clear hK K hHeld
     rename _ => hHeld
     try simp only [Act.put, stB, stZ, stS]
     refine tk 17 (some 137) (v := ?_) rfl rfl ?_ ?_
     rotate_left
     ·
      (intro w _; go_simp; (try with_reducible rfl))
     simp only [Act.put, stB, stZ, stS]
     refine tk 18 (some 138) (v := ?_) rfl rfl ?_ ?_
     rotate_left
     ·
      (intro w _; go_simp; (try with_reducible rfl))
     simp only [Act.put, stB, stZ, stS]
     refine takeH (i := 19) (d := (some 139)) (v := undef) rfl rfl (by kernel_rfl) (by kernel_rfl) (by kernel_rfl) (fun _ _ _ h => h) (Or.inr ⟨by rfl, rfl⟩) (by assumption) ?_
     simp only [Act.put, stB, stZ, stS]
     refine tk 20 (some 140) (v := ?_) rfl rfl ?_ ?_
     rotate_left
     ·
      (intro w _; go_simp; (try with_reducible rfl))
     simp only [Act.put, stB, stZ, stS]
     refine wpAnyH_ready (rs := [23]) (by kernel_rfl) (by simp) ?_
     refine (AllReadyH.cons rfl (fun K hK => ?_) AllReadyH.nil)
     go_simp
     refine (HFT.out _ (bthen HBR.out HB.out)).mono ?_
     rintro e w17 ⟨rfl, hb⟩
     replace HB := Lib.hid (bthen HB.out hb)
     have hKK := And.intro (hu hb (hHeld.1)) <| And.intro (hu hb (hHeld.2.1)) <| And.intro (hu hb (hHeld.2.2.1)) <| And.intro (hu hb (hHeld.2.2.2.1)) <| And.intro (hu hb (hHeld.2.2.2.2.1)) <| And.intro (hu hb (hHeld.2.2.2.2.2.1)) <| And.intro (hu hb (hHeld.2.2.2.2.2.2.1)) <| And.intro (hu hb (hHeld.2.2.2.2.2.2.2.1)) <| hu hb (hHeld.2.2.2.2.2.2.2.2)
     clear hb
     refine hK.out _ _ (hKK) (fun hHeld2 => ?_)
     clear hK K hHeld
     rename _ => hHeld
     try simp only [Act.put, stB, stZ, stS]
     refine tk 24 (some 144) (v := ?_) rfl rfl ?_ ?_
     rotate_left
     ·
      (intro w _; go_simp; (try with_reducible rfl))
     simp only [Act.put, stB, stZ, stS]
     refine tk 25 (some 145) (v := ?_) rfl rfl ?_ ?_
     rotate_left
     ·
      (intro w _; go_simp; (try with_reducible rfl))
     simp only [Act.put, stB, stZ, stS]
     refine tk 26 (some 4) (v := ?_) rfl rfl ?_ ?_
     rotate_left
     ·
      (intro w _; go_simp; (try with_reducible rfl))
     simp only [Act.put, stB, stZ, stS]
     refine wpAnyH_done (by kernel_rfl) ?_ _
     (try simp only [Exit.inBlock, Exit.then])
     clear hHeld
     go_wp2_with fail
     go_ret
     exact ⟨rfl, bthen HB5.out (bthen HBR.out HB.out)⟩
    | false =>
     have HFT := Lib.hid (fun (W : World) (hb : Below w9.heap.size w9 W) => (show Calls Try.prog 19 #[.agg #[.slice ca yn cc, .slice pa k pc], .slice ua yn uc] W fun e w' => e = .returned (.bool (JN k)) ∧ Below W.heap.size W w' from by
      have h1 := HFT0.out W hb
      rwa [Bool.not_false, Bool.true_and] at h1))
     clear HFT0
     refine wp_region_held_drew (S := fun W => W.cell? ⟨pb, 0, none⟩ = some (.slice ca yn cc) ∧ W.cell? ⟨pb, 1, none⟩ = some (.slice pa k pc) ∧ W.cell? ⟨sb, 4, none⟩ = some (.int .i64 yn) ∧ W.cell? ⟨gb, 0, none⟩ = some (.bool sv.s) ∧ W.cell? ⟨gb, 1, none⟩ = some (.slice sv.a sv.l sv.c) ∧ W.cell? ⟨gb, 2, none⟩ = some (.slice sv.b sv.m sv.d) ∧ W.cell? ⟨hb9, 0, none⟩ = some (.bool ov.s) ∧ W.cell? ⟨hb9, 1, none⟩ = some (.slice ov.a ov.l ov.c) ∧ W.cell? ⟨hb9, 2, none⟩ = some (.slice ov.b ov.m ov.d)) (by kernel_rfl) (hK0) (fun hHeld => ?_)
     have HB := Lib.hid (show Below w10.heap.size w10 w10.drew from Below.drawn w10 1)
     generalize w10.drew = wd at HB hHeld ⊢
     refine tk 0 (some 120) (v := ?_) rfl rfl ?_ ?_
     rotate_left
     ·
      (intro w _; go_simp; (try with_reducible rfl))
     simp only [Act.put, stB, stZ, stS]
     refine tk 1 (some 121) (v := ?_) rfl rfl ?_ ?_
     rotate_left
     ·
      (intro w _; go_simp; (try with_reducible rfl))
     simp only [Act.put, stB, stZ, stS]
     refine tk 2 (some 122) (v := ?_) rfl rfl ?_ ?_
     rotate_left
     ·
      (intro w hSw; (try dsimp only at hSw); ((try obtain ⟨hS0, hS1, hS2, hS3, hS4, hS5, hS6, hS7, hS8⟩ := hSw); go_simp); (try with_reducible rfl))
     simp only [Act.put, stB, stZ, stS]
     refine tk 3 (some 123) (v := ?_) rfl rfl ?_ ?_
     rotate_left
     ·
      (intro w hSw; (try dsimp only at hSw); ((try obtain ⟨hS0, hS1, hS2, hS3, hS4, hS5, hS6, hS7, hS8⟩ := hSw); go_simp); (try with_reducible rfl))
     simp only [Act.put, stB, stZ, stS]
     refine wpAnyH_ready (rs := [4]) (by kernel_rfl) (by simp) ?_
     refine (AllReadyH.cons rfl (fun K hK => ?_) AllReadyH.nil)
     go_simp
     refine (HCS.out sv ov _ (HSV.out.below HB.out) (HOV.out.below HB.out) HSQ.out HOQ.out).mono ?_
     rintro e w14 ⟨rfl, hb⟩
     replace HB := Lib.hid (bthen HB.out hb)
     have hKK := And.intro (hu hb (hHeld.1)) <| And.intro (hu hb (hHeld.2.1)) <| And.intro (hu hb (hHeld.2.2.1)) <| And.intro (hu hb (hHeld.2.2.2.1)) <| And.intro (hu hb (hHeld.2.2.2.2.1)) <| And.intro (hu hb (hHeld.2.2.2.2.2.1)) <| And.intro (hu hb (hHeld.2.2.2.2.2.2.1)) <| And.intro (hu hb (hHeld.2.2.2.2.2.2.2.1)) <| hu hb (hHeld.2.2.2.2.2.2.2.2)
     clear hb
     refine hK.out _ _ (hKK) (fun hHeld2 => ?_)
     clear hK K hHeld
     rename _ => hHeld
     try simp only [Act.put, stB, stZ, stS]
     refine tk 5 (some 125) (v := ?_) rfl rfl ?_ ?_
     rotate_left
     ·
      (intro w _; go_simp; (try with_reducible rfl))
     simp only [Act.put, stB, stZ, stS]
     refine tk 6 (some 126) (v := ?_) rfl rfl ?_ ?_
     rotate_left
     ·
      (intro w _; go_simp; (try with_reducible rfl))
     simp only [Act.put, stB, stZ, stS]
     refine tk 7 (some 127) (v := ?_) rfl rfl ?_ ?_
     rotate_left
     ·
      (intro w _; go_simp; (try with_reducible rfl))
     simp only [Act.put, stB, stZ, stS]
     refine tk 8 (some 128) (v := ?_) rfl rfl ?_ ?_
     rotate_left
     ·
      (intro w _; go_simp; (try with_reducible rfl))
     simp only [Act.put, stB, stZ, stS]
     refine tk 9 (some 129) (v := ?_) rfl rfl ?_ ?_
     rotate_left
     ·
      (intro w hSw; (try dsimp only at hSw); ((try obtain ⟨hS0, hS1, hS2, hS3, hS4, hS5, hS6, hS7, hS8⟩ := hSw); go_simp); (try with_reducible rfl))
     simp only [Act.put, stB, stZ, stS]
     refine tk 10 (some 130) (v := ?_) rfl rfl ?_ ?_
     rotate_left
     ·
      (intro w _; go_simp; (try with_reducible rfl))
     simp only [Act.put, stB, stZ, stS]
     refine tk 11 (some 131) (v := ?_) rfl rfl ?_ ?_
     rotate_left
     ·
      (intro w _; go_simp; (try with_reducible rfl))
     simp only [Act.put, stB, stZ, stS]
     refine wpAnyH_ready (rs := [12]) (by kernel_rfl) (by simp) ?_
     refine (AllReadyH.cons rfl (fun K hK => ?_) AllReadyH.nil)
     go_simp
     refine (HVS.out _ (bthen HBR.out HB.out)).mono ?_
     rintro e w15 ⟨rfl, hb⟩
     replace HB := Lib.hid (bthen HB.out hb)
     have hKK := And.intro (hu hb (hHeld.1)) <| And.intro (hu hb (hHeld.2.1)) <| And.intro (hu hb (hHeld.2.2.1)) <| And.intro (hu hb (hHeld.2.2.2.1)) <| And.intro (hu hb (hHeld.2.2.2.2.1)) <| And.intro (hu hb (hHeld.2.2.2.2.2.1)) <| And.intro (hu hb (hHeld.2.2.2.2.2.2.1)) <| And.intro (hu hb (hHeld.2.2.2.2.2.2.2.1)) <| hu hb (hHeld.2.2.2.2.2.2.2.2)
     clear hb
     refine hK.out _ _ (hKK) (fun hHeld2 => ?_)
     clear hK K hHeld
     rename _ => hHeld
     try simp only [Act.put, stB, stZ, stS]
     refine tk 13 (some 133) (v := ?_) rfl rfl ?_ ?_
     rotate_left
     ·
      (intro w _; go_simp; (try with_reducible rfl))
     simp only [Act.put, stB, stZ, stS]
     refine tk 14 (some 134) (v := ?_) rfl rfl ?_ ?_
     rotate_left
     ·
      (intro w _; go_simp; (try with_reducible rfl))
     simp only [Act.put, stB, stZ, stS]
     refine tk 15 (some 135) (v := ?_) rfl rfl ?_ ?_
     rotate_left
     ·
      (intro w _; go_simp; (try with_reducible rfl))
     simp only [Act.put, stB, stZ, stS]
     refine tk 21 (some 141) (v := ?_) rfl rfl ?_ ?_
     rotate_left
     ·
      (intro w hSw; (try dsimp only at hSw); ((try obtain ⟨hS0, hS1, hS2, hS3, hS4, hS5, hS6, hS7, hS8⟩ := hSw); go_simp); (try with_reducible rfl))
     simp only [Act.put, stB, stZ, stS]
     refine tk 22 (some 142) (v := ?_) rfl rfl ?_ ?_
     rotate_left
     ·
      (intro w _; go_simp; (try with_reducible rfl))
     simp only [Act.put, stB, stZ, stS]
     refine wpAnyH_ready (rs := [16]) (by kernel_rfl) (by simp) ?_
     refine (AllReadyH.cons rfl (fun K hK => ?_) AllReadyH.nil)
     go_simp
     refine (HVB.out _ (bthen HBR.out HB.out)).mono ?_
     rintro e w16 ⟨rfl, hb⟩
     replace HB := Lib.hid (bthen HB.out hb)
     have hKK := And.intro (hu hb (hHeld.1)) <| And.intro (hu hb (hHeld.2.1)) <| And.intro (hu hb (hHeld.2.2.1)) <| And.intro (hu hb (hHeld.2.2.2.1)) <| And.intro (hu hb (hHeld.2.2.2.2.1)) <| And.intro (hu hb (hHeld.2.2.2.2.2.1)) <| And.intro (hu hb (hHeld.2.2.2.2.2.2.1)) <| And.intro (hu hb (hHeld.2.2.2.2.2.2.2.1)) <| hu hb (hHeld.2.2.2.2.2.2.2.2)
     clear hb
     refine hK.out _ _ (hKK) (fun hHeld2 => ?_)
     clear hK K hHeld
     rename _ => hHeld
     try simp only [Act.put, stB, stZ, stS]
     refine tk 17 (some 137) (v := ?_) rfl rfl ?_ ?_
     rotate_left
     ·
      (intro w _; go_simp; (try with_reducible rfl))
     simp only [Act.put, stB, stZ, stS]
     refine tk 18 (some 138) (v := ?_) rfl rfl ?_ ?_
     rotate_left
     ·
      (intro w _; go_simp; (try with_reducible rfl))
     simp only [Act.put, stB, stZ, stS]
     refine tk 19 (some 139) (v := ?_) rfl rfl ?_ ?_
     rotate_left
     ·
      (intro w _; go_simp; (try with_reducible rfl))
     simp only [Act.put, stB, stZ, stS]
     refine tk 20 (some 140) (v := ?_) rfl rfl ?_ ?_
     rotate_left
     ·
      (intro w _; go_simp; (try with_reducible rfl))
     simp only [Act.put, stB, stZ, stS]
     refine wpAnyH_ready (rs := [23]) (by kernel_rfl) (by simp) ?_
     refine (AllReadyH.cons rfl (fun K hK => ?_) AllReadyH.nil)
     go_simp
     refine (HFT.out _ (bthen HBR.out HB.out)).mono ?_
     rintro e w17 ⟨rfl, hb⟩
     replace HB := Lib.hid (bthen HB.out hb)
     have hKK := And.intro (hu hb (hHeld.1)) <| And.intro (hu hb (hHeld.2.1)) <| And.intro (hu hb (hHeld.2.2.1)) <| And.intro (hu hb (hHeld.2.2.2.1)) <| And.intro (hu hb (hHeld.2.2.2.2.1)) <| And.intro (hu hb (hHeld.2.2.2.2.2.1)) <| And.intro (hu hb (hHeld.2.2.2.2.2.2.1)) <| And.intro (hu hb (hHeld.2.2.2.2.2.2.2.1)) <| hu hb (hHeld.2.2.2.2.2.2.2.2)
     clear hb
     refine hK.out _ _ (hKK) (fun hHeld2 => ?_)
     clear hK K hHeld
     rename _ => hHeld
     try simp only [Act.put, stB, stZ, stS]
     refine tk 24 (some 144) (v := ?_) rfl rfl ?_ ?_
     rotate_left
     ·
      (intro w _; go_simp; (try with_reducible rfl))
     simp only [Act.put, stB, stZ, stS]
     refine tk 25 (some 145) (v := ?_) rfl rfl ?_ ?_
     rotate_left
     ·
      (intro w _; go_simp; (try with_reducible rfl))
     simp only [Act.put, stB, stZ, stS]
     refine tk 26 (some 4) (v := ?_) rfl rfl ?_ ?_
     rotate_left
     ·
      (intro w _; go_simp; (try with_reducible rfl))
     simp only [Act.put, stB, stZ, stS]
     refine wpAnyH_done (by kernel_rfl) ?_ _
     (try simp only [Exit.inBlock, Exit.then])
     clear hHeld
     go_wp2_with fail
     go_ret
     exact ⟨rfl, bthen HB5.out (bthen HBR.out HB.out)⟩
 ·
  have e1 : ((yn : Int) == (m : Int)) = false := by simp; omega
  have e2 : (yn == m) = false := by simp; omega
  have e3 : decide (yn = m) = false := decide_eq_false hym
  have HNE := Lib.hid hym
  clear hym
  go_wp2_with fail
  refine (lift_no ma n mc cols ba bc sca scc m la lc ua yn uc w7 hyl (by omega) HNE.out).mono ?_
  rintro e w8 ⟨rfl, hb⟩
  have HB8 := Lib.hid hb
  have p8 := hu hb p0
  clear hb p0 p1 s0 s1 s2 s3 s4 s5
  go_wp2_with fail
  go_ret
  exact ⟨rfl, bthen HB5.out HB8.out⟩
end Go.Proofs.Ytndndfobkbeolaa
