/-
 ProbMixes of actuarylaw16 answers true; the conditions: what is handed in is in memory, and is not too much.
 Printed by a program of this repository (wip/pc9.py).
-/
import Derived.Test.YtndndfobkbeolaaTG
import Derived.Test.YtndndfobkbeolaaTC
import Derived.Test.YtndndfobkbeolaaTV
import Derived.Test.YtndndfobkbeolaaTL
import Derived.Test.YtndndfobkbeolaaTK
set_option linter.unusedVariables false
set_option linter.unusedSimpArgs false
namespace Go.Proofs.Ytndndfobkbeolaa
open Go.RowKit Go.Extern.Stop Go.Stop Go.Extern
theorem Short.long' {q : Rat} (h : Short q) : Long 1 q := ⟨h.1, h.2⟩
theorem RetRB.rv {q : Rat} {ok : Bool} {w w' : World} {e : Ending} (h : RetRB q ok w e w') : RetRB2 q ok w e w' := by
 obtain ⟨a, c, b, d, he, h1, h2, h3⟩ := h
 exact ⟨⟨decide (q.num < 0), a, lenW q.num.natAbs, c, b, lenW (denN q.den), d, q⟩, he, ⟨rfl, rfl, rfl, h1, h2⟩, rfl, h3⟩
theorem tq {n : Int} (h0 : 0 ≤ n) (h1 : n ≤ 255) : 0 ≤ Rat.divInt n 255 ∧ Rat.divInt n 255 ≤ 1 := by
 have e : Rat.divInt n 255 = (n : Rat) / 255 := by
  rw [Rat.divInt_eq_div]; rfl
 have h2 : (0 : Rat) ≤ (n : Rat) := Rat.intCast_le_intCast.2 h0
 have h3 : (n : Rat) ≤ ((255 : Int) : Rat) := Rat.intCast_le_intCast.2 h1
 have h4 : ((255 : Int) : Rat) = 255 := rfl
 rw [h4] at h3
 rw [e]
 generalize (n : Rat) = x at *
 constructor
 ·
  grind
 ·
  grind
theorem mix_min {A B C t : Rat} (h0 : 0 ≤ t) (h1 : t ≤ 1) (hC : C = t * A + (1 - t) * B) : 0 ≤ cmpR C (if cmpR B A < 0 then B else A) ∧ cmpR C (if 0 < cmpR B A then B else A) ≤ 0 := by
 obtain ⟨-, -, b3, b4⟩ := between h0 h1 (a := A) (b := B)
 rw [← hC] at b3 b4
 have hge : ∀ x y : Rat, y ≤ x → 0 ≤ cmpR x y := fun x y h => by
  unfold cmpR
  rw [if_neg (Rat.not_lt.2 h)]
  split <;> omega
 have hle : ∀ x y : Rat, x ≤ y → cmpR x y ≤ 0 := fun x y h => by
  unfold cmpR
  split
  ·
   omega
  ·
   rw [if_neg (Rat.not_lt.2 h)]; omega
 rcases (Rat.le_total : A ≤ B ∨ B ≤ A) with h | h
 ·
  obtain ⟨h2, h3⟩ := b3 h
  rw [if_neg (Int.not_lt.2 (hge B A h))]
  refine ⟨hge _ _ h2, ?_⟩
  split
  ·
   exact hle _ _ h3
  ·
   rename_i hn
   have : ¬ A < B := fun hlt => hn (by unfold cmpR; rw [if_neg (Rat.not_lt.2 h), if_pos hlt]; omega)
   have e : A = B := Rat.le_antisymm h (Rat.not_lt.1 this)
   rw [e]; exact hle _ _ h3
 ·
  obtain ⟨h2, h3⟩ := b4 h
  rw [if_neg (Int.not_lt.2 (hle B A h))]
  refine ⟨?_, hle _ _ h3⟩
  split
  ·
   exact hge _ _ h2
  ·
   rename_i hn
   have : ¬ B < A := fun hlt => hn (by unfold cmpR; rw [if_pos hlt]; omega)
   have e : B = A := Rat.le_antisymm h (Rat.not_lt.1 this)
   rw [← e]; exact hge _ _ h2
theorem fits_true {m : Nat} {rows : List PRow} {xs : List Rv} {xn : Nat} (h : fitsQ m rows xs xn = true) : xn = m ∧ belowQ (qs xs) = false ∧ ∀ r, r ∈ rows → rowHolds r xs xn = true := by
 unfold fitsQ at h
 simp only [Bool.and_eq_true, decide_eq_true_eq, Bool.not_eq_true', List.all_eq_true] at h
 exact ⟨h.1.1, h.1.2, h.2⟩
theorem addT_long {B C D : Nat} {r : Rat} : ∀ {us vs : List Rat}, AllL B us → Long C r → AllL D vs → AllL (B + (C + D) + 1) (addT us r vs)
 | [], vs, _, _, _ => fun q hq => by cases vs <;> cases hq
 | u :: us, [], _, _, _ => fun q hq => by cases hq
 | u :: us, v :: vs, h1, h2, h3 => fun q hq => by
  rcases List.mem_cons.1 (show q ∈ (u + r * v) :: addT us r vs from hq) with rfl | hq
  ·
   exact (h1 u (List.mem_cons_self ..)).add (h2.mul (h3 v (List.mem_cons_self ..)))
  ·
   exact addT_long (fun q hq => h1 q (List.mem_cons_of_mem _ hq)) h2 (fun q hq => h3 q (List.mem_cons_of_mem _ hq)) q hq
theorem canAT_long {B C D : Nat} {us vs : List Rat} {r : Rat} (h1 : AllL B us) (h2 : Long C r) (h3 : AllL D vs) (hs : B + C + D ≤ 1000000) : CanAT us r vs := fun k p q hp hq =>
 ⟨canMul_long h2 (h3.get hq) (by omega), canAdd_long (h1.get hp) (h2.mul (h3.get hq)) (by omega)⟩
set_option maxRecDepth 100000 in
set_option maxHeartbeats 16000000 in
theorem probMixes_any (xa0 : Option Addr) (cn xc0 : Nat) (ra : Option Addr) (rn rc : Nat) (cost : List Fr) (lines : List LRow) (fa : Option Addr) (fn fc : Nat) (fs : List Fr) (ga0 : Option Addr) (gn gc : Nat) (gs : List Fr) (nw : Int) (w : World) (h : RawW w xa0 cn xc0 ra rn rc cost lines) (hf : FrW w fa fn fc fs) (hg : FrW w ga0 gn gc gs)
  (hln : ∀ r, r ∈ lines → r.n ≤ 1100000) (hfn : fn ≤ 1100000) (hgn : gn ≤ 1100000) (hw : 0 ≤ nw ∧ nw ≤ 255) :
  Calls Try.prog 7 #[.agg #[.slice xa0 cn xc0, .slice ra rn rc], .slice fa fn fc, .slice ga0 gn gc, .int .u8 nw] w fun e w' => e = .returned (.bool true) ∧ Below w.heap.size w w' := by
 obtain ⟨m, hm⟩ : ∃ m, min cn 5 = m := ⟨_, rfl⟩
 obtain ⟨n, hn⟩ : ∃ n, min rn 4 = n := ⟨_, rfl⟩
 have hm5 : m ≤ 5 := by omega
 have hmc : m ≤ cn := by omega
 have hnr : n ≤ rn := by omega
 have HRT := Lib.hid (fun (W : World) (hb : Below w.heap.size w W) => (show Calls Try.prog 20 #[.agg #[.slice xa0 cn xc0, .slice ra rn rc]] W (RightR m n (cost.take m) (lines.take n) W) from by
  have h1 := right_any xa0 cn xc0 ra rn rc cost lines W (h.below hb) hln
  rw [hm, hn] at h1
  exact h1))
 have hcut := h.cut m n hmc hnr
 have HSC := Lib.hid (show ∀ q, q ∈ (cost.take m).map fracQ → Short q from short_frac hcut.cost.ok)
 have HRL := Lib.hid (fun (rows : List PRow) (hr : rows.map prowQ = ((lines.take n).map lineQ).map (rightQ m)) => rightL_rows hm5 hcut.ok hr)
 have HMX := Lib.hid (fun (W : World) (hb : Below w.heap.size w W) => mk10_any fa fn fc fs W (hf.below hb).sl hf.len hf.ok hfn)
 have HMY := Lib.hid (fun (W : World) (hb : Below w.heap.size w W) => mk10_any ga0 gn gc gs W (hg.below hb).sl hg.len hg.ok hgn)
 have HLX := Lib.hid (show AllL 1 (fs.map fracQ) from allL_frac hf.ok)
 have HLY := Lib.hid (show AllL 1 (gs.map fracQ) from allL_frac hg.ok)
 obtain ⟨TQ, hTQ⟩ : ∃ q, Rat.divInt nw 255 = q := ⟨_, rfl⟩
 have ht := tq hw.1 hw.2
 have htl : Long 1 (Rat.divInt nw 255) := Long.divInt (by decide) (lenW_word.2 (by unfold W64; omega)) (lenW_word.2 (by unfold W64; decide))
 have HOF := Lib.hid (fun (W : World) => (show Calls Try.prog 35 #[.int .i64 nw, .int .i64 255] W (RetRB2 TQ true W) from by
  have h1 := rof_any (by decide : 1 ≤ 17592186044416) div_upto_word (by decide) (by decide) nw 255 W (by omega) (by omega) (by decide) (by decide) (by decide)
  rw [hTQ] at h1
  exact h1.mono fun e w' hr => hr.rv))
 rw [hTQ] at ht htl
 have HT01 := Lib.hid ht
 have HTL := Lib.hid htl
 have hw0 := hw.1
 have hw1' := hw.2
 obtain ⟨w1, hw1⟩ : ∃ w1, w.alloc (.cells #[.slice xa0 cn xc0, .slice ra rn rc] 25) = w1 := ⟨_, rfl⟩
 obtain ⟨qb, hqb⟩ : ∃ qb, w.heap.size = qb := ⟨_, rfl⟩
 have HQB := Lib.hid (show w1.heap[qb]? = some (.cells #[.slice xa0 cn xc0, .slice ra rn rc] 25 (0, 0)) by rw [← hw1, ← hqb]; exact heap_alloc_new w _)
 have HB1 := Lib.hid (show Below w.heap.size w w1 by rw [← hw1]; exact belowBox w _)
 have HAW := Lib.hid (awake_any w1)
 have HW1 := Lib.hid hw1
 have HQE := Lib.hid hqb
 clear h hf hg hln hm hn hmc hnr hcut hw1 hqb hw ht htl hTQ
 go_enter Try.func7, Try.ntmps7
 go_upto_region 1 with fail
 (try simp only [HW1.out])
 (try simp only [HQE.out])
 clear HW1 HQE
 go_wp2_with fail
 refine HAW.out.mono ?_
 rintro e w2 ⟨rfl, hb⟩
 replace HQB := Lib.hid ((hb.block qb (lt_of_block HQB.out)).trans HQB.out)
 replace HB1 := Lib.hid (bthen HB1.out hb)
 have q0 := cell_of_block (j := 0) HQB.out rfl
 have q1 := cell_of_block (j := 1) HQB.out rfl
 clear hb HAW
 go_wp2_with fail
 clear q0 q1
 refine (HRT.out w2 HB1.out).mono ?_
 rintro e w3 ⟨ca, cc, pa, pc, cs, rows, rfl, hpr, hcq, hrq⟩
 have hpw := hpr.prw
 have hrl := HRL.out rows hrq
 have HRN := Lib.hid (show ∀ r, r ∈ rows → r.n = m from fun r hr => by
  have h1 := (hpw.ok r hr).vec.len
  have h2 := hrl.len r hr
  rw [qs_len] at h2
  omega)
 have HRK := Lib.hid hrl.kind
 have HRQ := Lib.hid (show ∀ r, r ∈ rows → AllL 1 (qs r.coef) ∧ Long 1 r.rhs.q ∧ (qs r.coef).length = m from fun r hr => ⟨fun q hq => (hrl.coef r hr q hq).long', (hrl.rhs r hr).long', hrl.len r hr⟩)
 have HCQ := Lib.hid (show AllL 1 (qs cs) from fun q hq => (HSC.out q (by rw [← hcq]; exact hq)).long')
 have HCSL := Lib.hid (show (qs cs).length = m by rw [qs_len]; exact hpw.cost.len)
 have HPR := Lib.hid hpw
 replace HB1 := Lib.hid (bthen HB1.out hpr.bel)
 clear hpr hcq hrq hrl hpw HRT HSC HRL HQB
 go_wp2_with fail
 refine (HMX.out w3 HB1.out).mono ?_
 rintro e w3x ⟨xa, xc, xs, rfl, hvx⟩
 replace HPR := Lib.hid (HPR.out.below hvx.bel)
 replace HB1 := Lib.hid (bthen HB1.out hvx.bel)
 have HXV0 := Lib.hid hvx.vec
 have HXQ := Lib.hid (show AllL 1 (qs xs) by rw [hvx.q]; exact HLX.out)
 have HXLEN := Lib.hid (show (qs xs).length = fn by rw [qs_len]; exact hvx.len)
 clear hvx HMX HLX
 go_wp2_with fail
 refine (HMY.out w3x HB1.out).mono ?_
 rintro e w4 ⟨ya, yc, ys, rfl, hvy⟩
 have hal := belowBox w4 (.cells #[.slice ca m cc, .slice pa n pc] 31)
 have hpw := (HPR.out.below hvy.bel).below hal
 have hxv := (HXV0.out.below hvy.bel).below hal
 have hyv := hvy.vec.below hal
 have HPW := Lib.hid (fun (W : World) (hb : Below (w4.alloc (.cells #[.slice ca m cc, .slice pa n pc] 31)).heap.size (w4.alloc (.cells #[.slice ca m cc, .slice pa n pc] 31)) W) => hpw.below hb)
 have HXV := Lib.hid (fun (W : World) (hb : Below (w4.alloc (.cells #[.slice ca m cc, .slice pa n pc] 31)).heap.size (w4.alloc (.cells #[.slice ca m cc, .slice pa n pc] 31)) W) => hxv.below hb)
 have HYV := Lib.hid (fun (W : World) (hb : Below (w4.alloc (.cells #[.slice ca m cc, .slice pa n pc] 31)).heap.size (w4.alloc (.cells #[.slice ca m cc, .slice pa n pc] 31)) W) => hyv.below hb)
 have HYQ := Lib.hid (show AllL 1 (qs ys) by rw [hvy.q]; exact HLY.out)
 have HYLEN := Lib.hid (show (qs ys).length = gn by rw [qs_len]; exact hvy.len)
 have HPX := Lib.hid (heap_alloc_new w4 (.cells #[.slice ca m cc, .slice pa n pc] 31))
 have HB5 := Lib.hid (bthen (bthen HB1.out hvy.bel) hal)
 clear hvy hal hpw hxv hyv HMY HLY HPR HXV0 HB1
 go_upto_region 4 with fail
 generalize w4.heap.size = pb at HPX ⊢
 generalize w4.alloc (.cells #[.slice ca m cc, .slice pa n pc] 31) = w5 at HPX HPW HXV HYV HB5 ⊢
 have HPC := Lib.hid (fun (W : World) (hb : Below w5.heap.size w5 W) => (show W.cell? ⟨pb, 0, none⟩ = some (.slice ca m cc) ∧ W.cell? ⟨pb, 1, none⟩ = some (.slice pa n pc) from ⟨hu hb (cell_of_block (j := 0) HPX.out rfl), hu hb (cell_of_block (j := 1) HPX.out rfl)⟩))
 have HCAN := Lib.hid (show ∀ (vs : List Rv) (B : Nat), AllL B (qs vs) → B ≤ 100 → ∀ r, r ∈ rows → CanOver r vs from fun vs B hv hB r hr => by
  obtain ⟨h1, h2, h3⟩ := HRQ.out r hr
  have h4 : (qs r.coef).length * (1 + B + 1) ≤ 5 * 102 := Nat.mul_le_mul (by omega) (by omega)
  exact ⟨canDot_long h1 hv (n := 5) (by omega) (by omega), canAdd_long (B := 511) ((dot_long _ _ h1 hv).mono (by omega)) h2.neg (by omega)⟩)
 have HFX := Lib.hid (fun (W : World) (hb : Below w5.heap.size w5 W) => fits_any ca m cc pa n pc cs rows W (HPW.out W hb) xa fn xc xs (HXV.out W hb) (fun r hr _ _ => HCAN.out xs 1 HXQ.out (by omega) r hr))
 have HFY := Lib.hid (fun (W : World) (hb : Below w5.heap.size w5 W) => fits_any ca m cc pa n pc cs rows W (HPW.out W hb) ya gn yc ys (HYV.out W hb) (fun r hr _ _ => HCAN.out ys 1 HYQ.out (by omega) r hr))
 clear HPX
 obtain ⟨FX, hFX⟩ : ∃ FX, fitsQ m rows xs fn = FX := ⟨_, rfl⟩
 obtain ⟨FY, hFY⟩ : ∃ FY, fitsQ m rows ys gn = FY := ⟨_, rfl⟩
 rw [hFX] at HFX
 rw [hFY] at HFY
 have HQX := Lib.hid hFX
 have HQY := Lib.hid hFY
 clear hFX hFY
 obtain ⟨p0, p1⟩ := HPC.out w5 (Below.refl _ _)
 cases FX with
 | false =>
  go_wp2_with fail
  refine (HFX.out w5 (Below.refl _ _)).mono ?_
  rintro e w6 ⟨rfl, hb⟩
  have HB := Lib.hid hb
  clear hb
  go_wp2_with fail
  go_ret
  exact ⟨rfl, bthen HB5.out HB.out⟩
 | true =>
  go_wp2_with fail
  refine (HFX.out w5 (Below.refl _ _)).mono ?_
  rintro e w6 ⟨rfl, hb⟩
  have HBR := Lib.hid hb
  clear hb p0 p1
  obtain ⟨p0, p1⟩ := HPC.out w6 HBR.out
  go_wp2_with fail
  refine (HFY.out w6 HBR.out).mono ?_
  rintro e w6b ⟨rfl, hb⟩
  replace HBR := Lib.hid (bthen HBR.out hb)
  clear hb p0 p1
  cases FY with
  | false =>
   go_wp2_with fail
   go_ret
   exact ⟨rfl, bthen HB5.out HBR.out⟩
  | true =>
   obtain ⟨ex, hbx, hax⟩ := fits_true HQX.out
   obtain ⟨ey, hby, hay⟩ := fits_true HQY.out
   have HAX := Lib.hid hax
   have HAY := Lib.hid hay
   have HBX := Lib.hid hbx
   have HBY := Lib.hid hby
   clear hax hay hbx hby HFX HFY HQX HQY
   obtain ⟨yn, hyn⟩ : ∃ yn, yn = m := ⟨_, rfl⟩
   have ex2 : yn = fn := by rw [hyn, ex]
   have ey2 : yn = gn := by rw [hyn, ey]
   clear ex ey
   subst ex2
   subst ey2
   subst hyn
   have HIX := Lib.hid (show (qs xs).length = (qs ys).length by rw [HXLEN.out, HYLEN.out])
   go_wp2_with fail
   refine (HOF.out _).mono ?_
   rintro e w6c ⟨tv, rfl, hto, htq2, hb⟩
   unfold Rv.val
   have hal := belowBox w6c (.cells #[.bool tv.s, .slice tv.a tv.l tv.c, .slice tv.b tv.m tv.d] 40)
   have hto2 := hto.below hal
   have HTX := Lib.hid (heap_alloc_new w6c (.cells #[.bool tv.s, .slice tv.a tv.l tv.c, .slice tv.b tv.m tv.d] 40))
   have HTQ := Lib.hid htq2
   have HTV := Lib.hid (fun (W : World) (hb : Below (w6c.alloc (.cells #[.bool tv.s, .slice tv.a tv.l tv.c, .slice tv.b tv.m tv.d] 40)).heap.size (w6c.alloc (.cells #[.bool tv.s, .slice tv.a tv.l tv.c, .slice tv.b tv.m tv.d] 40)) W) => hto2.below hb)
   replace HBR := Lib.hid (bthen HBR.out (bthen hb hal))
   clear hto hto2 htq2 hb hal
   go_upto_region 7 with fail
   generalize w6c.heap.size = tb at HTX ⊢
   generalize w6c.alloc (.cells #[.bool tv.s, .slice tv.a tv.l tv.c, .slice tv.b tv.m tv.d] 40) = w7 at HTX HTV HBR ⊢
   have H1 := Lib.hid (show Long 1 ((1 : Int) : Rat) from Long.whole (by unfold W64; decide))
   have HCS := Lib.hid (show CanAdd ((1 : Int) : Rat) (-TQ) from canAdd_long H1.out HTL.out.neg (by omega))
   have HSL := Lib.hid (show Long 3 (((1 : Int) : Rat) - TQ) from H1.out.sub HTL.out)
   have HL1 := Lib.hid (show AllL 4 (addT (List.replicate yn 0) TQ (qs xs)) from (addT_long (allL_zeros yn) HTL.out HXQ.out).mono (by omega))
   have HC1 := Lib.hid (show CanAT (List.replicate yn 0) TQ (qs xs) from canAT_long (allL_zeros yn) HTL.out HXQ.out (by omega))
   have HC2 := Lib.hid (show CanAT (addT (List.replicate yn 0) TQ (qs xs)) (((1 : Int) : Rat) - TQ) (qs ys) from canAT_long HL1.out HSL.out HYQ.out (by omega))
   have HL2 := Lib.hid (show AllL 9 (addT (addT (List.replicate yn 0) TQ (qs xs)) (((1 : Int) : Rat) - TQ) (qs ys)) from (addT_long HL1.out HSL.out HYQ.out).mono (by omega))
   obtain ⟨Z, hZ⟩ : ∃ Z, addT (addT (List.replicate yn 0) TQ (qs xs)) (((1 : Int) : Rat) - TQ) (qs ys) = Z := ⟨_, rfl⟩
   have hZM : Z = mixT TQ (qs xs) (qs ys) := by rw [← hZ]; unfold mixT; rw [HXLEN.out]; rfl
   have HMIX := Lib.hid hZ
   have HZM := Lib.hid hZM
   rw [hZ] at HL2
   clear hZ hZM
   have hK0 : w7.drew.cell? ⟨tb, 0, none⟩ = some (.bool tv.s) ∧ w7.drew.cell? ⟨tb, 1, none⟩ = some (.slice tv.a tv.l tv.c) ∧ w7.drew.cell? ⟨tb, 2, none⟩ = some (.slice tv.b tv.m tv.d) := ⟨cell_of_block (j := 0) HTX.out rfl, cell_of_block (j := 1) HTX.out rfl, cell_of_block (j := 2) HTX.out rfl⟩
   go_cut [14, 15] (fun v14 v15 wx => ∃ za zc zs, v14 = .slice za yn zc ∧ v15 = .bool true ∧ VecW wx za yn zc zs ∧ qs zs = Z ∧ Below w7.heap.size w7 wx)
   case first =>
    refine wp_region_held_drew (S := fun W => W.cell? ⟨tb, 0, none⟩ = some (.bool tv.s) ∧ W.cell? ⟨tb, 1, none⟩ = some (.slice tv.a tv.l tv.c) ∧ W.cell? ⟨tb, 2, none⟩ = some (.slice tv.b tv.m tv.d)) (by kernel_rfl) (hK0) (fun hHeld => ?_)
    have HB := Lib.hid (show Below w7.heap.size w7 w7.drew from Below.drawn w7 1)
    generalize w7.drew = wd at HB hHeld ⊢
    refine tk 0 (some 47) (v := ?_) rfl rfl ?_ ?_
    rotate_left
    ·
     (intro w hSw; (try dsimp only at hSw); ((try obtain ⟨hS0, hS1, hS2⟩ := hSw); go_simp); (try with_reducible rfl))
    simp only [Act.put, stB, stZ, stS]
    refine tk 2 (some 49) (v := ?_) rfl rfl ?_ ?_
    rotate_left
    ·
     (intro w hSw; (try dsimp only at hSw); ((try obtain ⟨hS0, hS1, hS2⟩ := hSw); go_simp); (try with_reducible rfl))
    simp only [Act.put, stB, stZ, stS]
    refine tk 5 (some 52) (v := ?_) rfl rfl ?_ ?_
    rotate_left
    ·
     (intro w _; go_simp; (try with_reducible rfl))
    simp only [Act.put, stB, stZ, stS]
    refine tk 6 (some 53) (v := ?_) rfl rfl ?_ ?_
    rotate_left
    ·
     (intro w _; go_simp; (try with_reducible rfl))
    simp only [Act.put, stB, stZ, stS]
    refine wpAnyH_ready (rs := [1, 7]) (by kernel_rfl) (by simp) ?_
    refine (AllReadyH.cons rfl (fun K hK => ?_) (AllReadyH.cons rfl (fun K hK => ?_) AllReadyH.nil))
    ·
     skip
     go_simp
     refine (vint_any 1 wd (by unfold I64; omega)).mono ?_
     rintro e y1 ⟨iv, rfl, hio, hiq, hb⟩
     unfold Rv.val
     replace HB := Lib.hid (bthen HB.out hb)
     have hKK := And.intro (hu hb (hHeld.1)) <| And.intro (hu hb (hHeld.2.1)) <| hu hb (hHeld.2.2)
     have HIV := Lib.hid (And.intro hio hiq)
     clear hb hio hiq
     refine hK.out _ _ (hKK) (fun hHeld2 => ?_)
     clear hK K hHeld
     rename _ => hHeld
     try simp only [Act.put, stB, stZ, stS]
     refine wpAnyH_ready (rs := [3, 7]) (by kernel_rfl) (by simp) ?_
     refine (AllReadyH.cons rfl (fun K hK => ?_) (AllReadyH.cons rfl (fun K hK => ?_) AllReadyH.nil))
     ·
      skip
      go_simp
      refine (canSub HCS.out iv tv y1 HIV.out.1 (HTV.out _ HB.out) HIV.out.2 HTQ.out).mono ?_
      rintro e y2 ⟨sw, rfl, hso, hsq, hb⟩
      unfold Rv.val
      replace HB := Lib.hid (bthen HB.out hb)
      have hKK := And.intro (hu hb (hHeld.1)) <| And.intro (hu hb (hHeld.2.1)) <| hu hb (hHeld.2.2)
      have HSW := Lib.hid (And.intro hso hsq)
      clear hb hso hsq HIV
      refine hK.out _ _ (hKK) (fun hHeld2 => ?_)
      clear hK K hHeld
      rename _ => hHeld
      try simp only [Act.put, stB, stZ, stS]
      refine wpAnyH_ready (rs := [4, 7]) (by kernel_rfl) (by simp) ?_
      refine (AllReadyH.cons rfl (fun K hK => ?_) (AllReadyH.cons rfl (fun K hK => ?_) AllReadyH.nil))
      ·
       skip
       go_simp
       have hb := belowBox y2 (.cells #[.bool tv.s, .slice tv.a tv.l tv.c, .slice tv.b tv.m tv.d, .bool sw.s, .slice sw.a sw.l sw.c, .slice sw.b sw.m sw.d] 40)
       have HVT := Lib.hid (show VecW (y2.alloc (.cells #[.bool tv.s, .slice tv.a tv.l tv.c, .slice tv.b tv.m tv.d, .bool sw.s, .slice sw.a sw.l sw.c, .slice sw.b sw.m sw.d] 40)) (some ⟨y2.heap.size, 0, none⟩) 2 2 [tv, sw] from ⟨rfl, Sl.lit y2 40 3 2 ([tv, sw].flatMap Rv.cells) (by unfold maxLen; omega) rfl, fun v hv => by
        rcases List.mem_cons.1 hv with rfl | hv
        ·
         exact (HTV.out _ HB.out).below hb
        ·
         rw [List.mem_singleton.1 hv]; exact HSW.out.1.below hb⟩)
       replace HB := Lib.hid (bthen HB.out hb)
       have hKK := And.intro (hu hb (hHeld.1)) <| And.intro (hu hb (hHeld.2.1)) <| hu hb (hHeld.2.2)
       replace HSW := Lib.hid (And.intro (HSW.out.1.below hb) HSW.out.2)
       clear hb
       generalize y2.heap.size = ga at HVT ⊢
       generalize y2.alloc (.cells #[.bool tv.s, .slice tv.a tv.l tv.c, .slice tv.b tv.m tv.d, .bool sw.s, .slice sw.a sw.l sw.c, .slice sw.b sw.m sw.d] 40) = y3 at HB hKK HSW HVT ⊢
       refine hK.out _ _ (hKK) (fun hHeld2 => ?_)
       clear hK K hHeld
       rename _ => hHeld
       try simp only [Act.put, stB, stZ, stS]
       refine wpAnyH_ready (rs := [7]) (by kernel_rfl) (by simp) ?_
       refine (AllReadyH.cons rfl (fun K hK => ?_) AllReadyH.nil)
       go_simp
       have hb := belowBox y3 (.cells #[.slice xa yn xc, .slice ya yn yc] 28)
       have HGB := Lib.hid (show (y3.alloc (.cells #[.slice xa yn xc, .slice ya yn yc] 28)).cell? ⟨y3.heap.size, 0, none⟩ = some (.slice xa yn xc) ∧ (y3.alloc (.cells #[.slice xa yn xc, .slice ya yn yc] 28)).cell? ⟨y3.heap.size, 1, none⟩ = some (.slice ya yn yc) from ⟨cell_of_block (j := 0) (heap_alloc_new _ _) rfl, cell_of_block (j := 1) (heap_alloc_new _ _) rfl⟩)
       replace HSW := Lib.hid (And.intro (HSW.out.1.below hb) HSW.out.2)
       replace HVT := Lib.hid (HVT.out.below hb)
       replace HB := Lib.hid (bthen HB.out hb)
       have hKK := And.intro (hu hb (hHeld.1)) <| And.intro (hu hb (hHeld.2.1)) <| hu hb (hHeld.2.2)
       clear hb
       generalize y3.heap.size = gb at HGB ⊢
       generalize y3.alloc (.cells #[.slice xa yn xc, .slice ya yn yc] 28) = y4 at HB hKK HSW HVT HGB ⊢
       refine hK.out _ _ (hKK) (fun hHeld2 => ?_)
       clear hK K hHeld
       rename _ => hHeld
       try simp only [Act.put, stB, stZ, stS]
       refine wpAnyH_ready (rs := [8]) (by kernel_rfl) (by simp) ?_
       refine (AllReadyH.cons rfl (fun K hK => ?_) AllReadyH.nil)
       go_simp
       refine (combine2_any ga gb tv sw xa yn xc xs ya yc ys y4 HVT.out HGB.out.1 HGB.out.2 (HXV.out _ (bthen HBR.out HB.out)) (HYV.out _ (bthen HBR.out HB.out)) (by omega) (by rw [HTQ.out]; exact HC1.out) (by rw [HTQ.out, HSW.out.2]; exact HC2.out)).mono ?_
       rintro e y5 ⟨za, zc, zs, rfl, hz⟩
       have hb := hz.bel
       have HZV := Lib.hid (And.intro hz.vec hz.q)
       replace HB := Lib.hid (bthen HB.out hb)
       have hKK := And.intro (hu hb (hHeld.1)) <| And.intro (hu hb (hHeld.2.1)) <| hu hb (hHeld.2.2)
       clear hb hz
       refine hK.out _ _ (hKK) (fun hHeld2 => ?_)
       clear hK K hHeld
       rename _ => hHeld
       try simp only [Act.put, stB, stZ, stS]
       refine tk 9 (some 46) (v := ?_) rfl rfl ?_ ?_
       rotate_left
       ·
        (intro w _; go_simp; (try with_reducible rfl))
       simp only [Act.put, stB, stZ, stS]
       refine tk 10 (some 56) (v := ?_) rfl rfl ?_ ?_
       rotate_left
       ·
        (intro w _; go_simp; (try with_reducible rfl))
       simp only [Act.put, stB, stZ, stS]
       refine tk 11 (some 57) (v := ?_) rfl rfl ?_ ?_
       rotate_left
       ·
        (intro w _; go_simp; (try with_reducible rfl))
       simp only [Act.put, stB, stZ, stS]
       refine tk 12 (some 14) (v := ?_) rfl rfl ?_ ?_
       rotate_left
       ·
        (intro w _; go_simp; (try with_reducible rfl))
       simp only [Act.put, stB, stZ, stS]
       refine tk 13 (some 15) (v := ?_) rfl rfl ?_ ?_
       rotate_left
       ·
        (intro w _; go_simp; (try with_reducible rfl))
       simp only [Act.put, stB, stZ, stS]
       refine wpAnyH_done (by kernel_rfl) ?_ _
       (try simp only [Exit.inBlock, Exit.then])
       clear hHeld
       go_wp2_with fail
       go_meet
       exact ⟨za, zc, zs, rfl, rfl, HZV.out.1, by rw [HZV.out.2, HTQ.out, HSW.out.2, HMIX.out], HB.out⟩
      ·
       skip
       go_simp
       have hb := belowBox y2 (.cells #[.slice xa yn xc, .slice ya yn yc] 28)
       have HGB := Lib.hid (show (y2.alloc (.cells #[.slice xa yn xc, .slice ya yn yc] 28)).cell? ⟨y2.heap.size, 0, none⟩ = some (.slice xa yn xc) ∧ (y2.alloc (.cells #[.slice xa yn xc, .slice ya yn yc] 28)).cell? ⟨y2.heap.size, 1, none⟩ = some (.slice ya yn yc) from ⟨cell_of_block (j := 0) (heap_alloc_new _ _) rfl, cell_of_block (j := 1) (heap_alloc_new _ _) rfl⟩)
       replace HSW := Lib.hid (And.intro (HSW.out.1.below hb) HSW.out.2)
       replace HB := Lib.hid (bthen HB.out hb)
       have hKK := And.intro (hu hb (hHeld.1)) <| And.intro (hu hb (hHeld.2.1)) <| hu hb (hHeld.2.2)
       clear hb
       generalize y2.heap.size = gb at HGB ⊢
       generalize y2.alloc (.cells #[.slice xa yn xc, .slice ya yn yc] 28) = y3 at HB hKK HSW HGB ⊢
       refine hK.out _ _ (hKK) (fun hHeld2 => ?_)
       clear hK K hHeld
       rename _ => hHeld
       try simp only [Act.put, stB, stZ, stS]
       refine wpAnyH_ready (rs := [4]) (by kernel_rfl) (by simp) ?_
       refine (AllReadyH.cons rfl (fun K hK => ?_) AllReadyH.nil)
       go_simp
       have hb := belowBox y3 (.cells #[.bool tv.s, .slice tv.a tv.l tv.c, .slice tv.b tv.m tv.d, .bool sw.s, .slice sw.a sw.l sw.c, .slice sw.b sw.m sw.d] 40)
       have HVT := Lib.hid (show VecW (y3.alloc (.cells #[.bool tv.s, .slice tv.a tv.l tv.c, .slice tv.b tv.m tv.d, .bool sw.s, .slice sw.a sw.l sw.c, .slice sw.b sw.m sw.d] 40)) (some ⟨y3.heap.size, 0, none⟩) 2 2 [tv, sw] from ⟨rfl, Sl.lit y3 40 3 2 ([tv, sw].flatMap Rv.cells) (by unfold maxLen; omega) rfl, fun v hv => by
        rcases List.mem_cons.1 hv with rfl | hv
        ·
         exact (HTV.out _ HB.out).below hb
        ·
         rw [List.mem_singleton.1 hv]; exact HSW.out.1.below hb⟩)
       replace HGB := Lib.hid (And.intro (hu hb HGB.out.1) (hu hb HGB.out.2))
       replace HB := Lib.hid (bthen HB.out hb)
       have hKK := And.intro (hu hb (hHeld.1)) <| And.intro (hu hb (hHeld.2.1)) <| hu hb (hHeld.2.2)
       replace HSW := Lib.hid (And.intro (HSW.out.1.below hb) HSW.out.2)
       clear hb
       generalize y3.heap.size = ga at HVT ⊢
       generalize y3.alloc (.cells #[.bool tv.s, .slice tv.a tv.l tv.c, .slice tv.b tv.m tv.d, .bool sw.s, .slice sw.a sw.l sw.c, .slice sw.b sw.m sw.d] 40) = y4 at HB hKK HSW HVT HGB ⊢
       refine hK.out _ _ (hKK) (fun hHeld2 => ?_)
       clear hK K hHeld
       rename _ => hHeld
       try simp only [Act.put, stB, stZ, stS]
       refine wpAnyH_ready (rs := [8]) (by kernel_rfl) (by simp) ?_
       refine (AllReadyH.cons rfl (fun K hK => ?_) AllReadyH.nil)
       go_simp
       refine (combine2_any ga gb tv sw xa yn xc xs ya yc ys y4 HVT.out HGB.out.1 HGB.out.2 (HXV.out _ (bthen HBR.out HB.out)) (HYV.out _ (bthen HBR.out HB.out)) (by omega) (by rw [HTQ.out]; exact HC1.out) (by rw [HTQ.out, HSW.out.2]; exact HC2.out)).mono ?_
       rintro e y5 ⟨za, zc, zs, rfl, hz⟩
       have hb := hz.bel
       have HZV := Lib.hid (And.intro hz.vec hz.q)
       replace HB := Lib.hid (bthen HB.out hb)
       have hKK := And.intro (hu hb (hHeld.1)) <| And.intro (hu hb (hHeld.2.1)) <| hu hb (hHeld.2.2)
       clear hb hz
       refine hK.out _ _ (hKK) (fun hHeld2 => ?_)
       clear hK K hHeld
       rename _ => hHeld
       try simp only [Act.put, stB, stZ, stS]
       refine tk 9 (some 46) (v := ?_) rfl rfl ?_ ?_
       rotate_left
       ·
        (intro w _; go_simp; (try with_reducible rfl))
       simp only [Act.put, stB, stZ, stS]
       refine tk 10 (some 56) (v := ?_) rfl rfl ?_ ?_
       rotate_left
       ·
        (intro w _; go_simp; (try with_reducible rfl))
       simp only [Act.put, stB, stZ, stS]
       refine tk 11 (some 57) (v := ?_) rfl rfl ?_ ?_
       rotate_left
       ·
        (intro w _; go_simp; (try with_reducible rfl))
       simp only [Act.put, stB, stZ, stS]
       refine tk 12 (some 14) (v := ?_) rfl rfl ?_ ?_
       rotate_left
       ·
        (intro w _; go_simp; (try with_reducible rfl))
       simp only [Act.put, stB, stZ, stS]
       refine tk 13 (some 15) (v := ?_) rfl rfl ?_ ?_
       rotate_left
       ·
        (intro w _; go_simp; (try with_reducible rfl))
       simp only [Act.put, stB, stZ, stS]
       refine wpAnyH_done (by kernel_rfl) ?_ _
       (try simp only [Exit.inBlock, Exit.then])
       clear hHeld
       go_wp2_with fail
       go_meet
       exact ⟨za, zc, zs, rfl, rfl, HZV.out.1, by rw [HZV.out.2, HTQ.out, HSW.out.2, HMIX.out], HB.out⟩
     ·
      skip
      go_simp
      have hb := belowBox y1 (.cells #[.slice xa yn xc, .slice ya yn yc] 28)
      have HGB := Lib.hid (show (y1.alloc (.cells #[.slice xa yn xc, .slice ya yn yc] 28)).cell? ⟨y1.heap.size, 0, none⟩ = some (.slice xa yn xc) ∧ (y1.alloc (.cells #[.slice xa yn xc, .slice ya yn yc] 28)).cell? ⟨y1.heap.size, 1, none⟩ = some (.slice ya yn yc) from ⟨cell_of_block (j := 0) (heap_alloc_new _ _) rfl, cell_of_block (j := 1) (heap_alloc_new _ _) rfl⟩)
      replace HIV := Lib.hid (And.intro (HIV.out.1.below hb) HIV.out.2)
      replace HB := Lib.hid (bthen HB.out hb)
      have hKK := And.intro (hu hb (hHeld.1)) <| And.intro (hu hb (hHeld.2.1)) <| hu hb (hHeld.2.2)
      clear hb
      generalize y1.heap.size = gb at HGB ⊢
      generalize y1.alloc (.cells #[.slice xa yn xc, .slice ya yn yc] 28) = y2 at HB hKK HIV HGB ⊢
      refine hK.out _ _ (hKK) (fun hHeld2 => ?_)
      clear hK K hHeld
      rename _ => hHeld
      try simp only [Act.put, stB, stZ, stS]
      refine wpAnyH_ready (rs := [3]) (by kernel_rfl) (by simp) ?_
      refine (AllReadyH.cons rfl (fun K hK => ?_) AllReadyH.nil)
      go_simp
      refine (canSub HCS.out iv tv y2 HIV.out.1 (HTV.out _ HB.out) HIV.out.2 HTQ.out).mono ?_
      rintro e y3 ⟨sw, rfl, hso, hsq, hb⟩
      unfold Rv.val
      replace HGB := Lib.hid (And.intro (hu hb HGB.out.1) (hu hb HGB.out.2))
      replace HB := Lib.hid (bthen HB.out hb)
      have hKK := And.intro (hu hb (hHeld.1)) <| And.intro (hu hb (hHeld.2.1)) <| hu hb (hHeld.2.2)
      have HSW := Lib.hid (And.intro hso hsq)
      clear hb hso hsq HIV
      refine hK.out _ _ (hKK) (fun hHeld2 => ?_)
      clear hK K hHeld
      rename _ => hHeld
      try simp only [Act.put, stB, stZ, stS]
      refine wpAnyH_ready (rs := [4]) (by kernel_rfl) (by simp) ?_
      refine (AllReadyH.cons rfl (fun K hK => ?_) AllReadyH.nil)
      go_simp
      have hb := belowBox y3 (.cells #[.bool tv.s, .slice tv.a tv.l tv.c, .slice tv.b tv.m tv.d, .bool sw.s, .slice sw.a sw.l sw.c, .slice sw.b sw.m sw.d] 40)
      have HVT := Lib.hid (show VecW (y3.alloc (.cells #[.bool tv.s, .slice tv.a tv.l tv.c, .slice tv.b tv.m tv.d, .bool sw.s, .slice sw.a sw.l sw.c, .slice sw.b sw.m sw.d] 40)) (some ⟨y3.heap.size, 0, none⟩) 2 2 [tv, sw] from ⟨rfl, Sl.lit y3 40 3 2 ([tv, sw].flatMap Rv.cells) (by unfold maxLen; omega) rfl, fun v hv => by
       rcases List.mem_cons.1 hv with rfl | hv
       ·
        exact (HTV.out _ HB.out).below hb
       ·
        rw [List.mem_singleton.1 hv]; exact HSW.out.1.below hb⟩)
      replace HGB := Lib.hid (And.intro (hu hb HGB.out.1) (hu hb HGB.out.2))
      replace HB := Lib.hid (bthen HB.out hb)
      have hKK := And.intro (hu hb (hHeld.1)) <| And.intro (hu hb (hHeld.2.1)) <| hu hb (hHeld.2.2)
      replace HSW := Lib.hid (And.intro (HSW.out.1.below hb) HSW.out.2)
      clear hb
      generalize y3.heap.size = ga at HVT ⊢
      generalize y3.alloc (.cells #[.bool tv.s, .slice tv.a tv.l tv.c, .slice tv.b tv.m tv.d, .bool sw.s, .slice sw.a sw.l sw.c, .slice sw.b sw.m sw.d] 40) = y4 at HB hKK HSW HVT HGB ⊢
      refine hK.out _ _ (hKK) (fun hHeld2 => ?_)
      clear hK K hHeld
      rename _ => hHeld
      try simp only [Act.put, stB, stZ, stS]
      refine wpAnyH_ready (rs := [8]) (by kernel_rfl) (by simp) ?_
      refine (AllReadyH.cons rfl (fun K hK => ?_) AllReadyH.nil)
      go_simp
      refine (combine2_any ga gb tv sw xa yn xc xs ya yc ys y4 HVT.out HGB.out.1 HGB.out.2 (HXV.out _ (bthen HBR.out HB.out)) (HYV.out _ (bthen HBR.out HB.out)) (by omega) (by rw [HTQ.out]; exact HC1.out) (by rw [HTQ.out, HSW.out.2]; exact HC2.out)).mono ?_
      rintro e y5 ⟨za, zc, zs, rfl, hz⟩
      have hb := hz.bel
      have HZV := Lib.hid (And.intro hz.vec hz.q)
      replace HB := Lib.hid (bthen HB.out hb)
      have hKK := And.intro (hu hb (hHeld.1)) <| And.intro (hu hb (hHeld.2.1)) <| hu hb (hHeld.2.2)
      clear hb hz
      refine hK.out _ _ (hKK) (fun hHeld2 => ?_)
      clear hK K hHeld
      rename _ => hHeld
      try simp only [Act.put, stB, stZ, stS]
      refine tk 9 (some 46) (v := ?_) rfl rfl ?_ ?_
      rotate_left
      ·
       (intro w _; go_simp; (try with_reducible rfl))
      simp only [Act.put, stB, stZ, stS]
      refine tk 10 (some 56) (v := ?_) rfl rfl ?_ ?_
      rotate_left
      ·
       (intro w _; go_simp; (try with_reducible rfl))
      simp only [Act.put, stB, stZ, stS]
      refine tk 11 (some 57) (v := ?_) rfl rfl ?_ ?_
      rotate_left
      ·
       (intro w _; go_simp; (try with_reducible rfl))
      simp only [Act.put, stB, stZ, stS]
      refine tk 12 (some 14) (v := ?_) rfl rfl ?_ ?_
      rotate_left
      ·
       (intro w _; go_simp; (try with_reducible rfl))
      simp only [Act.put, stB, stZ, stS]
      refine tk 13 (some 15) (v := ?_) rfl rfl ?_ ?_
      rotate_left
      ·
       (intro w _; go_simp; (try with_reducible rfl))
      simp only [Act.put, stB, stZ, stS]
      refine wpAnyH_done (by kernel_rfl) ?_ _
      (try simp only [Exit.inBlock, Exit.then])
      clear hHeld
      go_wp2_with fail
      go_meet
      exact ⟨za, zc, zs, rfl, rfl, HZV.out.1, by rw [HZV.out.2, HTQ.out, HSW.out.2, HMIX.out], HB.out⟩
    ·
     skip
     go_simp
     have hb := belowBox wd (.cells #[.slice xa yn xc, .slice ya yn yc] 28)
     have HGB := Lib.hid (show (wd.alloc (.cells #[.slice xa yn xc, .slice ya yn yc] 28)).cell? ⟨wd.heap.size, 0, none⟩ = some (.slice xa yn xc) ∧ (wd.alloc (.cells #[.slice xa yn xc, .slice ya yn yc] 28)).cell? ⟨wd.heap.size, 1, none⟩ = some (.slice ya yn yc) from ⟨cell_of_block (j := 0) (heap_alloc_new _ _) rfl, cell_of_block (j := 1) (heap_alloc_new _ _) rfl⟩)
     replace HB := Lib.hid (bthen HB.out hb)
     have hKK := And.intro (hu hb (hHeld.1)) <| And.intro (hu hb (hHeld.2.1)) <| hu hb (hHeld.2.2)
     clear hb
     generalize wd.heap.size = gb at HGB ⊢
     generalize wd.alloc (.cells #[.slice xa yn xc, .slice ya yn yc] 28) = y1 at HB hKK HGB ⊢
     refine hK.out _ _ (hKK) (fun hHeld2 => ?_)
     clear hK K hHeld
     rename _ => hHeld
     try simp only [Act.put, stB, stZ, stS]
     refine wpAnyH_ready (rs := [1]) (by kernel_rfl) (by simp) ?_
     refine (AllReadyH.cons rfl (fun K hK => ?_) AllReadyH.nil)
     go_simp
     refine (vint_any 1 y1 (by unfold I64; omega)).mono ?_
     rintro e y2 ⟨iv, rfl, hio, hiq, hb⟩
     unfold Rv.val
     replace HGB := Lib.hid (And.intro (hu hb HGB.out.1) (hu hb HGB.out.2))
     replace HB := Lib.hid (bthen HB.out hb)
     have hKK := And.intro (hu hb (hHeld.1)) <| And.intro (hu hb (hHeld.2.1)) <| hu hb (hHeld.2.2)
     have HIV := Lib.hid (And.intro hio hiq)
     clear hb hio hiq
     refine hK.out _ _ (hKK) (fun hHeld2 => ?_)
     clear hK K hHeld
     rename _ => hHeld
     try simp only [Act.put, stB, stZ, stS]
     refine wpAnyH_ready (rs := [3]) (by kernel_rfl) (by simp) ?_
     refine (AllReadyH.cons rfl (fun K hK => ?_) AllReadyH.nil)
     go_simp
     refine (canSub HCS.out iv tv y2 HIV.out.1 (HTV.out _ HB.out) HIV.out.2 HTQ.out).mono ?_
     rintro e y3 ⟨sw, rfl, hso, hsq, hb⟩
     unfold Rv.val
     replace HGB := Lib.hid (And.intro (hu hb HGB.out.1) (hu hb HGB.out.2))
     replace HB := Lib.hid (bthen HB.out hb)
     have hKK := And.intro (hu hb (hHeld.1)) <| And.intro (hu hb (hHeld.2.1)) <| hu hb (hHeld.2.2)
     have HSW := Lib.hid (And.intro hso hsq)
     clear hb hso hsq HIV
     refine hK.out _ _ (hKK) (fun hHeld2 => ?_)
     clear hK K hHeld
     rename _ => hHeld
     try simp only [Act.put, stB, stZ, stS]
     refine wpAnyH_ready (rs := [4]) (by kernel_rfl) (by simp) ?_
     refine (AllReadyH.cons rfl (fun K hK => ?_) AllReadyH.nil)
     go_simp
     have hb := belowBox y3 (.cells #[.bool tv.s, .slice tv.a tv.l tv.c, .slice tv.b tv.m tv.d, .bool sw.s, .slice sw.a sw.l sw.c, .slice sw.b sw.m sw.d] 40)
     have HVT := Lib.hid (show VecW (y3.alloc (.cells #[.bool tv.s, .slice tv.a tv.l tv.c, .slice tv.b tv.m tv.d, .bool sw.s, .slice sw.a sw.l sw.c, .slice sw.b sw.m sw.d] 40)) (some ⟨y3.heap.size, 0, none⟩) 2 2 [tv, sw] from ⟨rfl, Sl.lit y3 40 3 2 ([tv, sw].flatMap Rv.cells) (by unfold maxLen; omega) rfl, fun v hv => by
      rcases List.mem_cons.1 hv with rfl | hv
      ·
       exact (HTV.out _ HB.out).below hb
      ·
       rw [List.mem_singleton.1 hv]; exact HSW.out.1.below hb⟩)
     replace HGB := Lib.hid (And.intro (hu hb HGB.out.1) (hu hb HGB.out.2))
     replace HB := Lib.hid (bthen HB.out hb)
     have hKK := And.intro (hu hb (hHeld.1)) <| And.intro (hu hb (hHeld.2.1)) <| hu hb (hHeld.2.2)
     replace HSW := Lib.hid (And.intro (HSW.out.1.below hb) HSW.out.2)
     clear hb
     generalize y3.heap.size = ga at HVT ⊢
     generalize y3.alloc (.cells #[.bool tv.s, .slice tv.a tv.l tv.c, .slice tv.b tv.m tv.d, .bool sw.s, .slice sw.a sw.l sw.c, .slice sw.b sw.m sw.d] 40) = y4 at HB hKK HSW HVT HGB ⊢
     refine hK.out _ _ (hKK) (fun hHeld2 => ?_)
     clear hK K hHeld
     rename _ => hHeld
     try simp only [Act.put, stB, stZ, stS]
     refine wpAnyH_ready (rs := [8]) (by kernel_rfl) (by simp) ?_
     refine (AllReadyH.cons rfl (fun K hK => ?_) AllReadyH.nil)
     go_simp
     refine (combine2_any ga gb tv sw xa yn xc xs ya yc ys y4 HVT.out HGB.out.1 HGB.out.2 (HXV.out _ (bthen HBR.out HB.out)) (HYV.out _ (bthen HBR.out HB.out)) (by omega) (by rw [HTQ.out]; exact HC1.out) (by rw [HTQ.out, HSW.out.2]; exact HC2.out)).mono ?_
     rintro e y5 ⟨za, zc, zs, rfl, hz⟩
     have hb := hz.bel
     have HZV := Lib.hid (And.intro hz.vec hz.q)
     replace HB := Lib.hid (bthen HB.out hb)
     have hKK := And.intro (hu hb (hHeld.1)) <| And.intro (hu hb (hHeld.2.1)) <| hu hb (hHeld.2.2)
     clear hb hz
     refine hK.out _ _ (hKK) (fun hHeld2 => ?_)
     clear hK K hHeld
     rename _ => hHeld
     try simp only [Act.put, stB, stZ, stS]
     refine tk 9 (some 46) (v := ?_) rfl rfl ?_ ?_
     rotate_left
     ·
      (intro w _; go_simp; (try with_reducible rfl))
     simp only [Act.put, stB, stZ, stS]
     refine tk 10 (some 56) (v := ?_) rfl rfl ?_ ?_
     rotate_left
     ·
      (intro w _; go_simp; (try with_reducible rfl))
     simp only [Act.put, stB, stZ, stS]
     refine tk 11 (some 57) (v := ?_) rfl rfl ?_ ?_
     rotate_left
     ·
      (intro w _; go_simp; (try with_reducible rfl))
     simp only [Act.put, stB, stZ, stS]
     refine tk 12 (some 14) (v := ?_) rfl rfl ?_ ?_
     rotate_left
     ·
      (intro w _; go_simp; (try with_reducible rfl))
     simp only [Act.put, stB, stZ, stS]
     refine tk 13 (some 15) (v := ?_) rfl rfl ?_ ?_
     rotate_left
     ·
      (intro w _; go_simp; (try with_reducible rfl))
     simp only [Act.put, stB, stZ, stS]
     refine wpAnyH_done (by kernel_rfl) ?_ _
     (try simp only [Exit.inBlock, Exit.then])
     clear hHeld
     go_wp2_with fail
     go_meet
     exact ⟨za, zc, zs, rfl, rfl, HZV.out.1, by rw [HZV.out.2, HTQ.out, HSW.out.2, HMIX.out], HB.out⟩
   case rest =>
    obtain ⟨w8, rfl⟩ : ∃ w8 : World, w8 = wc := ⟨_, rfl⟩
    obtain ⟨za, zc, zs, rfl, rfl, hzv, hzq, hbz⟩ := hcut
    have HZV := Lib.hid (fun (W : World) (hb : Below w8.heap.size w8 W) => hzv.below hb)
    have HZQ := Lib.hid hzq
    have HB58 := Lib.hid (bthen HBR.out hbz)
    clear hzv hzq hbz hK0 HC1 HC2 HL1 HSL HCS H1 HOF HTV HTX HTQ HMIX
    have HPW8 := Lib.hid (fun (W : World) (hb : Below w8.heap.size w8 W) => HPW.out W (bthen HB58.out hb))
    have HPC8 := Lib.hid (fun (W : World) (hb : Below w8.heap.size w8 W) => HPC.out W (bthen HB58.out hb))
    obtain ⟨AQ, hAQ⟩ : ∃ q, dotQ (qs cs) (qs xs) = q := ⟨_, rfl⟩
    obtain ⟨BQ, hBQ⟩ : ∃ q, dotQ (qs cs) (qs ys) = q := ⟨_, rfl⟩
    obtain ⟨DQ, hDQ⟩ : ∃ q, dotQ (qs cs) Z = q := ⟨_, rfl⟩
    have hc5 : (qs cs).length ≤ 5 := by rw [HCSL.out]; exact hm5
    have HDX := Lib.hid (fun (W : World) (hb : Below w8.heap.size w8 W) => (show Calls Try.prog 12 #[.slice ca yn cc, .slice xa yn xc] W (RetRB2 AQ true W) from by
     rw [← hAQ]; exact vdot_eq ca xa yn cc xc cs xs W (HPW8.out W hb).cost (HXV.out W (bthen HB58.out hb)) (canDot_long HCQ.out HXQ.out hc5 (by omega))))
    have HDY := Lib.hid (fun (W : World) (hb : Below w8.heap.size w8 W) => (show Calls Try.prog 12 #[.slice ca yn cc, .slice ya yn yc] W (RetRB2 BQ true W) from by
     rw [← hBQ]; exact vdot_eq ca ya yn cc yc cs ys W (HPW8.out W hb).cost (HYV.out W (bthen HB58.out hb)) (canDot_long HCQ.out HYQ.out hc5 (by omega))))
    have HDZ := Lib.hid (fun (W : World) (hb : Below w8.heap.size w8 W) => (show Calls Try.prog 12 #[.slice ca yn cc, .slice za yn zc] W (RetRB2 DQ true W) from by
     rw [← hDQ, ← HZQ.out]; exact vdot_eq ca za yn cc zc cs zs W (HPW8.out W hb).cost (HZV.out W hb) (by rw [HZQ.out]; exact canDot_long HCQ.out HL2.out hc5 (by omega))))
    have hla : Long 60 AQ := by rw [← hAQ]; exact (dot_long _ _ HCQ.out HXQ.out).mono (by omega)
    have hlb : Long 60 BQ := by rw [← hBQ]; exact (dot_long _ _ HCQ.out HYQ.out).mono (by omega)
    have hld : Long 60 DQ := by rw [← hDQ]; exact (dot_long _ _ HCQ.out HL2.out).mono (by omega)
    have HCBA := Lib.hid (show CanCmp BQ AQ from canCmp_long hlb hla (by omega))
    have hmix := mix_min HT01.out.1 HT01.out.2 (A := AQ) (B := BQ) (C := DQ) (by rw [← hAQ, ← hBQ, ← hDQ, HZM.out]; exact dotQ_mix _ _ _ _ HIX.out)
    obtain ⟨z1, hz1⟩ : ∃ z, cmpR DQ (if cmpR BQ AQ < 0 then BQ else AQ) = z := ⟨_, rfl⟩
    obtain ⟨z2, hz2⟩ : ∃ z, cmpR DQ (if 0 < cmpR BQ AQ then BQ else AQ) = z := ⟨_, rfl⟩
    rw [hz1, hz2] at hmix
    have HCM := Lib.hid (show CanCmp DQ (if cmpR BQ AQ < 0 then BQ else AQ) from canCmp_long hld (show Long 60 _ by split <;> assumption) (by omega))
    have HCX := Lib.hid (show CanCmp DQ (if 0 < cmpR BQ AQ then BQ else AQ) from canCmp_long hld (show Long 60 _ by split <;> assumption) (by omega))
    unfold CanCmp at HCM HCX
    rw [hz1] at HCM
    rw [hz2] at HCX
    have HMN := Lib.hid hmix
    have HFZ := Lib.hid (fun (W : World) (hb : Below w8.heap.size w8 W) => (show Calls Try.prog 19 #[.agg #[.slice ca yn cc, .slice pa n pc], .slice za yn zc] W fun e w' => e = .returned (.bool true) ∧ Below W.heap.size W w' from by
     have h1 := fits_any ca yn cc pa n pc cs rows W (HPW8.out W hb) za yn zc zs (HZV.out W hb) (fun r hr _ _ => HCAN.out zs 9 (by rw [HZQ.out]; exact HL2.out) (by omega) r hr)
     have h2 : fitsQ yn rows zs yn = true := by
      unfold fitsQ
      rw [decide_eq_true rfl, belowQ_any, HZQ.out, HZM.out, mix_below HT01.out.1 HT01.out.2 _ _ (by rw [← belowQ_any]; exact HBX.out) (by rw [← belowQ_any]; exact HBY.out)]
      simp only [Bool.not_false, Bool.and_true, Bool.true_and, List.all_eq_true]
      intro r hr
      have a1 := HAX.out r hr
      have a2 := HAY.out r hr
      rw [holdsT_row r _ yn (HRN.out r hr) (HRK.out r hr)] at a1 a2 ⊢
      rw [HZQ.out, HZM.out]
      exact mix_holds HT01.out.1 HT01.out.2 _ _ HIX.out _ a1 a2
     rwa [h2] at h1))
    replace HBR := Lib.hid (Below.refl w8.heap.size w8)
    replace HPC := HPC8
    replace HB5 := Lib.hid (bthen HB5.out HB58.out)
    clear hAQ hBQ hDQ hc5 hla hlb hld hz1 hz2 hmix HPC8
    obtain ⟨p0, p1⟩ := HPC.out _ HBR.out
    go_wp2_with fail
    refine (cost_run ca yn cc pa n pc xa yn xc _ true _ (fun W hb => HDX.out W (bthen HBR.out hb))).mono ?_
    rintro e w9a ⟨av, rfl, hoo, hoq, hb⟩
    unfold Rv.val
    have hal := belowBox w9a (.cells #[.bool av.s, .slice av.a av.l av.c, .slice av.b av.m av.d] 40)
    have HAO := Lib.hid (hoo.below hal)
    have HAQ := Lib.hid hoq
    have HAB := Lib.hid (heap_alloc_new w9a (.cells #[.bool av.s, .slice av.a av.l av.c, .slice av.b av.m av.d] 40))
    replace HBR := Lib.hid (bthen HBR.out (bthen hb hal))
    clear hoo hoq hb hal p0 p1
    go_upto_region 9 with fail
    generalize w9a.heap.size = ab at HAB ⊢
    generalize w9a.alloc (.cells #[.bool av.s, .slice av.a av.l av.c, .slice av.b av.m av.d] 40) = w9 at HAB HAO HBR  ⊢
    obtain ⟨p0, p1⟩ := HPC.out _ HBR.out
    go_wp2_with fail
    refine (cost_run ca yn cc pa n pc ya yn yc _ true _ (fun W hb => HDY.out W (bthen HBR.out hb))).mono ?_
    rintro e w9ba ⟨bv, rfl, hoo, hoq, hb⟩
    unfold Rv.val
    have hal := belowBox w9ba (.cells #[.bool bv.s, .slice bv.a bv.l bv.c, .slice bv.b bv.m bv.d] 40)
    have HBO := Lib.hid (hoo.below hal)
    have HBQ := Lib.hid hoq
    have HBB := Lib.hid (heap_alloc_new w9ba (.cells #[.bool bv.s, .slice bv.a bv.l bv.c, .slice bv.b bv.m bv.d] 40))
    have hs0 := (hb.block ab (lt_of_block HAB.out)).trans HAB.out
    replace HAB := Lib.hid ((hal.block ab (lt_of_block hs0)).trans hs0)
    replace HAO := Lib.hid ((HAO.out.below hb).below hal)
    clear hs0
    replace HBR := Lib.hid (bthen HBR.out (bthen hb hal))
    clear hoo hoq hb hal p0 p1
    go_upto_region 10 with fail
    generalize w9ba.heap.size = bb at HBB ⊢
    generalize w9ba.alloc (.cells #[.bool bv.s, .slice bv.a bv.l bv.c, .slice bv.b bv.m bv.d] 40) = w9b at HBB HBO HBR HAB HAO ⊢
    obtain ⟨p0, p1⟩ := HPC.out _ HBR.out
    go_wp2_with fail
    refine (cost_run ca yn cc pa n pc za yn zc _ true _ (fun W hb => HDZ.out W (bthen HBR.out hb))).mono ?_
    rintro e w10a ⟨cv, rfl, hoo, hoq, hb⟩
    unfold Rv.val
    have hal := belowBox w10a (.cells #[.bool cv.s, .slice cv.a cv.l cv.c, .slice cv.b cv.m cv.d] 40)
    have HCO := Lib.hid (hoo.below hal)
    have HCQ9 := Lib.hid hoq
    have HDB := Lib.hid (heap_alloc_new w10a (.cells #[.bool cv.s, .slice cv.a cv.l cv.c, .slice cv.b cv.m cv.d] 40))
    have hs0 := (hb.block ab (lt_of_block HAB.out)).trans HAB.out
    replace HAB := Lib.hid ((hal.block ab (lt_of_block hs0)).trans hs0)
    replace HAO := Lib.hid ((HAO.out.below hb).below hal)
    clear hs0
    have hs1 := (hb.block bb (lt_of_block HBB.out)).trans HBB.out
    replace HBB := Lib.hid ((hal.block bb (lt_of_block hs1)).trans hs1)
    replace HBO := Lib.hid ((HBO.out.below hb).below hal)
    clear hs1
    replace HBR := Lib.hid (bthen HBR.out (bthen hb hal))
    clear hoo hoq hb hal p0 p1
    go_upto_region 11 with fail
    generalize w10a.heap.size = db at HDB ⊢
    generalize w10a.alloc (.cells #[.bool cv.s, .slice cv.a cv.l cv.c, .slice cv.b cv.m cv.d] 40) = w10 at HDB HCO HBR HAB HAO HBB HBO ⊢
    have hK0 : w10.drew.cell? ⟨pb, 0, none⟩ = some (.slice ca yn cc) ∧ w10.drew.cell? ⟨pb, 1, none⟩ = some (.slice pa n pc) ∧ w10.drew.cell? ⟨db, 0, none⟩ = some (.bool cv.s) ∧ w10.drew.cell? ⟨db, 1, none⟩ = some (.slice cv.a cv.l cv.c) ∧ w10.drew.cell? ⟨db, 2, none⟩ = some (.slice cv.b cv.m cv.d) ∧ w10.drew.cell? ⟨ab, 0, none⟩ = some (.bool av.s) ∧ w10.drew.cell? ⟨ab, 1, none⟩ = some (.slice av.a av.l av.c) ∧ w10.drew.cell? ⟨ab, 2, none⟩ = some (.slice av.b av.m av.d) ∧ w10.drew.cell? ⟨bb, 0, none⟩ = some (.bool bv.s) ∧ w10.drew.cell? ⟨bb, 1, none⟩ = some (.slice bv.a bv.l bv.c) ∧ w10.drew.cell? ⟨bb, 2, none⟩ = some (.slice bv.b bv.m bv.d) := by
     obtain ⟨p0, p1⟩ := HPC.out _ HBR.out
     exact ⟨p0, p1, cell_of_block (j := 0) HDB.out rfl, cell_of_block (j := 1) HDB.out rfl, cell_of_block (j := 2) HDB.out rfl, cell_of_block (j := 0) HAB.out rfl, cell_of_block (j := 1) HAB.out rfl, cell_of_block (j := 2) HAB.out rfl, cell_of_block (j := 0) HBB.out rfl, cell_of_block (j := 1) HBB.out rfl, cell_of_block (j := 2) HBB.out rfl⟩
    obtain ⟨hz1, hz2⟩ := HMN.out
    refine wp_region_held_drew (S := fun W => W.cell? ⟨pb, 0, none⟩ = some (.slice ca yn cc) ∧ W.cell? ⟨pb, 1, none⟩ = some (.slice pa n pc) ∧ W.cell? ⟨db, 0, none⟩ = some (.bool cv.s) ∧ W.cell? ⟨db, 1, none⟩ = some (.slice cv.a cv.l cv.c) ∧ W.cell? ⟨db, 2, none⟩ = some (.slice cv.b cv.m cv.d) ∧ W.cell? ⟨ab, 0, none⟩ = some (.bool av.s) ∧ W.cell? ⟨ab, 1, none⟩ = some (.slice av.a av.l av.c) ∧ W.cell? ⟨ab, 2, none⟩ = some (.slice av.b av.m av.d) ∧ W.cell? ⟨bb, 0, none⟩ = some (.bool bv.s) ∧ W.cell? ⟨bb, 1, none⟩ = some (.slice bv.a bv.l bv.c) ∧ W.cell? ⟨bb, 2, none⟩ = some (.slice bv.b bv.m bv.d)) (by kernel_rfl) (hK0) (fun hHeld => ?_)
    have HB := Lib.hid (show Below w10.heap.size w10 w10.drew from Below.drawn w10 1)
    generalize w10.drew = wd at HB hHeld ⊢
    refine tk 0 (some 76) (v := ?_) rfl rfl ?_ ?_
    rotate_left
    ·
     (intro w _; go_simp; (try with_reducible rfl))
    simp only [Act.put, stB, stZ, stS]
    refine tk 1 (some 77) (v := ?_) rfl rfl ?_ ?_
    rotate_left
    ·
     (intro w _; go_simp; (try with_reducible rfl))
    simp only [Act.put, stB, stZ, stS]
    refine tk 2 (some 78) (v := ?_) rfl rfl ?_ ?_
    rotate_left
    ·
     (intro w _; go_simp; (try with_reducible rfl))
    simp only [Act.put, stB, stZ, stS]
    refine tk 3 (some 79) (v := ?_) rfl rfl ?_ ?_
    rotate_left
    ·
     (intro w _; go_simp; (try with_reducible rfl))
    simp only [Act.put, stB, stZ, stS]
    refine tk 4 (some 80) (v := ?_) rfl rfl ?_ ?_
    rotate_left
    ·
     (intro w _; go_simp; (try with_reducible rfl))
    simp only [Act.put, stB, stZ, stS]
    refine tk 5 (some 81) (v := ?_) rfl rfl ?_ ?_
    rotate_left
    ·
     (intro w hSw; (try dsimp only at hSw); ((try obtain ⟨hS0, hS1, hS2, hS3, hS4, hS5, hS6, hS7, hS8, hS9, hS10⟩ := hSw); go_simp); (try with_reducible rfl))
    simp only [Act.put, stB, stZ, stS]
    refine tk 6 (some 82) (v := ?_) rfl rfl ?_ ?_
    rotate_left
    ·
     (intro w _; go_simp; (try with_reducible rfl))
    simp only [Act.put, stB, stZ, stS]
    refine wpAnyH_ready (rs := [7]) (by kernel_rfl) (by simp) ?_
    refine (AllReadyH.cons rfl (fun K hK => ?_) AllReadyH.nil)
    go_simp
    refine (HFZ.out _ (bthen HBR.out HB.out)).mono ?_
    rintro e w31 ⟨rfl, hb⟩
    replace HB := Lib.hid (bthen HB.out hb)
    have hKK := And.intro (hu hb (hHeld.1)) <| And.intro (hu hb (hHeld.2.1)) <| And.intro (hu hb (hHeld.2.2.1)) <| And.intro (hu hb (hHeld.2.2.2.1)) <| And.intro (hu hb (hHeld.2.2.2.2.1)) <| And.intro (hu hb (hHeld.2.2.2.2.2.1)) <| And.intro (hu hb (hHeld.2.2.2.2.2.2.1)) <| And.intro (hu hb (hHeld.2.2.2.2.2.2.2.1)) <| And.intro (hu hb (hHeld.2.2.2.2.2.2.2.2.1)) <| And.intro (hu hb (hHeld.2.2.2.2.2.2.2.2.2.1)) <| hu hb (hHeld.2.2.2.2.2.2.2.2.2.2)
    clear hb
    refine hK.out _ _ (hKK) (fun hHeld2 => ?_)
    clear hK K hHeld
    rename _ => hHeld
    try simp only [Act.put, stB, stZ, stS]
    refine tk 8 (some 84) (v := ?_) rfl rfl ?_ ?_
    rotate_left
    ·
     (intro w _; go_simp; (try with_reducible rfl))
    simp only [Act.put, stB, stZ, stS]
    refine tk 9 (some 85) (v := ?_) rfl rfl ?_ ?_
    rotate_left
    ·
     (intro w _; go_simp; (try with_reducible rfl))
    simp only [Act.put, stB, stZ, stS]
    refine tk 10 (some 86) (v := ?_) rfl rfl ?_ ?_
    rotate_left
    ·
     (intro w hSw; (try dsimp only at hSw); ((try obtain ⟨hS0, hS1, hS2, hS3, hS4, hS5, hS6, hS7, hS8, hS9, hS10⟩ := hSw); go_simp); (try with_reducible rfl))
    simp only [Act.put, stB, stZ, stS]
    refine tk 11 (some 87) (v := ?_) rfl rfl ?_ ?_
    rotate_left
    ·
     (intro w hSw; (try dsimp only at hSw); ((try obtain ⟨hS0, hS1, hS2, hS3, hS4, hS5, hS6, hS7, hS8, hS9, hS10⟩ := hSw); go_simp); (try with_reducible rfl))
    simp only [Act.put, stB, stZ, stS]
    refine tk 12 (some 88) (v := ?_) rfl rfl ?_ ?_
    rotate_left
    ·
     (intro w hSw; (try dsimp only at hSw); ((try obtain ⟨hS0, hS1, hS2, hS3, hS4, hS5, hS6, hS7, hS8, hS9, hS10⟩ := hSw); go_simp); (try with_reducible rfl))
    simp only [Act.put, stB, stZ, stS]
    refine wpAnyH_ready (rs := [13]) (by kernel_rfl) (by simp) ?_
    refine (AllReadyH.cons rfl (fun K hK => ?_) AllReadyH.nil)
    go_simp
    refine (rmin_any av bv _ (HAO.out.below HB.out) (HBO.out.below HB.out) (by rw [HAQ.out, HBQ.out]; exact HCBA.out)).mono ?_
    rw [HAQ.out, HBQ.out]
    rintro e w32 ⟨mv, rfl, hmo, hmq, hb⟩
    unfold Rv.val
    replace HB := Lib.hid (bthen HB.out hb)
    have HMV := Lib.hid (And.intro hmo hmq)
    have hKK := And.intro (hu hb (hHeld.1)) <| And.intro (hu hb (hHeld.2.1)) <| And.intro (hu hb (hHeld.2.2.1)) <| And.intro (hu hb (hHeld.2.2.2.1)) <| And.intro (hu hb (hHeld.2.2.2.2.1)) <| And.intro (hu hb (hHeld.2.2.2.2.2.1)) <| And.intro (hu hb (hHeld.2.2.2.2.2.2.1)) <| And.intro (hu hb (hHeld.2.2.2.2.2.2.2.1)) <| And.intro (hu hb (hHeld.2.2.2.2.2.2.2.2.1)) <| And.intro (hu hb (hHeld.2.2.2.2.2.2.2.2.2.1)) <| hu hb (hHeld.2.2.2.2.2.2.2.2.2.2)
    clear hb hmo hmq
    refine hK.out _ _ (hKK) (fun hHeld2 => ?_)
    clear hK K hHeld
    rename _ => hHeld
    try simp only [Act.put, stB, stZ, stS]
    refine wpAnyH_ready (rs := [14]) (by kernel_rfl) (by simp) ?_
    refine (AllReadyH.cons rfl (fun K hK => ?_) AllReadyH.nil)
    go_simp
    refine (HCM.out cv mv _ (HCO.out.below HB.out) (by first | exact HMV.out.1 | exact HMV.out.1.below (Below.refl _ _)) HCQ9.out HMV.out.2).mono ?_
    rintro e w33 ⟨rfl, hb⟩
    replace HB := Lib.hid (bthen HB.out hb)
    have hKK := And.intro (hu hb (hHeld.1)) <| And.intro (hu hb (hHeld.2.1)) <| And.intro (hu hb (hHeld.2.2.1)) <| And.intro (hu hb (hHeld.2.2.2.1)) <| And.intro (hu hb (hHeld.2.2.2.2.1)) <| And.intro (hu hb (hHeld.2.2.2.2.2.1)) <| And.intro (hu hb (hHeld.2.2.2.2.2.2.1)) <| And.intro (hu hb (hHeld.2.2.2.2.2.2.2.1)) <| And.intro (hu hb (hHeld.2.2.2.2.2.2.2.2.1)) <| And.intro (hu hb (hHeld.2.2.2.2.2.2.2.2.2.1)) <| hu hb (hHeld.2.2.2.2.2.2.2.2.2.2)
    clear hb
    refine hK.out _ _ (hKK) (fun hHeld2 => ?_)
    clear hK K hHeld
    rename _ => hHeld
    try simp only [Act.put, stB, stZ, stS]
    refine tk 15 (some 91) (v := ?_) rfl rfl ?_ ?_
    rotate_left
    ·
     (intro w _; go_simp; (try with_reducible rfl))
    simp only [Act.put, stB, stZ, stS]
    refine tk 16 (some 92) (v := ?_) rfl rfl ?_ ?_
    rotate_left
    ·
     (intro w _; go_simp; (try with_reducible rfl))
    simp only [Act.put, stB, stZ, stS]
    refine tk 17 (some 93) (v := ?_) rfl rfl ?_ ?_
    rotate_left
    ·
     (intro w _; go_simp; (try with_reducible rfl))
    simp only [Act.put, stB, stZ, stS]
    refine tk 18 (some 94) (v := ?_) rfl rfl ?_ ?_
    rotate_left
    ·
     (intro w hSw; (try dsimp only at hSw); ((try obtain ⟨hS0, hS1, hS2, hS3, hS4, hS5, hS6, hS7, hS8, hS9, hS10⟩ := hSw); go_simp); (try with_reducible rfl))
    simp only [Act.put, stB, stZ, stS]
    refine tk 19 (some 95) (v := ?_) rfl rfl ?_ ?_
    rotate_left
    ·
     (intro w hSw; (try dsimp only at hSw); ((try obtain ⟨hS0, hS1, hS2, hS3, hS4, hS5, hS6, hS7, hS8, hS9, hS10⟩ := hSw); go_simp); (try with_reducible rfl))
    simp only [Act.put, stB, stZ, stS]
    refine tk 20 (some 96) (v := ?_) rfl rfl ?_ ?_
    rotate_left
    ·
     (intro w hSw; (try dsimp only at hSw); ((try obtain ⟨hS0, hS1, hS2, hS3, hS4, hS5, hS6, hS7, hS8, hS9, hS10⟩ := hSw); go_simp); (try with_reducible rfl))
    simp only [Act.put, stB, stZ, stS]
    refine wpAnyH_ready (rs := [21]) (by kernel_rfl) (by simp) ?_
    refine (AllReadyH.cons rfl (fun K hK => ?_) AllReadyH.nil)
    go_simp
    refine (rmax_any av bv _ (HAO.out.below HB.out) (HBO.out.below HB.out) (by rw [HAQ.out, HBQ.out]; exact HCBA.out)).mono ?_
    rw [HAQ.out, HBQ.out]
    rintro e w34 ⟨nv, rfl, hmo, hmq, hb⟩
    unfold Rv.val
    replace HB := Lib.hid (bthen HB.out hb)
    have HNV := Lib.hid (And.intro hmo hmq)
    have hKK := And.intro (hu hb (hHeld.1)) <| And.intro (hu hb (hHeld.2.1)) <| And.intro (hu hb (hHeld.2.2.1)) <| And.intro (hu hb (hHeld.2.2.2.1)) <| And.intro (hu hb (hHeld.2.2.2.2.1)) <| And.intro (hu hb (hHeld.2.2.2.2.2.1)) <| And.intro (hu hb (hHeld.2.2.2.2.2.2.1)) <| And.intro (hu hb (hHeld.2.2.2.2.2.2.2.1)) <| And.intro (hu hb (hHeld.2.2.2.2.2.2.2.2.1)) <| And.intro (hu hb (hHeld.2.2.2.2.2.2.2.2.2.1)) <| hu hb (hHeld.2.2.2.2.2.2.2.2.2.2)
    clear hb hmo hmq
    refine hK.out _ _ (hKK) (fun hHeld2 => ?_)
    clear hK K hHeld
    rename _ => hHeld
    try simp only [Act.put, stB, stZ, stS]
    refine wpAnyH_ready (rs := [22]) (by kernel_rfl) (by simp) ?_
    refine (AllReadyH.cons rfl (fun K hK => ?_) AllReadyH.nil)
    go_simp
    refine (HCX.out cv nv _ (HCO.out.below HB.out) (by first | exact HNV.out.1 | exact HNV.out.1.below (Below.refl _ _)) HCQ9.out HNV.out.2).mono ?_
    rintro e w35 ⟨rfl, hb⟩
    replace HB := Lib.hid (bthen HB.out hb)
    have hKK := And.intro (hu hb (hHeld.1)) <| And.intro (hu hb (hHeld.2.1)) <| And.intro (hu hb (hHeld.2.2.1)) <| And.intro (hu hb (hHeld.2.2.2.1)) <| And.intro (hu hb (hHeld.2.2.2.2.1)) <| And.intro (hu hb (hHeld.2.2.2.2.2.1)) <| And.intro (hu hb (hHeld.2.2.2.2.2.2.1)) <| And.intro (hu hb (hHeld.2.2.2.2.2.2.2.1)) <| And.intro (hu hb (hHeld.2.2.2.2.2.2.2.2.1)) <| And.intro (hu hb (hHeld.2.2.2.2.2.2.2.2.2.1)) <| hu hb (hHeld.2.2.2.2.2.2.2.2.2.2)
    clear hb
    refine hK.out _ _ (hKK) (fun hHeld2 => ?_)
    clear hK K hHeld
    rename _ => hHeld
    try simp only [Act.put, stB, stZ, stS]
    refine tk 23 (some 99) (v := ?_) rfl rfl ?_ ?_
    rotate_left
    ·
     (intro w _; go_simp; (try with_reducible rfl))
    simp only [Act.put, stB, stZ, stS]
    refine tk 24 (some 100) (v := ?_) rfl rfl ?_ ?_
    rotate_left
    ·
     (intro w _; go_simp; (try with_reducible rfl))
    simp only [Act.put, stB, stZ, stS]
    refine tk 25 (some 8) (v := ?_) rfl rfl ?_ ?_
    rotate_left
    ·
     (intro w _; go_simp; (try with_reducible rfl))
    simp only [Act.put, stB, stZ, stS]
    refine wpAnyH_done (by kernel_rfl) ?_ _
    (try simp only [Exit.inBlock, Exit.then])
    clear hHeld
    go_wp2_with fail
    go_ret
    exact ⟨rfl, bthen HB5.out (bthen HBR.out HB.out)⟩
end Go.Proofs.Ytndndfobkbeolaa
