/-
  The walk of StoreDoes: it answers true; the conditions: what errors.errorType holds, how long the script is.
  Printed by a program of this repository (wip/law16.py).
-/
import Derived.Test.YtaehklhbokocbaaGreatDoorZLAlike
import Derived.Test.YtaehklhbokocbaaGreatDoorZV
set_option linter.unusedVariables false
set_option linter.unusedSimpArgs false
namespace Go.Proofs.YtaehklhbokocbaaGreatDoor
open Go.RowKit Go.Extern.Stop Go.Stop Go.Extern
theorem SA.frm {w0 W W' : World} {cb : Nat} {Gc K : Nat → Prop} {s : AS} (h : SA W cb Gc s) (hf : Frm w0 K W W') (hK : ∀ k, Gc k → K k) : SA W' cb Gc s := by
  obtain ⟨S, h1, h2, h3, _⟩ := hf
  exact h.keeps h1 (fun k hk => h2 k (hK k hk)) h3
theorem RB.frm {w0 W W' : World} {rb : Nat} {H K : Nat → Prop} {m : RM} (h : RB W rb H m) (hf : Frm w0 K W W') (hK : ∀ k, H k → K k) : RB W' rb H m := by
  obtain ⟨S, h1, h2, _⟩ := hf
  exact h.keeps h1 fun k hk => h2 k (hK k hk)
set_option maxRecDepth 100000 in
set_option maxHeartbeats 32000000 in
theorem storeDoes_any (a : Option Addr) (c : Nat) (zs : List ZA) (w : World) (hg : Hg w) (hs : Scr w (.slice a zs.length c) zs) (hB : load (acts zs) ≤ 1048576) :
    Calls Tryz.prog 6 #[.slice a zs.length c] w fun e w' => e = .returned (.bool true) ∧ Below w.heap.size w w' := by
  have hlen := hs.sl.lenI
  have HXO := Lib.hid (show ∀ x, x ∈ acts zs → XOk x from fun x hx => by
    obtain ⟨z, hz, rfl⟩ := List.mem_map.1 hx
    exact (hs.ok z hz).1)
  have HAW := Lib.hid (awake_any w hg)
  have HS := Lib.hid hs
  have HG := Lib.hid hg
  clear hs hg
  go_enter Tryz.func6, Tryz.ntmps6
  go_wp2_with fail
  refine HAW.out.mono ?_
  rintro e w0 ⟨rfl, hb0⟩
  have HB0 := Lib.hid hb0
  clear hb0 HAW
  go_wp2_with fail
  refine (as_new w0).mono ?_
  rintro e w1 ⟨sb1, G1, rfl, hsa1, hg1, hb1⟩
  obtain ⟨w2, hw2⟩ : ∃ w2, w1.alloc (.cells #[.slice none 0 0, .slice none 0 0, .slice none 0 0, .slice none 0 0, .slice none 0 0, .slice none 0 0, .int .i64 0, .int .i64 0] 32) = w2 := ⟨_, rfl⟩
  obtain ⟨rb, hrb⟩ : ∃ rb, w1.heap.size = rb := ⟨_, rfl⟩
  have hc : Ctx w w2 sb1 G1 AS.new rb (fun k => k = rb) RM.new := by
    have hb2 := belowBox w1 (.cells #[.slice none 0 0, .slice none 0 0, .slice none 0 0, .slice none 0 0, .slice none 0 0, .slice none 0 0, .int .i64 0, .int .i64 0] 32)
    have hr := rb_new w1
    have hz := hb1.size
    have hz0 := HB0.out.size
    rw [hw2] at hb2 hr
    rw [hrb] at hr hz
    exact ⟨hsa1.below hb2, hr, fun k h1 h2 => by have := hsa1.lt k h1; omega, fun k h => by have := hg1 k h; omega, fun k h => by omega, HB0.out.trans ((hb1.trans (hb2.mono hb1.size)).mono HB0.out.size)⟩
  have HC0 := Lib.hid hc
  have HW2 := Lib.hid hw2
  have HRB := Lib.hid hrb
  clear hsa1 hg1 hb1 hc hw2 hrb
  go_upto_region 4 with fail
  (try simp only [HW2.out, HRB.out])
  clear HW2 HRB
  go_wp2_with fail
  go_loopw [3, 5] (fun sv iv wr => ∃ (k : Nat) (sb : Nat) (G H : Nat → Prop), k ≤ zs.length ∧ iv = .int .i64 k ∧ sv = .pointer (some ⟨sb, 0, none⟩) ∧ Ctx w wr sb G (AS.new.run ((acts zs).take k)) rb H (RM.new.run ((acts zs).take k))) (fun _ iv _ => zs.length - (intOf iv).toNat)
  case atStart => exact ⟨0, sb1, G1, _, Nat.zero_le _, rfl, rfl, by rw [List.take_zero]; exact HC0.out⟩
  case round =>
    obtain ⟨k, sb, G, H, hk, rfl, rfl, hc⟩ := hrel
    by_cases hlt : k < zs.length
    · obtain ⟨b, o, e1, hbl, y0, y1, y2, y3, y4, y5, y6⟩ := z_get (HS.out.below hc.bl).sl k hlt
      obtain ⟨z, hz⟩ : ∃ z, zs[k] = z := ⟨_, rfl⟩
      rw [hz] at y0 y1 y2 y3 y4 y5 y6
      have HZ := Lib.hid hz
      have i0 : (0 : Int) ≤ (k : Int) := by omega
      have i1 : (k : Int) < (zs.length : Int) := by omega
      obtain ⟨w3, hw3⟩ : ∃ w3, wr.alloc (.cells #[.int .i64 z.1.d, .int .i64 z.1.row, .int .i64 z.1.col, .int .i64 z.1.kind, .int .i64 z.1.v.1, .int .i64 z.1.v.2, .slice z.2.1 z.1.es.length z.2.2] 39) = w3 := ⟨_, rfl⟩
      obtain ⟨xb, hxb⟩ : ∃ xb, wr.heap.size = xb := ⟨_, rfl⟩
      have hb3 : Below wr.heap.size wr w3 := by rw [← hw3]; exact belowBox wr (.cells #[.int .i64 z.1.d, .int .i64 z.1.row, .int .i64 z.1.col, .int .i64 z.1.kind, .int .i64 z.1.v.1, .int .i64 z.1.v.2, .slice z.2.1 z.1.es.length z.2.2] 39)
      have hxl : xb < w3.heap.size := by rw [← hw3, ← hxb]; simp
      have x0 : w3.cell? ⟨xb, 0, none⟩ = some (.int .i64 z.1.d) := by rw [← hw3, ← hxb]; simp
      have x1 : w3.cell? ⟨xb, 1, none⟩ = some (.int .i64 z.1.row) := by rw [← hw3, ← hxb]; simp
      have x2 : w3.cell? ⟨xb, 2, none⟩ = some (.int .i64 z.1.col) := by rw [← hw3, ← hxb]; simp
      have x3 : w3.cell? ⟨xb, 3, none⟩ = some (.int .i64 z.1.kind) := by rw [← hw3, ← hxb]; simp
      have x4 : w3.cell? ⟨xb, 4, none⟩ = some (.int .i64 z.1.v.1) := by rw [← hw3, ← hxb]; simp
      have x5 : w3.cell? ⟨xb, 5, none⟩ = some (.int .i64 z.1.v.2) := by rw [← hw3, ← hxb]; simp
      have x6 : w3.cell? ⟨xb, 6, none⟩ = some (.slice z.2.1 z.1.es.length z.2.2) := by rw [← hw3, ← hxb]; simp
      have HC3 := Lib.hid (hc.below hb3)
      have hxn : ∀ q, (G q ∨ H q) → q < xb := fun q hq => by
        rcases hq with h | h
        · have := hc.sa.lt q h; omega
        · have := hc.rb.lt q h; omega
      have HXN := Lib.hid hxn
      have HBK := Lib.hid (behind (acts zs) k)
      have HW3 := Lib.hid hw3
      have HXB := Lib.hid hxb
      have HE1 := Lib.hid e1
      subst e1
      clear hc hz hw3 hxb hb3 hxn hk
      go_upto_region 10 with fail
      (try simp only [HW3.out, HXB.out])
      clear HW3 HXB y0 y1 y2 y3 y4 y5 y6
      obtain ⟨S, hS⟩ : ∃ S, AS.new.run ((acts zs).take k) = S := ⟨_, rfl⟩
      have HSE := Lib.hid hS
      by_cases hd9 : z.1.d = 9
      · rw [hS] at HC3
        have hd9b : (z.1.d == 9) = true := by simp [hd9]
        have hwf := HBK.out.wf
        rw [hS] at hwf
        have hlrs := HBK.out.lr
        have hlcs := HBK.out.lc
        rw [hS] at hlrs hlcs
        have HWF := Lib.hid hwf
        have HLR := Lib.hid (show S.lr ≤ 1048576 ∧ S.lc ≤ 1048576 from ⟨by omega, by omega⟩)
        clear hS hwf hlrs hlcs hd9
        go_wp2_with fail
        refine (as_copy HC3.out.sa HWF.out).mono ?_
        rintro e w4 ⟨cb, Gc, rfl, hsc, hGc, hb4⟩
        obtain ⟨K, hK⟩ : ∃ K : Nat → Prop, K = fun q => Gc q ∨ H q ∨ q = xb := ⟨_, rfl⟩
        have hl4 : LSt w w4 sb S K := by
          have hz4 := hb4.size
          refine ⟨G, HC3.out.sa.below hb4, HC3.out.g0, HC3.out.bl.trans (hb4.mono HC3.out.bl.size), fun q hq hgq => ?_, fun q hq => ?_⟩
          · rw [hK] at hq
            rcases hq with h | h | h
            · have := hGc q h; have := HC3.out.sa.lt q hgq; omega
            · exact HC3.out.dj q hgq h
            · have := HXN.out q (.inl hgq); omega
          · rw [hK] at hq
            rcases hq with h | h | h
            · exact hsc.lt q h
            · have := HC3.out.rb.lt q h; omega
            · omega
        have HKC := Lib.hid (show ∀ q, Gc q → K q by rw [hK]; exact fun q h => .inl h)
        have HKH := Lib.hid (show ∀ q, H q → K q by rw [hK]; exact fun q h => .inr (.inl h))
        have HKX := Lib.hid (show K xb by rw [hK]; exact .inr (.inr rfl))
        have HGC := Lib.hid (show ∀ q, Gc q → w3.heap.size ≤ q from hGc)
        have HH3 := Lib.hid HC3.out.rb.lt
        have HH0 := Lib.hid HC3.out.h0
        have HBW3 := Lib.hid HC3.out.bl
        have HL := Lib.hid hl4
        have HSC := Lib.hid hsc
        have HR := Lib.hid (HC3.out.rb.below hb4)
        replace x0 := (hb4.cell (p := ⟨xb, 0, none⟩) hxl).trans x0
        replace x1 := (hb4.cell (p := ⟨xb, 1, none⟩) hxl).trans x1
        replace x2 := (hb4.cell (p := ⟨xb, 2, none⟩) hxl).trans x2
        replace x3 := (hb4.cell (p := ⟨xb, 3, none⟩) hxl).trans x3
        replace x4 := (hb4.cell (p := ⟨xb, 4, none⟩) hxl).trans x4
        replace x5 := (hb4.cell (p := ⟨xb, 5, none⟩) hxl).trans x5
        replace x6 := (hb4.cell (p := ⟨xb, 6, none⟩) hxl).trans x6
        clear hsc hGc hb4 hl4 hK HC3
        go_wp2_with fail
        refine (vint_any 7 _ (by unfold I64; omega)).mono ?_
        rintro e wv1 ⟨v1, rfl, ho, hsm, hq, hb⟩
        unfold Rv.val
        replace HL := Lib.hid (HL.out.below hb)
        replace HSC := Lib.hid (HSC.out.below hb)
        replace HR := Lib.hid (HR.out.below hb)
        replace x0 := (hb.cell (p := ⟨xb, 0, none⟩) (World.block_lt_of_cell? _ _ x0)).trans x0
        replace x1 := (hb.cell (p := ⟨xb, 1, none⟩) (World.block_lt_of_cell? _ _ x1)).trans x1
        replace x2 := (hb.cell (p := ⟨xb, 2, none⟩) (World.block_lt_of_cell? _ _ x2)).trans x2
        replace x3 := (hb.cell (p := ⟨xb, 3, none⟩) (World.block_lt_of_cell? _ _ x3)).trans x3
        replace x4 := (hb.cell (p := ⟨xb, 4, none⟩) (World.block_lt_of_cell? _ _ x4)).trans x4
        replace x5 := (hb.cell (p := ⟨xb, 5, none⟩) (World.block_lt_of_cell? _ _ x5)).trans x5
        replace x6 := (hb.cell (p := ⟨xb, 6, none⟩) (World.block_lt_of_cell? _ _ x6)).trans x6
        have HV := Lib.hid (show v1.ok wv1 ∧ v1.small from ⟨ho, hsm⟩)
        clear ho hsm hq hb
        go_wp2_with fail
        refine HL.out.act (s1 := (S.addCol v1.q []).2) (R := fun e _ => ∃ n ev, e = .returned (.tuple #[.int .i64 n, ev])) (fun G hs => (as_addCol hs HWF.out v1 [] none 0 (sl_nil wv1) HV.out.1 HV.out.2 (fun _ h => by cases h) (by have := HLR.out.2; omega)).mono fun e W' ⟨x, h1, h2, h3⟩ => ⟨⟨_, x, h1⟩, h3⟩) ?_
        rintro e wa ⟨n1, ev1, rfl⟩ hl hfr
        have HWF1 := Lib.hid (HWF.out.addCol v1.q [])
        obtain ⟨S1, hS1⟩ : ∃ S1, (S.addCol v1.q []).2 = S1 := ⟨_, rfl⟩
        rw [hS1] at hl HWF1
        clear hS1
        replace HL := Lib.hid hl
        replace HSC := Lib.hid (SA.frm HSC.out hfr HKC.out)
        replace HR := Lib.hid (RB.frm HR.out hfr HKH.out)
        replace x0 := hfr.cell HKX.out x0
        replace x1 := hfr.cell HKX.out x1
        replace x2 := hfr.cell HKX.out x2
        replace x3 := hfr.cell HKX.out x3
        replace x4 := hfr.cell HKX.out x4
        replace x5 := hfr.cell HKX.out x5
        replace x6 := hfr.cell HKX.out x6
        clear hl hfr
        clear HV
        go_wp2_with fail
        refine (vint_any 8 _ (by unfold I64; omega)).mono ?_
        rintro e wv2 ⟨v2, rfl, ho, hsm, hq, hb⟩
        unfold Rv.val
        replace HL := Lib.hid (HL.out.below hb)
        replace HSC := Lib.hid (HSC.out.below hb)
        replace HR := Lib.hid (HR.out.below hb)
        replace x0 := (hb.cell (p := ⟨xb, 0, none⟩) (World.block_lt_of_cell? _ _ x0)).trans x0
        replace x1 := (hb.cell (p := ⟨xb, 1, none⟩) (World.block_lt_of_cell? _ _ x1)).trans x1
        replace x2 := (hb.cell (p := ⟨xb, 2, none⟩) (World.block_lt_of_cell? _ _ x2)).trans x2
        replace x3 := (hb.cell (p := ⟨xb, 3, none⟩) (World.block_lt_of_cell? _ _ x3)).trans x3
        replace x4 := (hb.cell (p := ⟨xb, 4, none⟩) (World.block_lt_of_cell? _ _ x4)).trans x4
        replace x5 := (hb.cell (p := ⟨xb, 5, none⟩) (World.block_lt_of_cell? _ _ x5)).trans x5
        replace x6 := (hb.cell (p := ⟨xb, 6, none⟩) (World.block_lt_of_cell? _ _ x6)).trans x6
        have HV := Lib.hid (show v2.ok wv2 ∧ v2.small from ⟨ho, hsm⟩)
        clear ho hsm hq hb
        go_wp2_with fail
        refine HL.out.act (s1 := (S1.setCoef 1 1 v2.q).2) (R := fun e _ => ∃ ev, e = .returned ev) (fun G hs => (as_setCoef hs HWF1.out 1 1 v2 HV.out.1 HV.out.2).mono fun e W' ⟨x, h1, h2, h3⟩ => ⟨⟨x, h1⟩, h3⟩) ?_
        rintro e wb ⟨ev2, rfl⟩ hl hfr
        have HWF2 := Lib.hid (HWF1.out.setCoef 1 1 v2.q)
        obtain ⟨S2, hS2⟩ : ∃ S2, (S1.setCoef 1 1 v2.q).2 = S2 := ⟨_, rfl⟩
        rw [hS2] at hl HWF2
        clear hS2
        replace HL := Lib.hid hl
        replace HSC := Lib.hid (SA.frm HSC.out hfr HKC.out)
        replace HR := Lib.hid (RB.frm HR.out hfr HKH.out)
        replace x0 := hfr.cell HKX.out x0
        replace x1 := hfr.cell HKX.out x1
        replace x2 := hfr.cell HKX.out x2
        replace x3 := hfr.cell HKX.out x3
        replace x4 := hfr.cell HKX.out x4
        replace x5 := hfr.cell HKX.out x5
        replace x6 := hfr.cell HKX.out x6
        clear hl hfr
        clear HV
        go_wp2_with fail
        refine (vint_any 9 _ (by unfold I64; omega)).mono ?_
        rintro e wv3 ⟨v3, rfl, ho, hsm, hq, hb⟩
        unfold Rv.val
        replace HL := Lib.hid (HL.out.below hb)
        replace HSC := Lib.hid (HSC.out.below hb)
        replace HR := Lib.hid (HR.out.below hb)
        replace x0 := (hb.cell (p := ⟨xb, 0, none⟩) (World.block_lt_of_cell? _ _ x0)).trans x0
        replace x1 := (hb.cell (p := ⟨xb, 1, none⟩) (World.block_lt_of_cell? _ _ x1)).trans x1
        replace x2 := (hb.cell (p := ⟨xb, 2, none⟩) (World.block_lt_of_cell? _ _ x2)).trans x2
        replace x3 := (hb.cell (p := ⟨xb, 3, none⟩) (World.block_lt_of_cell? _ _ x3)).trans x3
        replace x4 := (hb.cell (p := ⟨xb, 4, none⟩) (World.block_lt_of_cell? _ _ x4)).trans x4
        replace x5 := (hb.cell (p := ⟨xb, 5, none⟩) (World.block_lt_of_cell? _ _ x5)).trans x5
        replace x6 := (hb.cell (p := ⟨xb, 6, none⟩) (World.block_lt_of_cell? _ _ x6)).trans x6
        have HV := Lib.hid (show v3.ok wv3 ∧ v3.small from ⟨ho, hsm⟩)
        clear ho hsm hq hb
        go_wp2_with fail
        refine HL.out.act (s1 := (S2.setRhs 1 v3.q).2) (R := fun e _ => ∃ ev, e = .returned ev) (fun G hs => (as_setRhs hs 1 v3 HV.out.1 HV.out.2).mono fun e W' ⟨x, h1, h2, h3⟩ => ⟨⟨x, h1⟩, h3⟩) ?_
        rintro e wc3 ⟨ev3, rfl⟩ hl hfr
        have HWF3 := Lib.hid (HWF2.out.setRhs 1 v3.q)
        obtain ⟨S3, hS3⟩ : ∃ S3, (S2.setRhs 1 v3.q).2 = S3 := ⟨_, rfl⟩
        rw [hS3] at hl HWF3
        clear hS3
        replace HL := Lib.hid hl
        replace HSC := Lib.hid (SA.frm HSC.out hfr HKC.out)
        replace HR := Lib.hid (RB.frm HR.out hfr HKH.out)
        replace x0 := hfr.cell HKX.out x0
        replace x1 := hfr.cell HKX.out x1
        replace x2 := hfr.cell HKX.out x2
        replace x3 := hfr.cell HKX.out x3
        replace x4 := hfr.cell HKX.out x4
        replace x5 := hfr.cell HKX.out x5
        replace x6 := hfr.cell HKX.out x6
        clear hl hfr
        clear HV
        go_wp2_with fail
        refine HL.out.act (s1 := (S3.dropRow 1).2) (R := fun e _ => ∃ ev, e = .returned ev) (fun G hs => (as_dropRow hs HWF3.out 1).mono fun e W' ⟨x, h1, h2, h3⟩ => ⟨⟨x, h1⟩, h3⟩) ?_
        rintro e w6 ⟨ev4, rfl⟩ hl hfr
        replace HL := Lib.hid hl
        replace HSC := Lib.hid (SA.frm HSC.out hfr HKC.out)
        replace HR := Lib.hid (RB.frm HR.out hfr HKH.out)
        replace x0 := hfr.cell HKX.out x0
        replace x1 := hfr.cell HKX.out x1
        replace x2 := hfr.cell HKX.out x2
        replace x3 := hfr.cell HKX.out x3
        replace x4 := hfr.cell HKX.out x4
        replace x5 := hfr.cell HKX.out x5
        replace x6 := hfr.cell HKX.out x6
        clear hl hfr
        have hc6 : Ctx w w6 cb Gc S rb H (RM.new.run ((acts zs).take k)) := ⟨HSC.out, HR.out, fun q h1 h2 => by have h3 := HGC.out q h1; have h4 := HH3.out q h2; omega, fun q h => Nat.le_trans HBW3.out.size (HGC.out q h), HH0.out, HL.out.bl⟩
        rw [← HSE.out] at hc6
        have HC6 := Lib.hid hc6
        clear hc6
        have hd := does_at w _ cb rb _ H _ c zs k hlt HS.out HG.out hB HC6.out
        rw [HZ.out, actV_eq] at hd
        have HD := Lib.hid hd
        clear hd
        go_wp2_with fail
        refine HD.out.mono ?_
        rintro e w7 ⟨rfl, G7, H7, hc7, _⟩
        have HC7 := Lib.hid hc7
        have HBE := Lib.hid (behind (acts zs) (k + 1))
        have HVO := Lib.hid (vok_run ((acts zs).take (k + 1)) RM.new VOk.new fun y hy => HXO.out y (List.mem_of_mem_take hy))
        clear hc7 x0 x1 x2 x3 x4 x5 x6 HD
        go_wp2_with fail
        refine (alike_any w7 cb rb G7 H7 _ _ HC7.out.sa HC7.out.rb HBE.out.wf HBE.out.co HVO.out).mono ?_
        rintro e w8 ⟨rfl, hb8⟩
        have HC8 := Lib.hid (HC7.out.below hb8)
        clear hb8
        go_wp2_with fail
        go_roundw
        case rel => exact ⟨k + 1, cb, G7, H7, by omega, by go_num, rfl, HC8.out⟩
        case measure => simp [intOf]; omega
      · have hd9b : (z.1.d == 9) = false := by simpa using hd9
        clear hS
        have hd := does_at w _ sb rb _ H _ c zs k hlt HS.out HG.out hB HC3.out
        rw [HZ.out, actV_eq] at hd
        have HD := Lib.hid hd
        clear hd
        go_wp2_with fail
        refine HD.out.mono ?_
        rintro e w7 ⟨rfl, G7, H7, hc7, _⟩
        have HC7 := Lib.hid hc7
        have HBE := Lib.hid (behind (acts zs) (k + 1))
        have HVO := Lib.hid (vok_run ((acts zs).take (k + 1)) RM.new VOk.new fun y hy => HXO.out y (List.mem_of_mem_take hy))
        clear hc7 x0 x1 x2 x3 x4 x5 x6 HD
        go_wp2_with fail
        refine (alike_any w7 sb rb G7 H7 _ _ HC7.out.sa HC7.out.rb HBE.out.wf HBE.out.co HVO.out).mono ?_
        rintro e w8 ⟨rfl, hb8⟩
        have HC8 := Lib.hid (HC7.out.below hb8)
        clear hb8
        go_wp2_with fail
        go_roundw
        case rel => exact ⟨k + 1, sb, G7, H7, by omega, by go_num, rfl, HC8.out⟩
        case measure => simp [intOf]; omega
    · obtain rfl : k = zs.length := by omega
      have HC9 := Lib.hid hc.bl
      clear hc
      go_wp2_with fail
      go_ret
      exact ⟨rfl, HC9.out⟩
end Go.Proofs.YtaehklhbokocbaaGreatDoor
