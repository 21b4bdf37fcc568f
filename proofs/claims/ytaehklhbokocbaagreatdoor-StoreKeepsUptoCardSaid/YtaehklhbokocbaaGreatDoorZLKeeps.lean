/-
  The walk of StoreKeeps: it answers true; the conditions: what errors.errorType holds, how long the script is.
  Printed by a program of this repository (wip/law12.py).
-/
import Derived.Test.YtaehklhbokocbaaGreatDoorZM
import Derived.Deep.RegionHeld3
set_option linter.unusedVariables false
set_option linter.unusedSimpArgs false
namespace Go.Proofs.YtaehklhbokocbaaGreatDoor
open Go.RowKit Go.Extern.Stop Go.Stop Go.Extern
theorem act_refused (s : AS) (x : XA) (h : (s.act x).1.2 ≠ noF) : (s.act x).2 = s := by
  unfold AS.act at h ⊢
  split
  · rename_i hd
    rw [if_pos hd] at h
    rcases addRow_cases s x.kind (fracQ x.v) (x.es.map eQ) with ⟨h1, _⟩ | ⟨_, h2⟩
    · exact absurd h1 h
    · exact h2
  · rename_i hd1
    rw [if_neg hd1] at h
    split
    · rename_i hd
      rw [if_pos hd] at h
      rcases addCol_cases s (fracQ x.v) (x.es.map eQ) with ⟨h1, _⟩ | ⟨_, h2⟩
      · exact absurd h1 h
      · exact h2
    · rename_i hd2
      rw [if_neg hd2] at h
      split
      · rename_i hd
        rw [if_pos hd] at h
        unfold AS.dropRow at h ⊢
        split
        · rename_i h9; rw [if_pos h9] at h; exact absurd rfl h
        · rfl
      · rename_i hd3
        rw [if_neg hd3] at h
        split
        · rename_i hd
          rw [if_pos hd] at h
          unfold AS.dropCol at h ⊢
          split
          · rename_i h9; rw [if_pos h9] at h; exact absurd rfl h
          · rfl
        · rename_i hd4
          rw [if_neg hd4] at h
          split
          · rename_i hd
            rw [if_pos hd] at h
            unfold AS.setCoef at h ⊢
            split
            · rename_i h9
              rw [if_pos h9] at h
              split
              · rename_i h8; rw [if_pos h8] at h; exact absurd rfl h
              · rfl
            · rfl
          · rename_i hd5
            rw [if_neg hd5] at h
            split
            · rename_i hd
              rw [if_pos hd] at h
              unfold AS.setRhs at h ⊢
              split
              · rename_i h9; rw [if_pos h9] at h; exact absurd rfl h
              · rfl
            · rename_i hd6
              rw [if_neg hd6] at h
              split
              · rename_i hd
                rw [if_pos hd] at h
                unfold AS.setKind at h ⊢
                split
                · rename_i h9
                  rw [if_pos h9] at h
                  split
                  · rfl
                  · rename_i h8; rw [if_neg h8] at h; exact absurd rfl h
                · rfl
              · rename_i hd7
                rw [if_neg hd7] at h
                split
                · rename_i hd
                  rw [if_pos hd] at h
                  unfold AS.setCost at h ⊢
                  split
                  · rename_i h9; rw [if_pos h9] at h; exact absurd rfl h
                  · rfl
                · rfl
set_option maxRecDepth 100000 in
set_option maxHeartbeats 32000000 in
theorem storeKeeps_any (a : Option Addr) (c : Nat) (zs : List ZA) (x : XA) (ea : Option Addr) (ec : Nat) (w : World) (hg : Hg w) (hs : Scr w (.slice a zs.length c) zs) (hB : load (acts zs) ≤ 1048576) (hx : XOk x) (he : Sl w 3 (.slice ea x.es.length ec) x.es.length (x.es.flatMap enCells)) (hel : x.es.length ≤ 1048576) :
    Calls Tryz.prog 7 #[.slice a zs.length c, actV x ea ec] w fun e w' => e = .returned (.bool true) ∧ Below w.heap.size w w' := by
  have hactv : actV x ea ec = .agg #[.int .i64 x.d, .int .i64 x.row, .int .i64 x.col, .int .i64 x.kind, .int .i64 x.v.1, .int .i64 x.v.2, .slice ea x.es.length ec] := rfl
  rw [hactv]
  have hlen := he.lenI
  have hzl := hs.sl.lenI
  obtain ⟨w1, hw1⟩ : ∃ w1, w.alloc (.cells #[.int .i64 x.d, .int .i64 x.row, .int .i64 x.col, .int .i64 x.kind, .int .i64 x.v.1, .int .i64 x.v.2, .slice ea x.es.length ec] 39) = w1 := ⟨_, rfl⟩
  obtain ⟨xb, hxb⟩ : ∃ xb, w.heap.size = xb := ⟨_, rfl⟩
  have hb1 : Below w.heap.size w w1 := by rw [← hw1]; exact belowBox w (.cells #[.int .i64 x.d, .int .i64 x.row, .int .i64 x.col, .int .i64 x.kind, .int .i64 x.v.1, .int .i64 x.v.2, .slice ea x.es.length ec] 39)
  have hxl : xb < w1.heap.size := by rw [← hw1, ← hxb]; simp
  have x0 : w1.cell? ⟨xb, 0, none⟩ = some (.int .i64 x.d) := by rw [← hw1, ← hxb]; simp
  have x1 : w1.cell? ⟨xb, 1, none⟩ = some (.int .i64 x.row) := by rw [← hw1, ← hxb]; simp
  have x2 : w1.cell? ⟨xb, 2, none⟩ = some (.int .i64 x.col) := by rw [← hw1, ← hxb]; simp
  have x3 : w1.cell? ⟨xb, 3, none⟩ = some (.int .i64 x.kind) := by rw [← hw1, ← hxb]; simp
  have x4 : w1.cell? ⟨xb, 4, none⟩ = some (.int .i64 x.v.1) := by rw [← hw1, ← hxb]; simp
  have x5 : w1.cell? ⟨xb, 5, none⟩ = some (.int .i64 x.v.2) := by rw [← hw1, ← hxb]; simp
  have x6 : w1.cell? ⟨xb, 6, none⟩ = some (.slice ea x.es.length ec) := by rw [← hw1, ← hxb]; simp
  have hbe := played_wf (acts zs)
  obtain ⟨S, hS⟩ : ∃ S, AS.new.run (acts zs) = S := ⟨_, rfl⟩
  rw [hS] at hbe
  have HWF := Lib.hid hbe.1
  have HLR := Lib.hid (show S.lr ≤ 1048576 ∧ S.lc ≤ 1048576 from ⟨by have := hbe.2.1; omega, by have := hbe.2.2; omega⟩)
  have HAW := Lib.hid (awake_any w1 (hg.below hb1 hg.lt))
  have HPL := Lib.hid (fun (W : World) (hb : Below w.heap.size w W) => played_any a c zs W (hs.below hb) (hg.below hb hg.lt) hB)
  rw [hS] at HPL
  have HX := Lib.hid hx
  have HE := Lib.hid he
  have HS := Lib.hid hs
  have HG := Lib.hid hg
  have HB1 := Lib.hid hb1
  have HW1 := Lib.hid hw1
  have HXB := Lib.hid hxb
  clear hs hg hx he hw1 hxb hb1 hS hbe hactv
  go_enter Tryz.func7, Tryz.ntmps7
  go_upto_region 1 with fail
  (try simp only [HW1.out, HXB.out])
  clear HW1
  go_wp2_with fail
  refine HAW.out.mono ?_
  rintro e w2 ⟨rfl, hb2⟩
  have HB2 := Lib.hid (HB1.out.trans (hb2.mono HB1.out.size))
  have HBX := Lib.hid hb2
  clear hb2 HAW
  go_wp2_with fail
  refine (HPL.out _ HB2.out).mono ?_
  rintro e w3 ⟨sb, G, rfl, hsa, hG, hb3⟩
  have HSA3 := Lib.hid hsa
  have HG0 := Lib.hid (show ∀ k, G k → w.heap.size ≤ k from fun k hk => Nat.le_trans HB2.out.size (hG k hk))
  have HG2 := Lib.hid hG
  have hxl2 : xb < w2.heap.size := Nat.lt_of_lt_of_le hxl HBX.out.size
  have HBX3 := Lib.hid (bthen HBX.out hb3)
  clear hsa hG HPL
  have HBW3 := Lib.hid (HB2.out.trans (hb3.mono HB2.out.size))
  clear hb3
  go_wp2_with fail
  refine (as_prob HSA3.out HWF.out).mono ?_
  rintro e w4 ⟨F, ca, ra, cc, rc, cs, rows, rfl, hp, hF, hb4⟩
  have HP4 := Lib.hid hp
  have HB4 := Lib.hid hb4
  have HFL := Lib.hid hF
  clear hp hF hb4
  go_wp2_with fail
  refine (as_bits (HSA3.out.below HB4.out) HWF.out).mono ?_
  rintro e w5 ⟨rfl, hb5⟩
  obtain ⟨w6, hw6⟩ : ∃ w6, w5.alloc (.cells #[.slice ca cs.length cc, .slice ra rows.length rc] 73) = w6 := ⟨_, rfl⟩
  obtain ⟨pb, hpb⟩ : ∃ pb, w5.heap.size = pb := ⟨_, rfl⟩
  have hb6 : Below w5.heap.size w5 w6 := by rw [← hw6]; exact belowBox w5 (.cells #[.slice ca cs.length cc, .slice ra rows.length rc] 73)
  have p0 : w6.cell? ⟨pb, 0, none⟩ = some (.slice ca cs.length cc) := by rw [← hw6, ← hpb]; simp
  have p1 : w6.cell? ⟨pb, 1, none⟩ = some (.slice ra rows.length rc) := by rw [← hw6, ← hpb]; simp
  have hp36 : Below w3.heap.size w3 w6 := bthen (bthen HB4.out hb5) hb6
  have HB36 := Lib.hid hp36
  have HP6 := Lib.hid ((HP4.out.below hb5).below hb6)
  have hpbl : w3.heap.size ≤ pb := by rw [← hpb]; have h1 := HB4.out.size; have h2 := hb5.size; omega
  obtain ⟨NB, hNB⟩ : ∃ n : Nat, S.bits = n := ⟨_, rfl⟩
  have HNB := Lib.hid hNB
  simp only [hNB]
  have HW6 := Lib.hid hw6
  have HPB := Lib.hid hpb
  have HPBL := Lib.hid hpbl
  clear hb5 hw6 hpb hb6 hp36 hpbl hNB
  go_upto_region 7 with fail
  (try simp only [HW6.out, HPB.out])
  clear HW6 HPB
  go_wp2_with fail
  refine (as_rows (HSA3.out.below HB36.out) HWF.out).mono ?_
  rintro e w7 ⟨ar, cr, rfl, hmr, hb7⟩
  have HMR7 := Lib.hid hmr
  have HB7 := Lib.hid hb7
  clear hmr hb7
  go_wp2_with fail
  refine (as_cols (HSA3.out.below (bthen HB36.out HB7.out)) HWF.out).mono ?_
  rintro e w8 ⟨acl, ccl, rfl, hmc, hb8⟩
  have HMC8 := Lib.hid hmc
  have HB38 := Lib.hid (bthen (bthen HB36.out HB7.out) hb8)
  have HMR8 := Lib.hid (mid_under HMR7.out hb8)
  have HP8 := Lib.hid ((HP6.out.below HB7.out).below hb8)
  have hb68 := bthen HB7.out hb8
  have q0 := (hb68.cell (p := ⟨pb, 0, none⟩) (World.block_lt_of_cell? _ _ p0)).trans p0
  have q1 := (hb68.cell (p := ⟨pb, 1, none⟩) (World.block_lt_of_cell? _ _ p1)).trans p1
  clear hmc hb8 hb68 p0 p1
  go_wp2_with fail
  refine (as_copy (HSA3.out.below HB38.out) HWF.out).mono ?_
  rintro e w9 ⟨cb, Gc, rfl, hsc, hGc, hb9⟩
  have HB39 := Lib.hid (bthen HB38.out hb9)
  have HB9 := Lib.hid hb9
  have HSC := Lib.hid hsc
  have HGC := Lib.hid hGc
  have hbw9 : Below w.heap.size w w9 := HBW3.out.trans ((bthen HB38.out hb9).mono HBW3.out.size)
  have HG9 := Lib.hid (HG.out.below hbw9 HG.out.lt)
  have HS9 := Lib.hid (HS.out.below hbw9)
  have HE9 := Lib.hid (HE.out.below hbw9)
  have HBW9 := Lib.hid hbw9
  have hbx9 := bthen HBX3.out (bthen HB38.out hb9)
  have u0 := (hbx9.cell (p := ⟨xb, 0, none⟩) hxl).trans x0
  have u1 := (hbx9.cell (p := ⟨xb, 1, none⟩) hxl).trans x1
  have u2 := (hbx9.cell (p := ⟨xb, 2, none⟩) hxl).trans x2
  have u3 := (hbx9.cell (p := ⟨xb, 3, none⟩) hxl).trans x3
  have u4 := (hbx9.cell (p := ⟨xb, 4, none⟩) hxl).trans x4
  have u5 := (hbx9.cell (p := ⟨xb, 5, none⟩) hxl).trans x5
  have u6 := (hbx9.cell (p := ⟨xb, 6, none⟩) hxl).trans x6
  have hxl9 : xb < w9.heap.size := Nat.lt_of_lt_of_le hxl hbx9.size
  clear hsc hGc hb9 hbw9 x0 x1 x2 x3 x4 x5 x6 hbx9
  obtain ⟨w10, hw10⟩ : ∃ w10, w9.alloc (.cells #[.slice none 0 0, .slice none 0 0, .slice none 0 0, .slice none 0 0, .slice none 0 0, .slice none 0 0, .int .i64 0, .int .i64 0] 32) = w10 := ⟨_, rfl⟩
  obtain ⟨rb, hrb⟩ : ∃ rb, w9.heap.size = rb := ⟨_, rfl⟩
  have hb10 : Below w9.heap.size w9 w10 := by rw [← hw10]; exact belowBox w9 (.cells #[.slice none 0 0, .slice none 0 0, .slice none 0 0, .slice none 0 0, .slice none 0 0, .slice none 0 0, .int .i64 0, .int .i64 0] 32)
  have hr10 : RB w10 rb (fun k => k = rb) RM.new := by rw [← hw10, ← hrb]; exact rb_new w9
  have hrb9 : w9.heap.size ≤ rb := Nat.le_of_eq hrb
  have HW10 := Lib.hid hw10
  have HRBE := Lib.hid hrb
  have HB10 := Lib.hid hb10
  have HR10 := Lib.hid hr10
  clear hw10 hrb hb10 hr10
  go_upto_region 10 with fail
  (try simp only [HW10.out, HRBE.out])
  clear HW10 HRBE
  go_wp2_with fail
  go_loopw [12] (fun iv wr => ∃ (k : Nat) (H : Nat → Prop), k ≤ zs.length ∧ iv = .int .i64 k ∧ RB wr rb H (RM.new.run ((acts zs).take k)) ∧ (∀ q, H q → w9.heap.size ≤ q) ∧ Below w9.heap.size w9 wr) (fun iv _ => zs.length - (intOf iv).toNat)
  case atStart => exact ⟨0, _, Nat.zero_le _, rfl, by rw [List.take_zero]; exact HR10.out, fun q h => by rw [h]; exact hrb9, HB10.out⟩
  case round =>
    obtain ⟨k, H, hk, rfl, hr, hH, hb⟩ := hrel
    have HR := Lib.hid hr
    have HH := Lib.hid hH
    have HB := Lib.hid hb
    by_cases hlt : k < zs.length
    · obtain ⟨b, o, e1, hbl, y0, y1, y2, y3, y4, y5, y6⟩ := z_get (HS9.out.below hb).sl k hlt
      obtain ⟨z, hz⟩ : ∃ z, zs[k] = z := ⟨_, rfl⟩
      have hblw9 : b < w9.heap.size := by
        obtain ⟨b9, o9, e9, h9, _⟩ := z_get HS9.out.sl k hlt
        rw [e1] at e9; cases e9; exact h9
      have hblw : b < wr.heap.size := hbl
      have HYD := Lib.hid (show ∀ W, Below w9.heap.size w9 W → (fun W => W.cell? ⟨b, o + k * 7, none⟩ = some (.int .i64 z.1.d) ∧ W.cell? ⟨b, o + k * 7 + 1, none⟩ = some (.int .i64 z.1.row) ∧ W.cell? ⟨b, o + k * 7 + 2, none⟩ = some (.int .i64 z.1.col) ∧ W.cell? ⟨b, o + k * 7 + 3, none⟩ = some (.int .i64 z.1.kind) ∧ W.cell? ⟨b, o + k * 7 + 4, none⟩ = some (.int .i64 z.1.v.1) ∧ W.cell? ⟨b, o + k * 7 + 5, none⟩ = some (.int .i64 z.1.v.2) ∧ W.cell? ⟨b, o + k * 7 + 6, none⟩ = some (.slice z.2.1 z.1.es.length z.2.2)) W from fun W hW => by
        obtain ⟨b9, o9, e9, h9, z0, z1, z2, z3, z4, z5, z6⟩ := z_get (HS9.out.below hW).sl k hlt
        rw [hz] at z0 z1 z2 z3 z4 z5 z6
        rw [e1] at e9; cases e9
        exact ⟨z0, z1, z2, z3, z4, z5, z6⟩)
      rw [hz] at y0 y1 y2 y3 y4 y5 y6
      have hzm : z ∈ zs := by rw [← hz]; exact List.getElem_mem hlt
      have HZ := Lib.hid (HS9.out.ok z hzm)
      have HLD := Lib.hid (show z.1.es.length + 1 ≤ 1048576 by have := load_act hzm; omega)
      have HBE := Lib.hid (behind (acts zs) k)
      have HZE := Lib.hid hz
      have i0 : (0 : Int) ≤ (k : Int) := by omega
      have i1 : (k : Int) < (zs.length : Int) := by omega
      subst e1
      clear hr hH hb hz hzm
      go_upto_region 13 with fail
      refine wp_region_held_drew (S := fun W => W.cell? ⟨b, o + k * 7, none⟩ = some (.int .i64 z.1.d) ∧ W.cell? ⟨b, o + k * 7 + 1, none⟩ = some (.int .i64 z.1.row) ∧ W.cell? ⟨b, o + k * 7 + 2, none⟩ = some (.int .i64 z.1.col) ∧ W.cell? ⟨b, o + k * 7 + 3, none⟩ = some (.int .i64 z.1.kind) ∧ W.cell? ⟨b, o + k * 7 + 4, none⟩ = some (.int .i64 z.1.v.1) ∧ W.cell? ⟨b, o + k * 7 + 5, none⟩ = some (.int .i64 z.1.v.2) ∧ W.cell? ⟨b, o + k * 7 + 6, none⟩ = some (.slice z.2.1 z.1.es.length z.2.2)) (by kernel_rfl) (⟨y0, y1, y2, y3, y4, y5, y6⟩) (fun hHeld => ?_)
      refine tk 1 (some 39) (v := ?_) rfl rfl ?_ ?_
      rotate_left
      · (intro w _; go_simp; (try with_reducible rfl))
      simp only [Act.put, stB, stZ, stS]
      refine tk 2 (some 40) (v := ?_) rfl rfl ?_ ?_
      rotate_left
      · (intro w _; go_simp; (try with_reducible rfl))
      simp only [Act.put, stB, stZ, stS]
      refine tk 3 (some 41) (v := ?_) rfl rfl ?_ ?_
      rotate_left
      · (intro w _; go_simp; (try with_reducible rfl))
      simp only [Act.put, stB, stZ, stS]
      refine tk 4 (some 42) (v := ?_) rfl rfl ?_ ?_
      rotate_left
      · (intro w hSw; (try dsimp only at hSw); ((try obtain ⟨hS0, hS1, hS2, hS3, hS4, hS5, hS6⟩ := hSw); go_simp); (try with_reducible rfl))
      simp only [Act.put, stB, stZ, stS]
      refine tk 5 (some 43) (v := ?_) rfl rfl ?_ ?_
      rotate_left
      · (intro w hSw; (try dsimp only at hSw); ((try obtain ⟨hS0, hS1, hS2, hS3, hS4, hS5, hS6⟩ := hSw); go_simp); (try with_reducible rfl))
      simp only [Act.put, stB, stZ, stS]
      refine wpAnyH_ready (rs := [0]) (by kernel_rfl) (by simp) ?_
      refine (AllReadyH.cons (o := { dst := some 38, op := Op.call { callee := Callee.value (Operand.func 11), args := #[], argTypes := #[] }, type := 24, pos := "law.go:222", after := #[], guard := none }) rfl (fun K hK => ?_) AllReadyH.nil)
      go_simp
      refine (as_new wr.drew).mono ?_
      rintro e wn ⟨sn, Gn, rfl, hsn, hGn, hbn⟩
      have hbd := bthen (Below.drawn wr 1) hbn
      have HBD := Lib.hid hbd
      have hcn : Ctx w9 wn sn Gn AS.new rb H (RM.new.run ((acts zs).take k)) := ⟨hsn, HR.out.below hbd, fun q h1 h2 => by have h3 := hGn q h1; have h4 := HR.out.lt q h2; simp at h3; omega, fun q h => by have h3 := hGn q h; have h4 := HB.out.size; simp at h3; omega, HH.out, HB.out.trans (hbd.mono HB.out.size)⟩
      have HDO := Lib.hid (does_any w9 wn sn rb Gn H AS.new (RM.new.run ((acts zs).take k)) z.1 z.2.1 z.2.2 hcn WF.new HBE.out.rw HZ.out.1 HZ.out.2 HG9.out (by have := HLD.out; omega) (by have := HLD.out; have := HBE.out.cells; omega) (by decide) (by decide) (by have := HBE.out.lr'; omega) (by have := HBE.out.lc'; omega))
      rw [actV_eq] at HDO
      clear hsn hGn hbn hbd hcn
      refine hK.out _ _ (⟨(HBD.out.cell (p := ⟨b, o + k * 7, none⟩) hblw).trans y0, (HBD.out.cell (p := ⟨b, o + k * 7 + 1, none⟩) hblw).trans y1, (HBD.out.cell (p := ⟨b, o + k * 7 + 2, none⟩) hblw).trans y2, (HBD.out.cell (p := ⟨b, o + k * 7 + 3, none⟩) hblw).trans y3, (HBD.out.cell (p := ⟨b, o + k * 7 + 4, none⟩) hblw).trans y4, (HBD.out.cell (p := ⟨b, o + k * 7 + 5, none⟩) hblw).trans y5, (HBD.out.cell (p := ⟨b, o + k * 7 + 6, none⟩) hblw).trans y6⟩) (fun hHeld2 => ?_)
      clear hK K hHeld
      rename _ => hHeld
      try simp only [Act.put, stB, stZ, stS]
      refine wpAnyH_ready (rs := [6]) (by kernel_rfl) (by simp) ?_
      refine (AllReadyH.cons (o := { dst := some 44, op := Op.call { callee := Callee.value (Operand.func 12), args := #[Operand.tmp 38, Operand.tmp 39, Operand.tmp 43], argTypes := #[24, 26, 39] }, type := 4, pos := "law.go:222", after := #[{ on := 0, ground := Ground.data }, { on := 1, ground := Ground.data }, { on := 5, ground := Ground.data }, { on := 0, ground := Ground.chain }], guard := none }) rfl (fun K hK => ?_) AllReadyH.nil)
      go_simp
      refine HDO.out.mono ?_
      rintro e wd ⟨bb, rfl, -, hca⟩
      have HCA := Lib.hid hca
      have hbz : Below w9.heap.size w9 wd := hca.bl
      clear hca
      refine hK.out _ _ (HYD.out _ HCA.out.bl) (fun hHeld2 => ?_)
      clear hK K hHeld
      rename _ => hHeld
      try simp only [Act.put, stB, stZ, stS]
      refine wpAnyH_done (by kernel_rfl) ?_ _
      (try simp only [Exit.inBlock, Exit.then])
      clear hHeld
      go_wp2_with fail
      go_roundw
      case rel =>
        obtain ⟨G3, H3, hc3, _⟩ := HCA.out
        refine ⟨k + 1, H3, by omega, by go_num, ?_, hc3.h0, hc3.bl⟩
        rw [rrun_next zs k hlt, HZE.out]
        exact hc3.rb
      case measure => simp [intOf]; omega
    · obtain rfl : k = zs.length := by omega
      rw [← acts_len zs, List.take_length] at hr
      have HR2 := Lib.hid hr
      have t0 := (hb.cell (p := ⟨xb, 0, none⟩) hxl9).trans u0
      have t1 := (hb.cell (p := ⟨xb, 1, none⟩) hxl9).trans u1
      have t2 := (hb.cell (p := ⟨xb, 2, none⟩) hxl9).trans u2
      have t3 := (hb.cell (p := ⟨xb, 3, none⟩) hxl9).trans u3
      have t4 := (hb.cell (p := ⟨xb, 4, none⟩) hxl9).trans u4
      have t5 := (hb.cell (p := ⟨xb, 5, none⟩) hxl9).trans u5
      have t6 := (hb.cell (p := ⟨xb, 6, none⟩) hxl9).trans u6
      have h39 := bthen HB39.out (hb.mono (Nat.le_refl _))
      have hz39 := HB39.out.size
      have hcx : Ctx w wr sb G S rb H (RM.new.run (acts zs)) := ⟨HSA3.out.below h39, hr, fun q h1 h2 => by have h3 := HSA3.out.lt q h1; have h4 := hH q h2; omega, HG0.out, fun q h => by have h4 := hH q h; have h5 := HBW9.out.size; omega, HBW9.out.trans (hb.mono HBW9.out.size)⟩
      have htka : (acts zs).take zs.length = acts zs := by rw [← acts_len zs]; exact List.take_length
      have hbea : RWf (RM.new.run (acts zs)) ∧ (RM.new.run (acts zs)).lr ≤ (load (acts zs) : Int) ∧ (RM.new.run (acts zs)).lc ≤ (load (acts zs) : Int) ∧ (RM.new.run (acts zs)).cells.length ≤ load (acts zs) := by have h := behind (acts zs) zs.length; have h1 := h.rw; have h2 := h.lr'; have h3 := h.lc'; have h4 := h.cells; rw [htka] at h1 h2 h3 h4; exact ⟨h1, h2, h3, h4⟩
      have hdo := does_any w wr sb rb G H S (RM.new.run (acts zs)) x ea ec hcx HWF.out hbea.1 HX.out HE.out HG.out hel (by have := hbea.2.2.2; omega) (by have := HLR.out.1; omega) (by have := HLR.out.2; omega) (by have := hbea.2.1; omega) (by have := hbea.2.2.1; omega)
      rw [show actV x ea ec = .agg #[.int .i64 x.d, .int .i64 x.row, .int .i64 x.col, .int .i64 x.kind, .int .i64 x.v.1, .int .i64 x.v.2, .slice ea x.es.length ec] from rfl] at hdo
      have HDO := Lib.hid hdo
      have HCX := Lib.hid hcx
      clear hr hH hb hlt hk u0 u1 u2 u3 u4 u5 u6 h39 hcx hbea hdo
      go_wp2_with fail
      refine HDO.out.mono ?_
      rintro e w11 ⟨bb, rfl, -, hca⟩
      obtain ⟨G1, H1, hc1, hg1, hh1, hk1⟩ := hca
      have hgc : ∀ q, Gc q → w8.heap.size ≤ q ∧ q < w9.heap.size := fun q h => ⟨HGC.out q h, HSC.out.lt q h⟩
      have hg3 : ∀ q, (G q ∨ H q) → q < w3.heap.size ∨ w9.heap.size ≤ q := fun q h => by
        rcases h with h | h
        · exact .inl (HSA3.out.lt q h)
        · exact .inr (HH.out q h)
      have hz38 := HB38.out.size
      have hzr := HB.out.size
      have hnw : ∀ q, (G q ∨ H q) → ¬ WordB wr q := fun q h => by
        rcases h with h | h
        · exact HCX.out.sa.noWords q h
        · exact HCX.out.rb.noWords q h
      have hsc : SA w11 cb Gc S := (HSC.out.below HB.out).keeps hk1 (fun q h1 h2 => by have := hgc q h1; have := hg3 q h2; omega) hnw
      have hb9r := bthen HB9.out (HB.out.mono (Nat.le_refl _))
      have hF8 : ∀ q, F q → w3.heap.size ≤ q ∧ q < w8.heap.size := fun q h => ⟨HFL.out q h, HP8.out.lt q h⟩
      have hpr := ((HP8.out.below HB9.out).below HB.out).keeps hk1 (fun q h1 h2 => by have := hF8 q h1; have := hg3 q h2; have := HB9.out.size; omega) hnw
      have hmrl : ∀ q, (Value.slice ar S.rids.length cr).ownBlock = some q → w3.heap.size ≤ q ∧ q < w8.heap.size := fun q h => ⟨Nat.le_trans HB36.out.size (HMR7.out.lt q h).1, (HMR8.out.lt q h).2⟩
      have hmcl : ∀ q, (Value.slice acl S.cids.length ccl).ownBlock = some q → w3.heap.size ≤ q ∧ q < w8.heap.size := fun q h => ⟨Nat.le_trans (bthen HB36.out HB7.out).size (HMC8.out.lt q h).1, (HMC8.out.lt q h).2⟩
      have hmr11 := (mid_under HMR8.out hb9r).keeps hk1 fun q h1 h2 => by have := hmrl q h1; have := hg3 q h2; have := HB9.out.size; omega
      have hmc11 := (mid_under HMC8.out hb9r).keeps hk1 fun q h1 h2 => by have := hmcl q h1; have := hg3 q h2; have := HB9.out.size; omega
      have hpb8 : pb < w8.heap.size := World.block_lt_of_cell? _ _ q0
      have hz98 := HB9.out.size
      have hpbn : ¬ (G pb ∨ H pb) := fun h => by have := hg3 pb h; have := HPBL.out; omega
      have hpbr : pb < wr.heap.size := by omega
      have r0 := (hk1.cell (a := ⟨pb, 0, none⟩) hpbr hpbn).trans ((hb9r.cell (p := ⟨pb, 0, none⟩) hpb8).trans q0)
      have r1 := (hk1.cell (a := ⟨pb, 1, none⟩) hpbr hpbn).trans ((hb9r.cell (p := ⟨pb, 1, none⟩) hpb8).trans q1)
      have hxbn : ¬ (G xb ∨ H xb) := fun h => by
        rcases h with h | h
        · have := HG2.out xb h; omega
        · have := HH.out xb h; omega
      have hxbr : xb < wr.heap.size := World.block_lt_of_cell? _ _ t0
      have v0 := (hk1.cell (a := ⟨xb, 0, none⟩) hxbr hxbn).trans t0
      have v1 := (hk1.cell (a := ⟨xb, 1, none⟩) hxbr hxbn).trans t1
      have v2 := (hk1.cell (a := ⟨xb, 2, none⟩) hxbr hxbn).trans t2
      have v3 := (hk1.cell (a := ⟨xb, 3, none⟩) hxbr hxbn).trans t3
      have v4 := (hk1.cell (a := ⟨xb, 4, none⟩) hxbr hxbn).trans t4
      have v5 := (hk1.cell (a := ⟨xb, 5, none⟩) hxbr hxbn).trans t5
      have v6 := (hk1.cell (a := ⟨xb, 6, none⟩) hxbr hxbn).trans t6
      have hrf := refused_any w w11 cb Gc S x ea ec hsc hc1.bl HWF.out HX.out HE.out hel (by have := HLR.out.1; omega) (by have := HLR.out.2; omega)
      rw [show actV x ea ec = .agg #[.int .i64 x.d, .int .i64 x.row, .int .i64 x.col, .int .i64 x.kind, .int .i64 x.v.1, .int .i64 x.v.2, .slice ea x.es.length ec] from rfl] at hrf
      have HRF := Lib.hid hrf
      have HSC11 := Lib.hid hsc
      have HC1 := Lib.hid hc1
      have HG1 := Lib.hid hg1
      have HPR := Lib.hid hpr
      have HMR11 := Lib.hid hmr11
      have HMC11 := Lib.hid hmc11
      have HF8 := Lib.hid hF8
      have HGCR := Lib.hid hgc
      have HML := Lib.hid hmrl
      have HMCL := Lib.hid hmcl
      have HGL := Lib.hid HSA3.out.lt
      clear hrf hsc hc1 hg1 hh1 hk1 hpr hmr11 hmc11 hF8 hgc hmrl hmcl hg3 hnw hb9r hpbn hpbr hxbn hxbr t0 t1 t2 t3 t4 t5 t6 q0 q1
      go_wp2_with fail
      refine HRF.out.mono ?_
      rintro e w12 ⟨ev, rfl, hev, Gc2, hsc2, hgc2, hk2⟩
      have hnw2 : ∀ q, Gc q → ¬ WordB w11 q := HSC11.out.noWords
      have hsa12 := HC1.out.sa.keeps hk2 (fun q h1 h2 => by
        have h3 := HGCR.out q h2
        rcases HG1.out q h1 with h | h
        · have := HGL.out q h; omega
        · omega) hnw2
      have hp12 := HPR.out.keeps hk2 (fun q h1 h2 => by have := HF8.out q h1; have := HGCR.out q h2; omega) hnw2
      have hmr12 := HMR11.out.keeps hk2 fun q h1 h2 => by have := HML.out q h1; have := HGCR.out q h2; omega
      have hmc12 := HMC11.out.keeps hk2 fun q h1 h2 => by have := HMCL.out q h1; have := HGCR.out q h2; omega
      have hpbn : ¬ Gc pb := fun h => by have := HGCR.out pb h; omega
      have p0 := (hk2.cell (a := ⟨pb, 0, none⟩) (World.block_lt_of_cell? _ _ r0) hpbn).trans r0
      have p1 := (hk2.cell (a := ⟨pb, 1, none⟩) (World.block_lt_of_cell? _ _ r1) hpbn).trans r1
      have hbw12 : Below w.heap.size w w12 := below_of_keeps HC1.out.bl hk2 fun q h => by have := HGCR.out q h; have := HBW3.out.size; omega
      obtain ⟨f, hf⟩ : ∃ f, (S.act x).1.2 = f := ⟨_, rfl⟩
      rw [hf] at hev
      have HEV := Lib.hid hev
      have HBW12 := Lib.hid hbw12
      by_cases hfn : f = noF
      · subst hfn
        obtain rfl : ev = .nilIface := HEV.out.nil
        clear hev hsc2 hgc2 hk2 hnw2 hsa12 hp12 hmr12 hmc12 hbw12 hf v0 v1 v2 v3 v4 v5 v6 r0 r1 p0 p1
        go_wp2_with fail
        go_ret
        exact ⟨rfl, HBW12.out⟩
      · obtain ⟨T9, u9, rfl⟩ := errv_iface HEV.out hfn
        rw [act_refused S x (by rw [hf]; exact hfn)] at hsa12
        have HSA := Lib.hid (hsa12.below (Below.drawn w12 1))
        have HP := Lib.hid (hp12.below (Below.drawn w12 1))
        have HMR := Lib.hid (mid_under hmr12 (Below.drawn w12 1))
        have HMC := Lib.hid (mid_under hmc12 (Below.drawn w12 1))
        have HBW := Lib.hid (hbw12.trans ((Below.drawn w12 1).mono hbw12.size))
        clear hev hsc2 hgc2 hk2 hnw2 hsa12 hp12 hmr12 hmc12 hbw12 hf v0 v1 v2 v3 v4 v5 v6 r0 r1 hpbn
        go_upto_region 18 with fail
        refine wp_region_held_drew (S := fun W => W.cell? ⟨pb, 0, none⟩ = some (.slice ca cs.length cc) ∧ W.cell? ⟨pb, 1, none⟩ = some (.slice ra rows.length rc)) (by kernel_rfl) (⟨p0, p1⟩) (fun hHeld => ?_)
        refine tk 0 (some 54) (v := ?_) rfl rfl ?_ ?_
        rotate_left
        · (intro w _; go_simp; (try with_reducible rfl))
        simp only [Act.put, stB, stZ, stS]
        refine tk 2 (some 56) (v := ?_) rfl rfl ?_ ?_
        rotate_left
        · (intro w hSw; (try dsimp only at hSw); ((try obtain ⟨hS0, hS1⟩ := hSw); go_simp); (try with_reducible rfl))
        simp only [Act.put, stB, stZ, stS]
        refine wpAnyH_ready (rs := [1]) (by kernel_rfl) (by simp) ?_
        refine (AllReadyH.cons (o := { dst := some 55, op := Op.call { callee := Callee.value (Operand.func 30), args := #[Operand.tmp 54], argTypes := #[24] }, type := 73, pos := "law.go:229", after := #[{ on := 0, ground := Ground.data }], guard := none }) rfl (fun K hK => ?_) AllReadyH.nil)
        go_simp
        refine (as_prob HSA.out HWF.out).mono ?_
        rintro e V1 ⟨F2, ca2, ra2, cc2, rc2, cs2, rows2, rfl, hp2, hF2, hb⟩
        have HP2 := Lib.hid hp2
        replace HSA := Lib.hid (HSA.out.below hb)
        replace HP := Lib.hid (HP.out.below hb)
        replace HMR := Lib.hid (mid_under HMR.out hb)
        replace HMC := Lib.hid (mid_under HMC.out hb)
        replace HBW := Lib.hid (HBW.out.trans (hb.mono HBW.out.size))
        have hKK := And.intro ((hb.cell (p := ⟨pb, 0, none⟩) (World.block_lt_of_cell? _ _ hHeld.1)).trans hHeld.1) ((hb.cell (p := ⟨pb, 1, none⟩) (World.block_lt_of_cell? _ _ hHeld.2)).trans hHeld.2)
        clear hp2 hF2 hb
        refine hK.out _ _ (hKK) (fun hHeld2 => ?_)
        clear hK K hHeld
        rename _ => hHeld
        try simp only [Act.put, stB, stZ, stS]
        refine wpAnyH_ready (rs := [3]) (by kernel_rfl) (by simp) ?_
        refine (AllReadyH.cons (o := { dst := some 57, op := Op.call { callee := Callee.value (Operand.func 32), args := #[Operand.tmp 55, Operand.tmp 56], argTypes := #[73, 73] }, type := 4, pos := "law.go:229", after := #[{ on := 1, ground := Ground.data }, { on := 2, ground := Ground.data }, { on := 1, ground := Ground.chain }], guard := none }) rfl (fun K hK => ?_) AllReadyH.nil)
        go_simp
        refine (same_any _ _ _ ca2 ra2 ca ra cc2 rc2 cc rc cs2 cs rows2 rows _ _ HP2.out HP.out).mono ?_
        rintro e V2 ⟨rfl, hb⟩
        replace HSA := Lib.hid (HSA.out.below hb)
        replace HP := Lib.hid (HP.out.below hb)
        replace HMR := Lib.hid (mid_under HMR.out hb)
        replace HMC := Lib.hid (mid_under HMC.out hb)
        replace HBW := Lib.hid (HBW.out.trans (hb.mono HBW.out.size))
        have hKK := And.intro ((hb.cell (p := ⟨pb, 0, none⟩) (World.block_lt_of_cell? _ _ hHeld.1)).trans hHeld.1) ((hb.cell (p := ⟨pb, 1, none⟩) (World.block_lt_of_cell? _ _ hHeld.2)).trans hHeld.2)
        clear hb
        refine hK.out _ _ (hKK) (fun hHeld2 => ?_)
        clear hK K hHeld
        rename _ => hHeld
        try simp only [Act.put, stB, stZ, stS]
        refine tk 4 (some 58) (v := ?_) rfl rfl ?_ ?_
        rotate_left
        · (intro w _; go_simp; (try with_reducible rfl))
        simp only [Act.put, stB, stZ, stS]
        refine tk 5 (some 59) (v := ?_) rfl rfl ?_ ?_
        rotate_left
        · (intro w _; go_simp; (try with_reducible rfl))
        simp only [Act.put, stB, stZ, stS]
        refine tk 7 (some 61) (v := ?_) rfl rfl ?_ ?_
        rotate_left
        · (intro w _; go_simp; (try with_reducible rfl))
        simp only [Act.put, stB, stZ, stS]
        refine wpAnyH_ready (rs := [6]) (by kernel_rfl) (by simp) ?_
        refine (AllReadyH.cons (o := { dst := some 60, op := Op.call { callee := Callee.value (Operand.func 21), args := #[Operand.tmp 59], argTypes := #[24] }, type := 3, pos := "law.go:229", after := #[{ on := 5, ground := Ground.data }, { on := 4, ground := Ground.chain }, { on := 4, ground := Ground.guard }], guard := some (4, true) }) rfl (fun K hK => ?_) AllReadyH.nil)
        go_simp
        refine (as_bits HSA.out HWF.out).mono ?_
        rintro e V3 ⟨rfl, hb⟩
        rw [HNB.out]
        replace HSA := Lib.hid (HSA.out.below hb)
        replace HP := Lib.hid (HP.out.below hb)
        replace HMR := Lib.hid (mid_under HMR.out hb)
        replace HMC := Lib.hid (mid_under HMC.out hb)
        replace HBW := Lib.hid (HBW.out.trans (hb.mono HBW.out.size))
        have hKK := And.intro ((hb.cell (p := ⟨pb, 0, none⟩) (World.block_lt_of_cell? _ _ hHeld.1)).trans hHeld.1) ((hb.cell (p := ⟨pb, 1, none⟩) (World.block_lt_of_cell? _ _ hHeld.2)).trans hHeld.2)
        clear hb
        refine hK.out _ _ (hKK) (fun hHeld2 => ?_)
        clear hK K hHeld
        rename _ => hHeld
        try simp only [Act.put, stB, stZ, stS]
        refine tk 8 (some 62) (v := ?_) rfl rfl ?_ ?_
        rotate_left
        · (intro w _; go_simp; (try with_reducible rfl))
        simp only [Act.put, stB, stZ, stS]
        refine tk 9 (some 63) (v := ?_) rfl rfl ?_ ?_
        rotate_left
        · (intro w _; go_simp; (try with_reducible rfl))
        simp only [Act.put, stB, stZ, stS]
        refine tk 10 (some 64) (v := ?_) rfl rfl ?_ ?_
        rotate_left
        · (intro w _; go_simp; (try with_reducible rfl))
        simp only [Act.put, stB, stZ, stS]
        refine tk 11 (some 65) (v := ?_) rfl rfl ?_ ?_
        rotate_left
        · (intro w _; go_simp; (try with_reducible rfl))
        simp only [Act.put, stB, stZ, stS]
        refine tk 13 (some 67) (v := ?_) rfl rfl ?_ ?_
        rotate_left
        · (intro w _; go_simp; (try with_reducible rfl))
        simp only [Act.put, stB, stZ, stS]
        refine wpAnyH_ready (rs := [12]) (by kernel_rfl) (by simp) ?_
        refine (AllReadyH.cons (o := { dst := some 66, op := Op.call { callee := Callee.value (Operand.func 13), args := #[Operand.tmp 65], argTypes := #[24] }, type := 27, pos := "law.go:229", after := #[{ on := 11, ground := Ground.data }, { on := 10, ground := Ground.chain }, { on := 10, ground := Ground.guard }], guard := some (10, true) }) rfl (fun K hK => ?_) AllReadyH.nil)
        go_simp
        refine (as_rows HSA.out HWF.out).mono ?_
        rintro e V4 ⟨an, cn, rfl, hm, hb⟩
        have HMN := Lib.hid (Sl.ofMid hm)
        replace HSA := Lib.hid (HSA.out.below hb)
        replace HP := Lib.hid (HP.out.below hb)
        replace HMR := Lib.hid (mid_under HMR.out hb)
        replace HMC := Lib.hid (mid_under HMC.out hb)
        replace HBW := Lib.hid (HBW.out.trans (hb.mono HBW.out.size))
        have hKK := And.intro ((hb.cell (p := ⟨pb, 0, none⟩) (World.block_lt_of_cell? _ _ hHeld.1)).trans hHeld.1) ((hb.cell (p := ⟨pb, 1, none⟩) (World.block_lt_of_cell? _ _ hHeld.2)).trans hHeld.2)
        clear hm hb
        refine hK.out _ _ (hKK) (fun hHeld2 => ?_)
        clear hK K hHeld
        rename _ => hHeld
        try simp only [Act.put, stB, stZ, stS]
        refine wpAnyH_ready (rs := [14]) (by kernel_rfl) (by simp) ?_
        refine (AllReadyH.cons (o := { dst := some 68, op := Op.call { callee := Callee.value (Operand.func 33), args := #[Operand.tmp 66, Operand.tmp 67], argTypes := #[27, 27] }, type := 4, pos := "law.go:229", after := #[{ on := 12, ground := Ground.data }, { on := 13, ground := Ground.data }, { on := 12, ground := Ground.chain }, { on := 10, ground := Ground.guard }], guard := some (10, true) }) rfl (fun K hK => ?_) AllReadyH.nil)
        go_simp
        refine (ints_any an ar cn cr S.rids S.rids _ HMN.out (Sl.ofMid HMR.out)).mono ?_
        rintro e V5 ⟨rfl, hb⟩
        rw [decide_eq_true rfl]
        clear HMN
        replace HSA := Lib.hid (HSA.out.below hb)
        replace HP := Lib.hid (HP.out.below hb)
        replace HMR := Lib.hid (mid_under HMR.out hb)
        replace HMC := Lib.hid (mid_under HMC.out hb)
        replace HBW := Lib.hid (HBW.out.trans (hb.mono HBW.out.size))
        have hKK := And.intro ((hb.cell (p := ⟨pb, 0, none⟩) (World.block_lt_of_cell? _ _ hHeld.1)).trans hHeld.1) ((hb.cell (p := ⟨pb, 1, none⟩) (World.block_lt_of_cell? _ _ hHeld.2)).trans hHeld.2)
        clear hb
        refine hK.out _ _ (hKK) (fun hHeld2 => ?_)
        clear hK K hHeld
        rename _ => hHeld
        try simp only [Act.put, stB, stZ, stS]
        refine tk 15 (some 69) (v := ?_) rfl rfl ?_ ?_
        rotate_left
        · (intro w _; go_simp; (try with_reducible rfl))
        simp only [Act.put, stB, stZ, stS]
        refine tk 16 (some 70) (v := ?_) rfl rfl ?_ ?_
        rotate_left
        · (intro w _; go_simp; (try with_reducible rfl))
        simp only [Act.put, stB, stZ, stS]
        refine tk 17 (some 71) (v := ?_) rfl rfl ?_ ?_
        rotate_left
        · (intro w _; go_simp; (try with_reducible rfl))
        simp only [Act.put, stB, stZ, stS]
        refine tk 19 (some 73) (v := ?_) rfl rfl ?_ ?_
        rotate_left
        · (intro w _; go_simp; (try with_reducible rfl))
        simp only [Act.put, stB, stZ, stS]
        refine wpAnyH_ready (rs := [18]) (by kernel_rfl) (by simp) ?_
        refine (AllReadyH.cons (o := { dst := some 72, op := Op.call { callee := Callee.value (Operand.func 14), args := #[Operand.tmp 71], argTypes := #[24] }, type := 27, pos := "law.go:229", after := #[{ on := 17, ground := Ground.data }, { on := 16, ground := Ground.chain }, { on := 16, ground := Ground.guard }], guard := some (16, true) }) rfl (fun K hK => ?_) AllReadyH.nil)
        go_simp
        refine (as_cols HSA.out HWF.out).mono ?_
        rintro e V6 ⟨an, cn, rfl, hm, hb⟩
        have HMN := Lib.hid (Sl.ofMid hm)
        replace HSA := Lib.hid (HSA.out.below hb)
        replace HP := Lib.hid (HP.out.below hb)
        replace HMR := Lib.hid (mid_under HMR.out hb)
        replace HMC := Lib.hid (mid_under HMC.out hb)
        replace HBW := Lib.hid (HBW.out.trans (hb.mono HBW.out.size))
        have hKK := And.intro ((hb.cell (p := ⟨pb, 0, none⟩) (World.block_lt_of_cell? _ _ hHeld.1)).trans hHeld.1) ((hb.cell (p := ⟨pb, 1, none⟩) (World.block_lt_of_cell? _ _ hHeld.2)).trans hHeld.2)
        clear hm hb
        refine hK.out _ _ (hKK) (fun hHeld2 => ?_)
        clear hK K hHeld
        rename _ => hHeld
        try simp only [Act.put, stB, stZ, stS]
        refine wpAnyH_ready (rs := [20]) (by kernel_rfl) (by simp) ?_
        refine (AllReadyH.cons (o := { dst := some 74, op := Op.call { callee := Callee.value (Operand.func 33), args := #[Operand.tmp 72, Operand.tmp 73], argTypes := #[27, 27] }, type := 4, pos := "law.go:229", after := #[{ on := 18, ground := Ground.data }, { on := 19, ground := Ground.data }, { on := 18, ground := Ground.chain }, { on := 16, ground := Ground.guard }], guard := some (16, true) }) rfl (fun K hK => ?_) AllReadyH.nil)
        go_simp
        refine (ints_any an acl cn ccl S.cids S.cids _ HMN.out (Sl.ofMid HMC.out)).mono ?_
        rintro e V7 ⟨rfl, hb⟩
        rw [decide_eq_true rfl]
        clear HMN
        replace HSA := Lib.hid (HSA.out.below hb)
        replace HP := Lib.hid (HP.out.below hb)
        replace HMR := Lib.hid (mid_under HMR.out hb)
        replace HMC := Lib.hid (mid_under HMC.out hb)
        replace HBW := Lib.hid (HBW.out.trans (hb.mono HBW.out.size))
        have hKK := And.intro ((hb.cell (p := ⟨pb, 0, none⟩) (World.block_lt_of_cell? _ _ hHeld.1)).trans hHeld.1) ((hb.cell (p := ⟨pb, 1, none⟩) (World.block_lt_of_cell? _ _ hHeld.2)).trans hHeld.2)
        clear hb
        refine hK.out _ _ (hKK) (fun hHeld2 => ?_)
        clear hK K hHeld
        rename _ => hHeld
        try simp only [Act.put, stB, stZ, stS]
        refine tk 21 (some 75) (v := ?_) rfl rfl ?_ ?_
        rotate_left
        · (intro w _; go_simp; (try with_reducible rfl))
        simp only [Act.put, stB, stZ, stS]
        refine tk 22 (some 4) (v := ?_) rfl rfl ?_ ?_
        rotate_left
        · (intro w _; go_simp; (try with_reducible rfl))
        simp only [Act.put, stB, stZ, stS]
        refine wpAnyH_done (by kernel_rfl) ?_ _
        (try simp only [Exit.inBlock, Exit.then])
        clear hHeld
        go_wp2_with fail
        go_ret
        exact ⟨rfl, HBW.out⟩
end Go.Proofs.YtaehklhbokocbaaGreatDoor
