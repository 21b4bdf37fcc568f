/-
  The walk of StoreNumbers: it answers true; the conditions: what errors.errorType holds, how long the script is.
  Printed by a program of this repository (wip/law11.py).
-/
import Derived.Test.YtaehklhbokocbaaGreatDoorZLRoom
set_option linter.unusedVariables false
set_option linter.unusedSimpArgs false
namespace Go.Proofs.YtaehklhbokocbaaGreatDoor
open Go.RowKit Go.Extern.Stop Go.Stop Go.Extern
theorem addRow_nil1 (s : AS) (v : Rat) : s.addRow 1 v [] = if 20 ≤ s.rows.length then ((0, (2, noWh, 0)), s) else ((s.lr + 1, noF), { s with rows := s.rows ++ [⟨s.lr + 1, 1, v, List.replicate s.cids.length 0⟩], lr := s.lr + 1 }) := by
  unfold AS.addRow
  rw [if_neg (by omega)]
  split
  · rfl
  · unfold AS.lay layQ; rfl
theorem act_rids (s : AS) (x : XA) : (∃ k, (s.act x).2.rids = s.rids.eraseIdx k) ∨ (s.act x).2.rids = s.rids ++ [s.lr + 1] ∨ (s.act x).2.rids = s.rids := by
  unfold AS.act
  split
  · unfold AS.addRow
    split
    · exact .inr (.inr rfl)
    · split
      · exact .inr (.inr rfl)
      · split
        · exact .inr (.inr rfl)
        · exact .inr (.inl (by simp [AS.rids]))
  · split
    · unfold AS.addCol
      split
      · exact .inr (.inr rfl)
      · split
        · exact .inr (.inr rfl)
        · exact .inr (.inr (addQ_ids _ _))
    · split
      · unfold AS.dropRow
        split
        · exact .inl ⟨_, erase_map _ _ _⟩
        · exact .inr (.inr rfl)
      · split
        · unfold AS.dropCol
          split
          · exact .inr (.inr (by simp only [AS.rids, List.map_map]; rfl))
          · exact .inr (.inr rfl)
        · split
          · unfold AS.setCoef
            split
            · split
              · exact .inr (.inr (upd_map (fun r : AR => { r with coef := r.coef.set (atI s.cids x.col) (fracQ x.v) }) (fun r => r.id) (fun _ => rfl) _ _))
              · exact .inr (.inr rfl)
            · exact .inr (.inr rfl)
          · split
            · unfold AS.setRhs
              split
              · exact .inr (.inr (upd_map (fun r : AR => { r with rhs := fracQ x.v }) (fun r => r.id) (fun _ => rfl) _ _))
              · exact .inr (.inr rfl)
            · split
              · unfold AS.setKind
                split
                · split
                  · exact .inr (.inr rfl)
                  · exact .inr (.inr (upd_map (fun r : AR => { r with kind := x.kind }) (fun r => r.id) (fun _ => rfl) _ _))
                · exact .inr (.inr rfl)
              · split
                · unfold AS.setCost
                  split <;> exact .inr (.inr rfl)
                · exact .inr (.inr rfl)
theorem act_cids (s : AS) (x : XA) : (∃ k, (s.act x).2.cids = s.cids.eraseIdx k) ∨ (s.act x).2.cids = s.cids ++ [s.lc + 1] ∨ (s.act x).2.cids = s.cids := by
  unfold AS.act
  split
  · unfold AS.addRow
    split
    · exact .inr (.inr rfl)
    · split
      · exact .inr (.inr rfl)
      · split <;> exact .inr (.inr rfl)
  · split
    · unfold AS.addCol
      split
      · exact .inr (.inr rfl)
      · split
        · exact .inr (.inr rfl)
        · exact .inr (.inl (by simp [AS.cids]))
    · split
      · unfold AS.dropRow
        split <;> exact .inr (.inr rfl)
      · split
        · unfold AS.dropCol
          split
          · exact .inl ⟨_, erase_map _ _ _⟩
          · exact .inr (.inr rfl)
        · split
          · unfold AS.setCoef
            split
            · split <;> exact .inr (.inr rfl)
            · exact .inr (.inr rfl)
          · split
            · unfold AS.setRhs
              split <;> exact .inr (.inr rfl)
            · split
              · unfold AS.setKind
                split
                · split <;> exact .inr (.inr rfl)
                · exact .inr (.inr rfl)
              · split
                · unfold AS.setCost
                  split
                  · exact .inr (.inr (upd_map (fun c : AC => { c with cost := fracQ x.v }) (fun c => c.id) (fun _ => rfl) _ _))
                  · exact .inr (.inr rfl)
                · exact .inr (.inr rfl)
theorem but_last {l l2 : List Int} {n R : Int} (h : (∃ k, l2 = l.eraseIdx k) ∨ l2 = l ++ [n] ∨ l2 = l) (hR : ∀ i, i ∈ l → i ≤ R) : ∀ j (hj : j + 1 < l2.length), l2[j] ≤ R := fun j hj => by
  have hm : l2[j] ∈ l2 := List.getElem_mem _
  rcases h with ⟨k, rfl⟩ | rfl | rfl
  · exact hR _ (List.mem_of_mem_eraseIdx hm)
  · have h1 : j < l.length := by simp at hj; omega
    rw [List.getElem_append_left h1]
    exact hR _ (List.getElem_mem h1)
  · exact hR _ hm
set_option maxRecDepth 100000 in
set_option maxHeartbeats 32000000 in
theorem storeNumbers_any (a : Option Addr) (c : Nat) (zs : List ZA) (w : World) (hg : Hg w) (hs : Scr w (.slice a zs.length c) zs) (hB : load (acts zs) ≤ 1048576) :
    Calls Tryz.prog 3 #[.slice a zs.length c] w fun e w' => e = .returned (.bool true) ∧ Below w.heap.size w w' := by
  have hlen := hs.sl.lenI
  have HAW := Lib.hid (awake_any w hg)
  have HS := Lib.hid hs
  have HG := Lib.hid hg
  clear hs hg
  go_enter Tryz.func3, Tryz.ntmps3
  go_wp2_with fail
  refine HAW.out.mono ?_
  rintro e w0 ⟨rfl, hb0⟩
  have HB0 := Lib.hid hb0
  clear hb0 HAW
  go_wp2_with fail
  refine (as_new w0).mono ?_
  rintro e w1 ⟨sb, G1, rfl, hsa1, hg1, hb1⟩
  obtain ⟨w2, hw2⟩ : ∃ w2, w1.alloc (.cells #[.slice none 0 0, .slice none 0 0, .slice none 0 0, .slice none 0 0, .slice none 0 0, .slice none 0 0, .int .i64 0, .int .i64 0] 32) = w2 := ⟨_, rfl⟩
  obtain ⟨rb, hrb⟩ : ∃ rb, w1.heap.size = rb := ⟨_, rfl⟩
  have hc : Ctx w w2 sb G1 AS.new rb (fun k => k = rb) RM.new := by
    have hb2 := belowBox w1 (.cells #[.slice none 0 0, .slice none 0 0, .slice none 0 0, .slice none 0 0, .slice none 0 0, .slice none 0 0, .int .i64 0, .int .i64 0] 32)
    have hr := rb_new w1
    have hz := hb1.size
    have hz0 := HB0.out.size
    rw [hw2] at hb2 hr
    rw [hrb] at hr hz
    exact ⟨hsa1.below hb2, hr, fun k h1 h2 => by have := hsa1.lt k h1; omega, fun k h => by have := hg1 k h; omega, fun k h => by omega, HB0.out.trans ((hb1.trans (hb2.mono hb1.size)).mono HB0.out.size)⟩
  have HC0 := Lib.hid hc
  have HW2 := Lib.hid hw2
  have HRB := Lib.hid hrb
  clear hsa1 hg1 hb1 hc hw2 hrb
  go_upto_region 4 with fail
  (try simp only [HW2.out, HRB.out])
  clear HW2 HRB
  go_wp2_with fail
  go_loopw [5, 6, 7] (fun rv cv iv wr => ∃ (k : Nat) (G H : Nat → Prop) (R C : Int), k ≤ zs.length ∧ iv = .int .i64 k ∧ rv = .int .i64 R ∧ cv = .int .i64 C ∧ Ctx w wr sb G (AS.new.run ((acts zs).take k)) rb H (RM.new.run ((acts zs).take k)) ∧ (∀ i, i ∈ (AS.new.run ((acts zs).take k)).rids → i ≤ R) ∧ (0 ≤ R ∧ R ≤ (AS.new.run ((acts zs).take k)).lr) ∧ (∀ i, i ∈ (AS.new.run ((acts zs).take k)).cids → i ≤ C) ∧ (0 ≤ C ∧ C ≤ (AS.new.run ((acts zs).take k)).lc)) (fun _ _ iv _ => zs.length - (intOf iv).toNat)
  case atStart => exact ⟨0, G1, _, 0, 0, Nat.zero_le _, rfl, rfl, rfl, by rw [List.take_zero]; exact HC0.out, by rw [List.take_zero]; exact fun i h => (by cases h), by rw [List.take_zero]; exact ⟨Int.le_refl _, Int.le_refl _⟩, by rw [List.take_zero]; exact fun i h => (by cases h), by rw [List.take_zero]; exact ⟨Int.le_refl _, Int.le_refl _⟩⟩
  case round =>
    obtain ⟨k, G0, H0, R, C, hk, rfl, rfl, rfl, hc, hri, hrb, hci, hcb⟩ := hrel
    by_cases hlt : k < zs.length
    · obtain ⟨b, o, e1, hbl, y0, y1, y2, y3, y4, y5, y6⟩ := z_get (HS.out.below hc.bl).sl k hlt
      obtain ⟨z, hz⟩ : ∃ z, zs[k] = z := ⟨_, rfl⟩
      have hd := does_at w wr sb rb G0 H0 a c zs k hlt HS.out HG.out hB hc
      rw [hz] at y0 y1 y2 y3 y4 y5 y6 hd
      rw [actV_eq] at hd
      have hbe := behind (acts zs) (k + 1)
      have hnx := run_next zs k hlt
      have hlr := act_lr (AS.new.run ((acts zs).take k)) zs[k].1
      have hlc := act_lc (AS.new.run ((acts zs).take k)) zs[k].1
      rw [← hnx] at hlr hlc
      have hbr := but_last (act_rids (AS.new.run ((acts zs).take k)) zs[k].1) hri
      have hbc := but_last (act_cids (AS.new.run ((acts zs).take k)) zs[k].1) hci
      rw [← hnx] at hbr hbc
      obtain ⟨T, hT⟩ : ∃ T, AS.new.run ((acts zs).take (k + 1)) = T := ⟨_, rfl⟩
      obtain ⟨M, hM⟩ : ∃ M, RM.new.run ((acts zs).take (k + 1)) = M := ⟨_, rfl⟩
      have hwT := hbe.wf
      have hlT := hbe.lr
      have hcT := hbe.lc
      rw [hT] at hd hlr hlc hbr hbc hwT hlT hcT
      rw [hM] at hd
      have HD := Lib.hid hd
      have HT := Lib.hid hT
      have HMM := Lib.hid hM
      have HW := Lib.hid hwT
      have HNr := Lib.hid hbr
      have HNc := Lib.hid hbc
      have HBr := Lib.hid (show 0 ≤ R ∧ R ≤ T.lr from ⟨hrb.1, by omega⟩)
      have HBc := Lib.hid (show 0 ≤ C ∧ C ≤ T.lc from ⟨hcb.1, by omega⟩)
      have HLR := Lib.hid (show T.lr ≤ 1048576 ∧ T.lc ≤ 1048576 from ⟨by omega, by omega⟩)
      have i0 : (0 : Int) ≤ (k : Int) := by omega
      have i1 : (k : Int) < (zs.length : Int) := by omega
      subst e1
      clear hd hc hz hbe hnx hlr hlc hbr hbc hT hM hwT hlT hcT hri hrb hci hcb
      go_wp2_with fail
      refine HD.out.mono ?_
      rintro e w3 ⟨rfl, ha⟩
      obtain ⟨G, H, hc3, _⟩ := ha
      have HC := Lib.hid hc3
      clear hc3 y0 y1 y2 y3 y4 y5 y6 i0 i1
      go_wp2_with fail
      refine (as_rows HC.out.sa HW.out).mono ?_
      rintro e wr ⟨ar, cr, rfl, hm, hb⟩
      have hid := (Sl.ofMid hm).lenI
      have HM := Lib.hid (hm.mono (Nat.zero_le _))
      replace HC := Lib.hid (HC.out.below hb)
      obtain ⟨Ir, hI⟩ : ∃ l, l = T.rids := ⟨_, rfl⟩
      rw [← hI] at HM hid ⊢
      have HI := Lib.hid hI
      have hln : Ir.length ≤ 24 := by rw [hI]; have h1 := HW.out.rl; have h2 := HW.out.cl; simp [AS.rids, AS.cids]; omega
      have HUP := Lib.hid (show Ir.Pairwise (· < ·) by rw [hI]; exact HW.out.rid)
      have HPO := Lib.hid (show ∀ i, i ∈ Ir → 1 ≤ i ∧ i ≤ T.lr by rw [hI]; exact HW.out.rpos)
      have HNX := Lib.hid (show ∀ j (h : j + 1 < Ir.length), Ir[j] ≤ R by rw [hI]; exact HNr.out)
      have hR0 : 0 ≤ R ∧ R ≤ T.lr := HBr.out
      clear hm hb hI
      go_wp2_with fail
      go_loopw [5, 39] (fun rv jv wi => ∃ (j : Nat) (Q : Int), j ≤ Ir.length ∧ jv = .int .i64 j ∧ rv = .int .i64 Q ∧ R ≤ Q ∧ Q ≤ T.lr ∧ (∀ i (h : i < Ir.length), i < j → Ir[i] ≤ Q) ∧ Ctx w wi sb G T rb H M ∧ Mid wi 0 3 1 (.slice ar Ir.length cr) Ir.length (Ir.map IV)) (fun _ jv _ => Ir.length - (intOf jv).toNat)
      case atStart => exact ⟨0, R, Nat.zero_le _, rfl, rfl, Int.le_refl _, hR0.2, fun i h h2 => by omega, HC.out, HM.out⟩
      case round =>
        obtain ⟨j, Q, hj, rfl, rfl, hq1, hq2, hqs, hcx, hmm⟩ := hrel
        by_cases hlt : j < Ir.length
        · obtain ⟨b, o, e1, hbl, y0⟩ := int_get (Sl.ofMid hmm) j hlt hlt
          obtain ⟨id, hxd⟩ : ∃ x, Ir[j] = x := ⟨_, rfl⟩
          rw [hxd] at y0
          have hidp := HPO.out id (by rw [← hxd]; exact List.getElem_mem hlt)
          have HC2 := Lib.hid hcx
          have HM2 := Lib.hid hmm
          have HQS := Lib.hid hqs
          have HXD := Lib.hid hxd
          have i0 : (0 : Int) ≤ (j : Int) := by omega
          have i1 : (j : Int) < (Ir.length : Int) := by omega
          have hidM : id ≤ 9223372036854775807 := by have := HLR.out; omega
          subst e1
          clear hcx hmm hqs hxd
          go_upto_region 14 with fail
          have hlast : ¬ ((j : Int) < (Ir.length : Int) - 1 ∧ Q < id) := by
            rintro ⟨h1, h2⟩
            have := HNX.out j (by omega)
            rw [HXD.out] at this
            omega
          have hwl : IntKind.i64.wrap ((Ir.length : Int) - 1) = (Ir.length : Int) - 1 := by rw [IntKind.wrap_i64]; omega
          by_cases hj0 : j = 0
          · have hjp : ¬ (0 : Int) < (j : Int) := by omega
            have HJ0 := Lib.hid hj0
            clear hj0
            go_wp2_with fail
            refine (as_rows HC2.out.sa HW.out).mono ?_
            rintro e wk ⟨ak, ck, rfl, hm, hb⟩
            rw [← HI.out] at hm ⊢
            have HC4 := Lib.hid (HC2.out.below hb)
            have HM4 := Lib.hid (mid_under HM2.out hb)
            clear hm hb y0
            (try clear z0)
            by_cases hjl : (j : Int) < (Ir.length : Int) - 1
            · have hnq : ¬ Q < id := fun h => hlast ⟨hjl, h⟩
              clear hlast
              go_wp2_with fail
              go_roundw
              case rel =>
                refine ⟨j + 1, Q, by omega, by go_num, rfl, hq1, hq2, fun i h h2 => ?_, HC4.out, HM4.out⟩
                by_cases e : i = j
                · subst e; rw [HXD.out]; omega
                · exact HQS.out i h (by omega)
              case measure => simp [intOf]; omega
            · clear hlast
              by_cases hnq : Q < id
              · go_wp2_with fail
                go_roundw
                case rel =>
                  refine ⟨j + 1, id, by omega, by go_num, rfl, by omega, hidp.2, fun i h h2 => ?_, HC4.out, HM4.out⟩
                  by_cases e : i = j
                  · subst e; rw [HXD.out]; omega
                  · have := HQS.out i h (by omega); omega
                case measure => simp [intOf]; omega
              · go_wp2_with fail
                go_roundw
                case rel =>
                  refine ⟨j + 1, Q, by omega, by go_num, rfl, hq1, hq2, fun i h h2 => ?_, HC4.out, HM4.out⟩
                  by_cases e : i = j
                  · subst e; rw [HXD.out]; omega
                  · exact HQS.out i h (by omega)
                case measure => simp [intOf]; omega
          · have hjp : (0 : Int) < (j : Int) := by omega
            have hwj : IntKind.i64.wrap ((j : Int) - 1) = ((j - 1 : Nat) : Int) := by rw [IntKind.wrap_i64]; omega
            have hj1 : j - 1 < Ir.length := by omega
            have hprev : Ir[j - 1] < id := by
              have := List.pairwise_iff_getElem.1 HUP.out (j - 1) j hj1 hlt (by omega)
              rw [HXD.out] at this
              exact this
            obtain ⟨pv, hpv⟩ : ∃ x, Ir[j - 1] = x := ⟨_, rfl⟩
            rw [hpv] at hprev
            have hpn : ¬ id ≤ pv := by omega
            go_wp2_with fail
            refine (as_rows HC2.out.sa HW.out).mono ?_
            rintro e wj ⟨aj, cj, rfl, hm, hb⟩
            rw [← HI.out] at hm ⊢
            obtain ⟨b3, o3, e3, hbl3, z0⟩ := int_get (Sl.ofMid hm) (j - 1) hj1 hj1
            rw [hpv] at z0
            have hjl := (Sl.ofMid hm).lenI
            have k0 : (0 : Int) ≤ ((j - 1 : Nat) : Int) := by omega
            have k1 : ((j - 1 : Nat) : Int) < (Ir.length : Int) := by omega
            have HC3 := Lib.hid (HC2.out.below hb)
            have HM3 := Lib.hid (mid_under HM2.out hb)
            have HJ0 := Lib.hid hj0
            subst e3
            clear hm hb hpv hbl3 hj0
            go_wp2_with fail
            refine (as_rows HC3.out.sa HW.out).mono ?_
            rintro e wk ⟨ak, ck, rfl, hm, hb⟩
            rw [← HI.out] at hm ⊢
            have HC4 := Lib.hid (HC3.out.below hb)
            have HM4 := Lib.hid (mid_under HM3.out hb)
            clear hm hb y0
            (try clear z0)
            by_cases hjl : (j : Int) < (Ir.length : Int) - 1
            · have hnq : ¬ Q < id := fun h => hlast ⟨hjl, h⟩
              clear hlast
              go_wp2_with fail
              go_roundw
              case rel =>
                refine ⟨j + 1, Q, by omega, by go_num, rfl, hq1, hq2, fun i h h2 => ?_, HC4.out, HM4.out⟩
                by_cases e : i = j
                · subst e; rw [HXD.out]; omega
                · exact HQS.out i h (by omega)
              case measure => simp [intOf]; omega
            · clear hlast
              by_cases hnq : Q < id
              · go_wp2_with fail
                go_roundw
                case rel =>
                  refine ⟨j + 1, id, by omega, by go_num, rfl, by omega, hidp.2, fun i h h2 => ?_, HC4.out, HM4.out⟩
                  by_cases e : i = j
                  · subst e; rw [HXD.out]; omega
                  · have := HQS.out i h (by omega); omega
                case measure => simp [intOf]; omega
              · go_wp2_with fail
                go_roundw
                case rel =>
                  refine ⟨j + 1, Q, by omega, by go_num, rfl, hq1, hq2, fun i h h2 => ?_, HC4.out, HM4.out⟩
                  by_cases e : i = j
                  · subst e; rw [HXD.out]; omega
                  · exact HQS.out i h (by omega)
                case measure => simp [intOf]; omega
        · obtain rfl : j = Ir.length := by omega
          have HQAr := Lib.hid (show ∀ i, i ∈ T.rids → i ≤ Q by
            rw [← HI.out]
            intro i hi
            obtain ⟨q, hq, rfl⟩ := List.mem_iff_getElem.1 hi
            exact hqs q hq hq)
          have HQBr := Lib.hid (show 0 ≤ Q ∧ Q ≤ T.lr from ⟨by omega, hq2⟩)
          have HC := Lib.hid hcx
          clear hq1 hq2 hqs hcx hmm hlt hid hln hR0

          go_wp2_with fail
          refine (as_cols HC.out.sa HW.out).mono ?_
          rintro e wc ⟨ac, cc, rfl, hm, hb⟩
          have hid := (Sl.ofMid hm).lenI
          have HM := Lib.hid (hm.mono (Nat.zero_le _))
          replace HC := Lib.hid (HC.out.below hb)
          obtain ⟨Ic, hI⟩ : ∃ l, l = T.cids := ⟨_, rfl⟩
          rw [← hI] at HM hid ⊢
          have HI := Lib.hid hI
          have hln : Ic.length ≤ 24 := by rw [hI]; have h1 := HW.out.rl; have h2 := HW.out.cl; simp [AS.rids, AS.cids]; omega
          have HUP := Lib.hid (show Ic.Pairwise (· < ·) by rw [hI]; exact HW.out.cid)
          have HPO := Lib.hid (show ∀ i, i ∈ Ic → 1 ≤ i ∧ i ≤ T.lc by rw [hI]; exact HW.out.cpos)
          have HNX := Lib.hid (show ∀ j (h : j + 1 < Ic.length), Ic[j] ≤ C by rw [hI]; exact HNc.out)
          have hR0 : 0 ≤ C ∧ C ≤ T.lc := HBc.out
          clear hm hb hI
          go_wp2_with fail
          go_loopw [6, 76] (fun rv jv wi => ∃ (j : Nat) (Q : Int), j ≤ Ic.length ∧ jv = .int .i64 j ∧ rv = .int .i64 Q ∧ C ≤ Q ∧ Q ≤ T.lc ∧ (∀ i (h : i < Ic.length), i < j → Ic[i] ≤ Q) ∧ Ctx w wi sb G T rb H M ∧ Mid wi 0 3 1 (.slice ac Ic.length cc) Ic.length (Ic.map IV)) (fun _ jv _ => Ic.length - (intOf jv).toNat)
          case atStart => exact ⟨0, C, Nat.zero_le _, rfl, rfl, Int.le_refl _, hR0.2, fun i h h2 => by omega, HC.out, HM.out⟩
          case round =>
            obtain ⟨j, Q, hj, rfl, rfl, hq1, hq2, hqs, hcx, hmm⟩ := hrel
            by_cases hlt : j < Ic.length
            · obtain ⟨b, o, e1, hbl, y0⟩ := int_get (Sl.ofMid hmm) j hlt hlt
              obtain ⟨id, hxd⟩ : ∃ x, Ic[j] = x := ⟨_, rfl⟩
              rw [hxd] at y0
              have hidp := HPO.out id (by rw [← hxd]; exact List.getElem_mem hlt)
              have HC2 := Lib.hid hcx
              have HM2 := Lib.hid hmm
              have HQS := Lib.hid hqs
              have HXD := Lib.hid hxd
              have i0 : (0 : Int) ≤ (j : Int) := by omega
              have i1 : (j : Int) < (Ic.length : Int) := by omega
              have hidM : id ≤ 9223372036854775807 := by have := HLR.out; omega
              subst e1
              clear hcx hmm hqs hxd
              go_upto_region 21 with fail
              have hlast : ¬ ((j : Int) < (Ic.length : Int) - 1 ∧ Q < id) := by
                rintro ⟨h1, h2⟩
                have := HNX.out j (by omega)
                rw [HXD.out] at this
                omega
              have hwl : IntKind.i64.wrap ((Ic.length : Int) - 1) = (Ic.length : Int) - 1 := by rw [IntKind.wrap_i64]; omega
              by_cases hj0 : j = 0
              · have hjp : ¬ (0 : Int) < (j : Int) := by omega
                have HJ0 := Lib.hid hj0
                clear hj0
                go_wp2_with fail
                refine (as_cols HC2.out.sa HW.out).mono ?_
                rintro e wk ⟨ak, ck, rfl, hm, hb⟩
                rw [← HI.out] at hm ⊢
                have HC4 := Lib.hid (HC2.out.below hb)
                have HM4 := Lib.hid (mid_under HM2.out hb)
                clear hm hb y0
                (try clear z0)
                by_cases hjl : (j : Int) < (Ic.length : Int) - 1
                · have hnq : ¬ Q < id := fun h => hlast ⟨hjl, h⟩
                  clear hlast
                  go_wp2_with fail
                  go_roundw
                  case rel =>
                    refine ⟨j + 1, Q, by omega, by go_num, rfl, hq1, hq2, fun i h h2 => ?_, HC4.out, HM4.out⟩
                    by_cases e : i = j
                    · subst e; rw [HXD.out]; omega
                    · exact HQS.out i h (by omega)
                  case measure => simp [intOf]; omega
                · clear hlast
                  by_cases hnq : Q < id
                  · go_wp2_with fail
                    go_roundw
                    case rel =>
                      refine ⟨j + 1, id, by omega, by go_num, rfl, by omega, hidp.2, fun i h h2 => ?_, HC4.out, HM4.out⟩
                      by_cases e : i = j
                      · subst e; rw [HXD.out]; omega
                      · have := HQS.out i h (by omega); omega
                    case measure => simp [intOf]; omega
                  · go_wp2_with fail
                    go_roundw
                    case rel =>
                      refine ⟨j + 1, Q, by omega, by go_num, rfl, hq1, hq2, fun i h h2 => ?_, HC4.out, HM4.out⟩
                      by_cases e : i = j
                      · subst e; rw [HXD.out]; omega
                      · exact HQS.out i h (by omega)
                    case measure => simp [intOf]; omega
              · have hjp : (0 : Int) < (j : Int) := by omega
                have hwj : IntKind.i64.wrap ((j : Int) - 1) = ((j - 1 : Nat) : Int) := by rw [IntKind.wrap_i64]; omega
                have hj1 : j - 1 < Ic.length := by omega
                have hprev : Ic[j - 1] < id := by
                  have := List.pairwise_iff_getElem.1 HUP.out (j - 1) j hj1 hlt (by omega)
                  rw [HXD.out] at this
                  exact this
                obtain ⟨pv, hpv⟩ : ∃ x, Ic[j - 1] = x := ⟨_, rfl⟩
                rw [hpv] at hprev
                have hpn : ¬ id ≤ pv := by omega
                go_wp2_with fail
                refine (as_cols HC2.out.sa HW.out).mono ?_
                rintro e wj ⟨aj, cj, rfl, hm, hb⟩
                rw [← HI.out] at hm ⊢
                obtain ⟨b3, o3, e3, hbl3, z0⟩ := int_get (Sl.ofMid hm) (j - 1) hj1 hj1
                rw [hpv] at z0
                have hjl := (Sl.ofMid hm).lenI
                have k0 : (0 : Int) ≤ ((j - 1 : Nat) : Int) := by omega
                have k1 : ((j - 1 : Nat) : Int) < (Ic.length : Int) := by omega
                have HC3 := Lib.hid (HC2.out.below hb)
                have HM3 := Lib.hid (mid_under HM2.out hb)
                have HJ0 := Lib.hid hj0
                subst e3
                clear hm hb hpv hbl3 hj0
                go_wp2_with fail
                refine (as_cols HC3.out.sa HW.out).mono ?_
                rintro e wk ⟨ak, ck, rfl, hm, hb⟩
                rw [← HI.out] at hm ⊢
                have HC4 := Lib.hid (HC3.out.below hb)
                have HM4 := Lib.hid (mid_under HM3.out hb)
                clear hm hb y0
                (try clear z0)
                by_cases hjl : (j : Int) < (Ic.length : Int) - 1
                · have hnq : ¬ Q < id := fun h => hlast ⟨hjl, h⟩
                  clear hlast
                  go_wp2_with fail
                  go_roundw
                  case rel =>
                    refine ⟨j + 1, Q, by omega, by go_num, rfl, hq1, hq2, fun i h h2 => ?_, HC4.out, HM4.out⟩
                    by_cases e : i = j
                    · subst e; rw [HXD.out]; omega
                    · exact HQS.out i h (by omega)
                  case measure => simp [intOf]; omega
                · clear hlast
                  by_cases hnq : Q < id
                  · go_wp2_with fail
                    go_roundw
                    case rel =>
                      refine ⟨j + 1, id, by omega, by go_num, rfl, by omega, hidp.2, fun i h h2 => ?_, HC4.out, HM4.out⟩
                      by_cases e : i = j
                      · subst e; rw [HXD.out]; omega
                      · have := HQS.out i h (by omega); omega
                    case measure => simp [intOf]; omega
                  · go_wp2_with fail
                    go_roundw
                    case rel =>
                      refine ⟨j + 1, Q, by omega, by go_num, rfl, hq1, hq2, fun i h h2 => ?_, HC4.out, HM4.out⟩
                      by_cases e : i = j
                      · subst e; rw [HXD.out]; omega
                      · exact HQS.out i h (by omega)
                    case measure => simp [intOf]; omega
            · obtain rfl : j = Ic.length := by omega
              have HQAc := Lib.hid (show ∀ i, i ∈ T.cids → i ≤ Q by
                rw [← HI.out]
                intro i hi
                obtain ⟨q, hq, rfl⟩ := List.mem_iff_getElem.1 hi
                exact hqs q hq hq)
              have HQBc := Lib.hid (show 0 ≤ Q ∧ Q ≤ T.lc from ⟨by omega, hq2⟩)
              have HC := Lib.hid hcx
              clear hq1 hq2 hqs hcx hmm hlt hid hln hR0

              go_wp2_with fail
              go_roundw
              case rel => exact ⟨k + 1, G, H, _, _, by omega, by go_num, rfl, rfl, by rw [HT.out, HMM.out]; exact HC.out, by rw [HT.out]; exact HQAr.out, by rw [HT.out]; exact HQBr.out, by rw [HT.out]; exact HQAc.out, by rw [HT.out]; exact HQBc.out⟩
              case measure => simp [intOf]; omega
    · obtain rfl : k = zs.length := by omega
      rw [← acts_len zs, List.take_length] at hc hri hrb hci hcb
      have hbe := played_wf (acts zs)
      obtain ⟨T, hT⟩ : ∃ T, AS.new.run (acts zs) = T := ⟨_, rfl⟩
      rw [hT] at hc hri hrb hci hcb hbe
      have HL := Lib.hid (show LSt w wr sb T (fun _ => False) from ⟨G0, hc.sa, hc.g0, hc.bl, fun _ h => h.elim, fun _ h => h.elim⟩)
      have HW := Lib.hid hbe.1
      have HLR := Lib.hid (show T.lr ≤ 1048576 ∧ T.lc ≤ 1048576 from ⟨by have := hbe.2.1; omega, by have := hbe.2.2; omega⟩)
      have HRB := Lib.hid (show 0 ≤ R ∧ R ≤ T.lr ∧ 0 ≤ C ∧ C ≤ T.lc from ⟨hrb.1, hrb.2, hcb.1, hcb.2⟩)
      clear hc hri hrb hci hcb hbe hT hlt hk hlen
      go_wp2_with fail
      refine (vint_any 0 _ (by unfold I64; omega)).mono ?_
      rintro e wv6 ⟨v6, rfl, ho, hsm, hq, hb⟩
      unfold Rv.val
      replace HL := Lib.hid (HL.out.below hb)
      have HV := Lib.hid (show v6.ok wv6 ∧ v6.small from ⟨ho, hsm⟩)
      clear ho hsm hq hb
      obtain ⟨⟨⟨n6, f6⟩, t6⟩, ht6⟩ : ∃ r, T.addRow 1 v6.q ([] : List AC) = r := ⟨_, rfl⟩
      have HT6 := Lib.hid ht6
      clear ht6
      go_wp2_with fail
      refine HL.out.act (s1 := t6) (R := fun e W' => ∃ ev, e = .returned (.tuple #[.int .i64 n6, ev]) ∧ ErrV W' wv6.heap.size f6 ev) (fun G hs => by
        have h := as_addRow hs HW.out 1 v6 [] none 0 (sl_nil wv6) HV.out.1 HV.out.2 (fun _ h => by cases h) (by have := HLR.out.1; omega)
        rw [show ([] : List Cl).map Cl.ac = [] from rfl, HT6.out] at h
        exact h.mono fun e W' ⟨x, h1, h2, h3⟩ => ⟨⟨x, h1, h2⟩, h3⟩) ?_
      rintro e w6 ⟨ev6, rfl, hev⟩ hl hfr
      replace HL := Lib.hid hl
      have HEV6 := Lib.hid hev
      clear hl hfr hev HV
      have hr6 := addRow_nil1 T v6.q
      rw [HT6.out] at hr6
      have hwf6 : WF t6 := by have h := HW.out.addRow 1 v6.q []; rw [HT6.out] at h; exact h
      have HLC6 := Lib.hid (show t6.lc = T.lc by split at hr6 <;> (cases hr6; rfl))
      have HWF6 := Lib.hid hwf6
      have hx6 : (ev6 = .nilIface ∧ n6 = T.lr + 1) ∨ ∃ T9 u, ev6 = .iface T9 u := by
        split at hr6
        · cases hr6; exact .inr (errv_iface HEV6.out fun h => by simp [noF] at h)
        · cases hr6; exact .inl ⟨HEV6.out.nil, rfl⟩
      have HX6 := Lib.hid hx6
      clear hr6 hwf6 hx6
      go_wp2_with fail
      refine (vint_any 0 _ (by unfold I64; omega)).mono ?_
      rintro e wv7 ⟨v7, rfl, ho, hsm, hq, hb⟩
      unfold Rv.val
      replace HL := Lib.hid (HL.out.below hb)
      have HV := Lib.hid (show v7.ok wv7 ∧ v7.small from ⟨ho, hsm⟩)
      clear ho hsm hq hb
      obtain ⟨⟨⟨n7, f7⟩, t7⟩, ht7⟩ : ∃ r, t6.addCol v7.q ([] : List AC) = r := ⟨_, rfl⟩
      have HT7 := Lib.hid ht7
      clear ht7
      go_wp2_with fail
      refine HL.out.act (s1 := t7) (R := fun e W' => ∃ ev, e = .returned (.tuple #[.int .i64 n7, ev]) ∧ ErrV W' wv7.heap.size f7 ev) (fun G hs => by
        have h := as_addCol hs HWF6.out v7 [] none 0 (sl_nil wv7) HV.out.1 HV.out.2 (fun _ h => by cases h) (by have := HLR.out.2; have := HLC6.out; omega)
        rw [show ([] : List Cl).map Cl.ac = [] from rfl, HT7.out] at h
        exact h.mono fun e W' ⟨x, h1, h2, h3⟩ => ⟨⟨x, h1, h2⟩, h3⟩) ?_
      rintro e w7 ⟨ev7, rfl, hev⟩ hl hfr
      replace HL := Lib.hid hl
      have HEV7 := Lib.hid hev
      clear hl hfr hev HV
      have hr7 := addCol_nil t6 v7.q
      rw [HT7.out] at hr7
      have hx7 : (ev7 = .nilIface ∧ n7 = T.lc + 1) ∨ ∃ T9 u, ev7 = .iface T9 u := by
        split at hr7
        · cases hr7; exact .inr (errv_iface HEV7.out fun h => by simp [noF] at h)
        · cases hr7; exact .inl ⟨HEV7.out.nil, by rw [HLC6.out]⟩
      clear hr7
      have hx6 := HX6.out
      have hwr : IntKind.i64.wrap (R + 1) = R + 1 := by rw [IntKind.wrap_i64]; have := HRB.out; have := HLR.out; omega
      have hgc : C < T.lc + 1 := by have := HRB.out; omega
      have hgr : R < T.lr + 1 := by have := HRB.out; omega
      clear HX6 HEV6 HEV7 HT6 HT7
      rcases hx7 with ⟨rfl, rfl⟩ | ⟨T7, u7, rfl⟩ <;> rcases hx6 with ⟨rfl, rfl⟩ | ⟨T6, u6, rfl⟩
      · by_cases he : T.lr + 1 = R + 1
        · have hbq : (T.lr + 1 == R + 1) = true := by simp [he]
          clear he
          go_wp2_with fail
          go_ret
          exact ⟨rfl, HL.out.bl⟩
        · have hbq : (T.lr + 1 == R + 1) = false := by simpa using he
          clear he
          go_wp2_with fail
          go_ret
          exact ⟨rfl, HL.out.bl⟩
      · go_wp2_with fail
        go_ret
        exact ⟨rfl, HL.out.bl⟩
      · by_cases he : T.lr + 1 = R + 1
        · have hbq : (T.lr + 1 == R + 1) = true := by simp [he]
          clear he
          go_wp2_with fail
          go_ret
          exact ⟨rfl, HL.out.bl⟩
        · have hbq : (T.lr + 1 == R + 1) = false := by simpa using he
          clear he
          go_wp2_with fail
          go_ret
          exact ⟨rfl, HL.out.bl⟩
      · go_wp2_with fail
        go_ret
        exact ⟨rfl, HL.out.bl⟩
end Go.Proofs.YtaehklhbokocbaaGreatDoor
