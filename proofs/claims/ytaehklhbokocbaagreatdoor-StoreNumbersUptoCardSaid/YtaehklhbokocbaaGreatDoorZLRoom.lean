/-
  The walk of StoreRoom: it answers true; the conditions: what errors.errorType holds, how long the script is.
  Printed by a program of this repository (wip/law10.py).
-/
import Derived.Test.YtaehklhbokocbaaGreatDoorZM
set_option linter.unusedVariables false
set_option linter.unusedSimpArgs false
namespace Go.Proofs.YtaehklhbokocbaaGreatDoor
open Go.RowKit Go.Extern.Stop Go.Stop Go.Extern
theorem addRow_nil (s : AS) (v : Rat) : s.addRow 3 v [] = if 20 ≤ s.rows.length then ((0, (2, noWh, 0)), s) else ((s.lr + 1, noF), { s with rows := s.rows ++ [⟨s.lr + 1, 3, v, List.replicate s.cids.length 0⟩], lr := s.lr + 1 }) := by
  unfold AS.addRow
  rw [if_neg (by omega)]
  split
  · rfl
  · unfold AS.lay layQ; rfl
theorem addCol_nil (s : AS) (v : Rat) : s.addCol v [] = if 24 ≤ s.cols.length then ((0, (2, noWh, 0)), s) else ((s.lc + 1, noF), { s with rows := addQ s.rows (List.replicate s.rids.length 0), cols := s.cols ++ [⟨s.lc + 1, v⟩], lc := s.lc + 1 }) := by
  unfold AS.addCol
  split
  · rfl
  · unfold AS.lay layQ; rfl
theorem atI_first {l : List Int} {id : Int} : atI (id :: l) id = 0 := by unfold atI; simp [List.findIdx_cons]
theorem drop_first (t : AS) {id : Int} {l : List Int} (h : t.rids = id :: l) : t.dropRow id = (noF, { t with rows := t.rows.eraseIdx 0 }) ∧ ({ t with rows := t.rows.eraseIdx 0 } : AS).rids = l := by
  have ha : atI t.rids id = 0 := by rw [h]; exact atI_first
  have hl : 0 < t.rows.length := by rw [← rids_length, h]; simp
  refine ⟨by unfold AS.dropRow; rw [ha, if_pos hl], ?_⟩
  show (t.rows.eraseIdx 0).map (·.id) = l
  rw [erase_map]
  have : t.rows.map (·.id) = id :: l := h
  rw [this]; rfl
theorem dropc_first (t : AS) {id : Int} {l : List Int} (h : t.cids = id :: l) : t.dropCol id = (noF, { t with rows := t.rows.map (fun r => { r with coef := r.coef.eraseIdx 0 }), cols := t.cols.eraseIdx 0 }) ∧ ({ t with rows := t.rows.map (fun r => { r with coef := r.coef.eraseIdx 0 }), cols := t.cols.eraseIdx 0 } : AS).cids = l := by
  have ha : atI t.cids id = 0 := by rw [h]; exact atI_first
  have hl : 0 < t.cols.length := by rw [← cids_length, h]; simp
  refine ⟨by unfold AS.dropCol; rw [ha, if_pos hl], ?_⟩
  show (t.cols.eraseIdx 0).map (·.id) = l
  rw [erase_map]
  have : t.cols.map (·.id) = id :: l := h
  rw [this]; rfl
theorem bits_nil {t : AS} (h1 : t.rows = []) (h2 : t.cols = []) : t.bits = 0 := by unfold AS.bits; rw [h1, h2]; rfl
set_option maxRecDepth 100000 in
set_option maxHeartbeats 32000000 in
theorem storeRoom_any (a : Option Addr) (c : Nat) (zs : List ZA) (w : World) (hg : Hg w) (hs : Scr w (.slice a zs.length c) zs) (hB : load (acts zs) ≤ 1048576) :
    Calls Tryz.prog 4 #[.slice a zs.length c] w fun e w' => e = .returned (.bool true) ∧ Below w.heap.size w w' := by
  have hbe := played_wf (acts zs)
  obtain ⟨S, hS⟩ : ∃ S, AS.new.run (acts zs) = S := ⟨_, rfl⟩
  rw [hS] at hbe
  have HWF0 := Lib.hid hbe.1
  have HLR0 := Lib.hid (show S.lr ≤ 1048576 ∧ S.lc ≤ 1048576 from ⟨by have := hbe.2.1; omega, by have := hbe.2.2; omega⟩)
  have HAW := Lib.hid (awake_any w hg)
  have HPL := Lib.hid (fun (W : World) (hb : Below w.heap.size w W) => played_any a c zs W (hs.below hb) (hg.below hb hg.lt) hB)
  rw [hS] at HPL
  obtain ⟨K0, hK0⟩ : ∃ K0 : Nat → Prop, K0 = fun _ => False := ⟨_, rfl⟩
  have HK0 := Lib.hid (show ∀ k, ¬ K0 k by rw [hK0]; exact fun _ h => h)
  clear hs hg hB hS hbe hK0
  go_enter Tryz.func4, Tryz.ntmps4
  go_wp2_with fail
  refine HAW.out.mono ?_
  rintro e w2 ⟨rfl, hb2⟩
  have HB2 := Lib.hid hb2
  clear hb2 HAW
  go_wp2_with fail
  refine (HPL.out _ HB2.out).mono ?_
  rintro e w3 ⟨sb, G, rfl, hsa, hG, hb3⟩
  have HL0 := Lib.hid (LSt.of_fresh (K := K0) HB2.out hsa hG hb3 (fun k hk => absurd hk (HK0.out k)))
  clear hsa hG hb3 HPL
  go_wp2_with fail
  go_loopw [4] (fun iv wr => ∃ (i : Nat) (t : AS), i ≤ 30 ∧ iv = .int .i64 i ∧ LSt w wr sb t K0 ∧ WF t ∧ t.lr ≤ 1048576 + i ∧ t.lc ≤ 1048576 + i) (fun iv _ => 30 - (intOf iv).toNat)
  case atStart => exact ⟨0, S, by omega, rfl, HL0.out, HWF0.out, by have := HLR0.out.1; omega, by have := HLR0.out.2; omega⟩
  case round =>
    obtain ⟨i, t, hi, rfl, hl, hwf, h1, h2⟩ := hrel
    have HL := Lib.hid hl
    have HWF := Lib.hid hwf
    have HLR := Lib.hid (show t.lr ≤ 1048576 + 30 ∧ t.lc ≤ 1048576 + 30 by omega)
    have HLI := Lib.hid (show t.lr ≤ 1048576 + (i : Int) ∧ t.lc ≤ 1048576 + (i : Int) from ⟨h1, h2⟩)
    clear hl hwf h1 h2
    by_cases hlt : i < 30
    · go_wp2_with fail
      refine HL.out.rows HWF.out ?_
      intro a4 c4 w4 hm hl hb
      replace HL := Lib.hid hl
      have hrl := (Sl.ofMid hm).lenI
      rw [rids_length] at hrl ⊢
      obtain ⟨nr, hnr⟩ : ∃ n, t.rows.length = n := ⟨_, rfl⟩
      rw [hnr] at hrl ⊢
      clear hm hl hb
      go_wp2_with fail
      refine HL.out.cols HWF.out ?_
      intro a5 c5 w5 hm hl hb
      replace HL := Lib.hid hl
      have hcl := (Sl.ofMid hm).lenI
      rw [cids_length] at hcl ⊢
      obtain ⟨nc, hnc⟩ : ∃ n, t.cols.length = n := ⟨_, rfl⟩
      rw [hnc] at hcl ⊢
      have HNR := Lib.hid hnr
      have HNC := Lib.hid hnc
      clear hm hl hb hnr hnc
      go_wp2_with fail
      refine (vint_any 1 _ (by unfold I64; omega)).mono ?_
      rintro e wv6 ⟨v6, rfl, ho, hsm, hq, hb⟩
      unfold Rv.val
      replace HL := Lib.hid (HL.out.below hb)
      have HV := Lib.hid (show v6.ok wv6 ∧ v6.small from ⟨ho, hsm⟩)
      clear ho hsm hq hb
      obtain ⟨⟨⟨n6, f6⟩, t6⟩, ht6⟩ : ∃ r, t.addRow 3 v6.q ([] : List AC) = r := ⟨_, rfl⟩
      have HT6 := Lib.hid ht6
      clear ht6
      go_wp2_with fail
      refine HL.out.act (s1 := t6) (R := fun e W' => ∃ ev, e = .returned (.tuple #[.int .i64 n6, ev]) ∧ ErrV W' wv6.heap.size f6 ev) (fun G hs => by
        have h := as_addRow hs HWF.out 3 v6 [] none 0 (sl_nil wv6) HV.out.1 HV.out.2 (fun _ h => by cases h) (by have := HLR.out.1; omega)
        rw [show ([] : List Cl).map Cl.ac = [] from rfl, HT6.out] at h
        exact h.mono fun e W' ⟨x, h1, h2, h3⟩ => ⟨⟨x, h1, h2⟩, h3⟩) ?_
      rintro e w6 ⟨ev6, rfl, hev⟩ hl hfr
      replace HL := Lib.hid hl
      have HEV6 := Lib.hid hev
      clear hl hfr hev HV
      have hr6 := addRow_nil t v6.q
      rw [HT6.out, HNR.out] at hr6
      have hwf6 : WF t6 := by have h := HWF.out.addRow 3 v6.q []; rw [HT6.out] at h; exact h
      have hlr6 : (t6.lr ≤ t.lr + 1 ∧ t6.lc = t.lc) ∧ t6.cols.length = nc := by
        split at hr6 <;> (cases hr6; exact ⟨⟨by (try dsimp only); omega, rfl⟩, HNC.out⟩)
      have HWF6 := Lib.hid hwf6
      have HLR6 := Lib.hid hlr6
      have HR6 := Lib.hid (show (f6 = noF ∧ nr < 20) ∨ (f6 ≠ noF ∧ ¬ nr < 20) by
        split at hr6
        · rename_i h20; cases hr6; exact .inr ⟨fun h => by simp [noF] at h, by omega⟩
        · rename_i h20; cases hr6; exact .inl ⟨rfl, by omega⟩)
      clear hr6 hwf6 hlr6 HWF
      replace HLR := Lib.hid (show t6.lr ≤ 1048576 + 31 ∧ t6.lc ≤ 1048576 + 31 by have h1 := HLR.out; have h2 := HLR6.out.1; omega)
      go_wp2_with fail
      refine (vint_any 1 _ (by unfold I64; omega)).mono ?_
      rintro e wv7 ⟨v7, rfl, ho, hsm, hq, hb⟩
      unfold Rv.val
      replace HL := Lib.hid (HL.out.below hb)
      have HV := Lib.hid (show v7.ok wv7 ∧ v7.small from ⟨ho, hsm⟩)
      clear ho hsm hq hb
      obtain ⟨⟨⟨n7, f7⟩, t7⟩, ht7⟩ : ∃ r, t6.addCol v7.q ([] : List AC) = r := ⟨_, rfl⟩
      have HT7 := Lib.hid ht7
      clear ht7
      go_wp2_with fail
      refine HL.out.act (s1 := t7) (R := fun e W' => ∃ ev, e = .returned (.tuple #[.int .i64 n7, ev]) ∧ ErrV W' wv7.heap.size f7 ev) (fun G hs => by
        have h := as_addCol hs HWF6.out v7 [] none 0 (sl_nil wv7) HV.out.1 HV.out.2 (fun _ h => by cases h) (by have := HLR.out.2; omega)
        rw [show ([] : List Cl).map Cl.ac = [] from rfl, HT7.out] at h
        exact h.mono fun e W' ⟨x, h1, h2, h3⟩ => ⟨⟨x, h1, h2⟩, h3⟩) ?_
      rintro e w7 ⟨ev7, rfl, hev⟩ hl hfr
      replace HL := Lib.hid hl
      have HEV7 := Lib.hid hev
      clear hl hfr hev HV
      have hr7 := addCol_nil t6 v7.q
      rw [HT7.out, HLR6.out.2] at hr7
      have hwf7 : WF t7 := by have h := HWF6.out.addCol v7.q []; rw [HT7.out] at h; exact h
      have hlr7 : t7.lc ≤ t6.lc + 1 ∧ t7.lr = t6.lr := by
        split at hr7 <;> (cases hr7; exact ⟨by (try dsimp only); omega, rfl⟩)
      have HWF7 := Lib.hid hwf7
      have HLR7 := Lib.hid (show t7.lr ≤ 1048576 + ((i + 1 : Nat) : Int) ∧ t7.lc ≤ 1048576 + ((i + 1 : Nat) : Int) by have h1 := HLI.out; have h2 := HLR6.out.1; omega)
      have HR7 := Lib.hid (show (f7 = noF ∧ nc < 24) ∨ (f7 ≠ noF ∧ ¬ nc < 24) by
        split at hr7
        · rename_i h24; cases hr7; exact .inr ⟨fun h => by simp [noF] at h, by omega⟩
        · rename_i h24; cases hr7; exact .inl ⟨rfl, by omega⟩)
      clear hr7 hwf7 hlr7 HWF6 HLR HLI HT6 HT7 HLR6
      have hxr : ∃ x : Bool, (∀ (q : Bool), True) ∧ ((ev6 = .nilIface ∧ (nr : Int) < 20) ∨ ((∃ T u, ev6 = .iface T u) ∧ ¬ (nr : Int) < 20)) := ⟨true, fun _ => trivial, by
        rcases HR6.out with ⟨h1, h2⟩ | ⟨h1, h2⟩
        · subst h1; exact .inl ⟨HEV6.out.nil, by omega⟩
        · exact .inr ⟨errv_iface HEV6.out h1, by omega⟩⟩
      have hxc : (ev7 = .nilIface ∧ (nc : Int) < 24) ∨ ((∃ T u, ev7 = .iface T u) ∧ ¬ (nc : Int) < 24) := by
        rcases HR7.out with ⟨h1, h2⟩ | ⟨h1, h2⟩
        · subst h1; exact .inl ⟨HEV7.out.nil, by omega⟩
        · exact .inr ⟨errv_iface HEV7.out h1, by omega⟩
      obtain ⟨_, _, hxr⟩ := hxr
      clear HR6 HR7 HEV6 HEV7
      rcases hxr with ⟨rfl, hr⟩ | ⟨⟨T6, u6, rfl⟩, hr⟩ <;> rcases hxc with ⟨rfl, hc⟩ | ⟨⟨T7, u7, rfl⟩, hc⟩
      all_goals
        go_wp2_with fail
        go_roundw
        case rel => exact ⟨i + 1, t7, by omega, by go_num, HL.out, HWF7.out, HLR7.out.1, HLR7.out.2⟩
        case measure => simp [intOf]; omega
    · have hi30 : ¬ (i : Int) < 30 := by omega
      obtain ⟨s1, hs1⟩ : ∃ s1, s1 = t := ⟨_, rfl⟩
      subst hs1
      go_wp2_with fail
      refine HL.out.rows HWF.out ?_
      intro a1 c1 w1 hm hl hb
      have hid := (Sl.ofMid hm).lenI
      obtain ⟨ids1, hids⟩ : ∃ l, l = s1.rids := ⟨_, rfl⟩
      rw [← hids] at hm hid ⊢
      have hl2 := HL.out.more hb (X := fun k => (Value.slice a1 ids1.length c1).ownBlock = some k) (fun k hk => hm.lt k hk)
      obtain ⟨K1, hK⟩ : ∃ K : Nat → Prop, K = fun k => K0 k ∨ (Value.slice a1 ids1.length c1).ownBlock = some k := ⟨_, rfl⟩
      rw [← hK] at hl2
      have HKM := Lib.hid (show ∀ k, (Value.slice a1 ids1.length c1).ownBlock = some k → K1 k by rw [hK]; exact fun k h => .inr h)
      have HM := Lib.hid (hm.mono (Nat.zero_le _))
      replace HL := Lib.hid hl2
      have HIDS := Lib.hid hids
      clear hm hl hb hl2 hK hids
      go_wp2_with fail
      go_loopw [58] (fun iv wr => ∃ (k : Nat) (t : AS), k ≤ ids1.length ∧ iv = .int .i64 k ∧ LSt w wr sb t K1 ∧ WF t ∧ t.rids = ids1.drop k ∧ True ∧ Mid wr 0 3 1 (.slice a1 ids1.length c1) ids1.length (ids1.map IV)) (fun iv _ => ids1.length - (intOf iv).toNat)
      case atStart => exact ⟨0, s1, Nat.zero_le _, rfl, HL.out, HWF.out, by rw [HIDS.out, List.drop_zero], trivial, HM.out⟩
      case round =>
        obtain ⟨k, t, hk, rfl, hlt0, hwf, hdr, hcc, hmm⟩ := hrel
        have HL2 := Lib.hid hlt0
        have HW2 := Lib.hid hwf
        have HCC := Lib.hid hcc
        have HMM := Lib.hid hmm
        by_cases hlt : k < ids1.length
        · obtain ⟨b, o, e1, hbl, y0⟩ := int_get (Sl.ofMid hmm) k hlt hlt
          rw [List.drop_eq_getElem_cons hlt] at hdr
          obtain ⟨id, hxd⟩ : ∃ x, ids1[k] = x := ⟨_, rfl⟩
          rw [hxd] at y0 hdr
          have HD := Lib.hid (drop_first t hdr)
          have hwf2 := hwf.dropRow id
          rw [HD.out.1] at hwf2
          have HWF2 := Lib.hid hwf2
          have i0 : (0 : Int) ≤ (k : Int) := by omega
          have i1 : (k : Int) < (ids1.length : Int) := by omega
          have HE1 := Lib.hid e1
          subst e1
          clear hlt0 hwf hdr hcc hmm hxd hwf2
          go_wp2_with fail
          refine HL2.out.setR (s1 := { t with rows := t.rows.eraseIdx 0 }) (fl := noF) (fun G hs => by
            have h := as_dropRow hs HW2.out id
            rw [HD.out.1] at h
            exact h) ?_
          intro ev wd hev hl hfr
          obtain rfl : ev = .nilIface := hev.nil
          have HL3 := Lib.hid hl
          have HM3 := Lib.hid (hfr.mid HMM.out fun k hk => HKM.out k hk)
          clear hl hfr hev y0
          go_wp2_with fail
          go_roundw
          case rel => exact ⟨k + 1, _, by omega, by go_num, HL3.out, HWF2.out, HD.out.2, trivial, HM3.out⟩
          case measure => simp [intOf]; omega
        · obtain rfl : k = ids1.length := by omega
          rw [List.drop_length] at hdr
          have HDR := Lib.hid hdr
          clear hlt0 hwf hdr hcc hmm
          have HWF := Lib.hid HW2.out
          have hnr : t.rows = [] := by
            have h := HDR.out
            unfold AS.rids at h
            exact List.map_eq_nil_iff.1 h
          have HNR := Lib.hid hnr
          have HK2 := Lib.hid HKM.out
          replace HL := Lib.hid HL2.out
          obtain ⟨s2, hs2⟩ : ∃ s2, s2 = t := ⟨_, rfl⟩
          subst hs2
          clear hnr hlt
          go_wp2_with fail
          refine HL.out.cols HWF.out ?_
          intro a2 c2 w2 hm hl hb
          have hid := (Sl.ofMid hm).lenI
          obtain ⟨ids2, hids⟩ : ∃ l, l = s2.cids := ⟨_, rfl⟩
          rw [← hids] at hm hid ⊢
          have hl2 := HL.out.more hb (X := fun k => (Value.slice a2 ids2.length c2).ownBlock = some k) (fun k hk => hm.lt k hk)
          obtain ⟨K2, hK⟩ : ∃ K : Nat → Prop, K = fun k => K1 k ∨ (Value.slice a2 ids2.length c2).ownBlock = some k := ⟨_, rfl⟩
          rw [← hK] at hl2
          have HKM := Lib.hid (show ∀ k, (Value.slice a2 ids2.length c2).ownBlock = some k → K2 k by rw [hK]; exact fun k h => .inr h)
          have HM := Lib.hid (hm.mono (Nat.zero_le _))
          replace HL := Lib.hid hl2
          have HIDS := Lib.hid hids
          clear hm hl hb hl2 hK hids
          go_wp2_with fail
          go_loopw [70] (fun iv wr => ∃ (k : Nat) (t : AS), k ≤ ids2.length ∧ iv = .int .i64 k ∧ LSt w wr sb t K2 ∧ WF t ∧ t.cids = ids2.drop k ∧ t.rows = [] ∧ Mid wr 0 3 1 (.slice a2 ids2.length c2) ids2.length (ids2.map IV)) (fun iv _ => ids2.length - (intOf iv).toNat)
          case atStart => exact ⟨0, s2, Nat.zero_le _, rfl, HL.out, HWF.out, by rw [HIDS.out, List.drop_zero], HNR.out, HM.out⟩
          case round =>
            obtain ⟨k, t, hk, rfl, hlt0, hwf, hdr, hcc, hmm⟩ := hrel
            have HL2 := Lib.hid hlt0
            have HW2 := Lib.hid hwf
            have HCC := Lib.hid hcc
            have HMM := Lib.hid hmm
            by_cases hlt : k < ids2.length
            · obtain ⟨b, o, e1, hbl, y0⟩ := int_get (Sl.ofMid hmm) k hlt hlt
              rw [List.drop_eq_getElem_cons hlt] at hdr
              obtain ⟨id, hxd⟩ : ∃ x, ids2[k] = x := ⟨_, rfl⟩
              rw [hxd] at y0 hdr
              have HD := Lib.hid (dropc_first t hdr)
              have hwf2 := hwf.dropCol id
              rw [HD.out.1] at hwf2
              have HWF2 := Lib.hid hwf2
              have i0 : (0 : Int) ≤ (k : Int) := by omega
              have i1 : (k : Int) < (ids2.length : Int) := by omega
              have HE1 := Lib.hid e1
              subst e1
              clear hlt0 hwf hdr hcc hmm hxd hwf2
              go_wp2_with fail
              refine HL2.out.setR (s1 := { t with rows := t.rows.map (fun r => { r with coef := r.coef.eraseIdx 0 }), cols := t.cols.eraseIdx 0 }) (fl := noF) (fun G hs => by
                have h := as_dropCol hs HW2.out id
                rw [HD.out.1] at h
                exact h) ?_
              intro ev wd hev hl hfr
              obtain rfl : ev = .nilIface := hev.nil
              have HL3 := Lib.hid hl
              have HM3 := Lib.hid (hfr.mid HMM.out fun k hk => HKM.out k hk)
              clear hl hfr hev y0
              go_wp2_with fail
              go_roundw
              case rel => exact ⟨k + 1, _, by omega, by go_num, HL3.out, HWF2.out, HD.out.2, by simp [HCC.out], HM3.out⟩
              case measure => simp [intOf]; omega
            · obtain rfl : k = ids2.length := by omega
              rw [List.drop_length] at hdr
              have HDR := Lib.hid hdr
              clear hlt0 hwf hdr hcc hmm
              have hnc : t.cols = [] := by
                have h := HDR.out
                unfold AS.cids at h
                exact List.map_eq_nil_iff.1 h
              have hb0 := bits_nil HCC.out hnc
              have hr0 : t.rids.length = 0 := by rw [rids_length, HCC.out]; rfl
              have hc0 : t.cids.length = 0 := by rw [cids_length, hnc]; rfl
              clear hnc hlt
              have HBI := Lib.hid hb0
              have HR0 := Lib.hid hr0
              have HC0 := Lib.hid hc0
              clear hb0 hr0 hc0
              go_wp2_with fail
              refine HL2.out.read (R := fun e _ => e = .returned (.int .i64 0)) (fun G hs => (as_bits hs HW2.out).mono fun e W' ⟨h, hb⟩ => ⟨by rw [h, HBI.out]; rfl, hb⟩) ?_
              rintro e w8 rfl hl hb
              have HL8 := Lib.hid hl
              clear hl hb
              go_wp2_with fail
              refine HL8.out.rows HW2.out ?_
              intro a9 c9 w9 hm hl hb
              rw [HR0.out]
              have HL9 := Lib.hid hl
              clear hm hl hb
              go_wp2_with fail
              refine HL9.out.cols HW2.out ?_
              intro a10 c10 w10 hm hl hb
              rw [HC0.out]
              have HL10 := Lib.hid hl
              clear hm hl hb
              go_wp2_with fail
              go_ret
              exact ⟨rfl, HL10.out.bl⟩
end Go.Proofs.YtaehklhbokocbaaGreatDoor
