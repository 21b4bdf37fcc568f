/-
  The walk of FrameJoins.
  Printed by a program of this repository (wip/frame13.py).
-/
import Derived.Test.YtamkappanknklaaDoorStand
import Derived.Test.YtamkappanknklaaDoorRef
import Derived.Test.YtamkappanknklaaDoorCopy
import Derived.Test.YtamkappanknklaaDoorGath
import Derived.Deep.RegionWith
import Derived.IntWalk
import Derived.Deep.QuietTactic
import Derived.BigQuiet
namespace Go.Proofs.YtamkappanknklaaDoor
open Go.RowKit Go.Extern.Stop Go.Stop Go.Extern

/-- The loop over its own piece. -/
def OwnRel (w5 wb : World) (oa : Option Addr) (oc : Nat) (xs : List Int) (kv : Value) (wq : World) : Prop :=
  ∃ (q : Nat) (ys : List Value), q ≤ xs.length ∧ kv = .int .i64 q ∧ Keeps w5 wq (fun z => (Value.slice oa xs.length oc).ownBlock = some z) ∧ Mid wq wb.heap.size 5 1 (.slice oa xs.length oc) xs.length ys ∧ ∀ j, q ≤ j → ys[j]? = (xs.map B8)[j]?
/-- The loop over the pieces. -/
def JoinsRel (w : World) (xss : List (List Int)) (jv av tv ev iv : Value) (wr : World) : Prop :=
  ∃ (k jb : Nat) (al : List Int), k ≤ xss.length ∧ iv = .int .i64 k ∧ jv = .pointer (some ⟨jb, 0, none⟩) ∧ tv = .int .i64 (split (xss.take k).flatten).1.length ∧ ev = .bool (split (xss.take k).flatten).2.2 ∧
    Stand w jb (xss.take k).flatten al av wr ∧ al.length ≤ 8388608 ∧ ((split (xss.take k).flatten).2.2 = false → al = (xss.take k).flatten)

set_option maxRecDepth 100000 in
set_option maxHeartbeats 4000000 in
theorem joins_slices (a1 : Option Addr) (c1 : Nat) (xss : List (List Int)) (cut : Int) (w : World) (hg : Hg w) (h1 : RowsR w (.slice a1 xss.length c1) xss) (hx : ∀ xs, xs ∈ xss → Byt xs) (hl1 : xss.flatten.length + xss.length ≤ 1048576) (k0 : 0 ≤ cut) (k1 : cut ≤ 255) :
    Calls Tryd.prog 6 #[.slice a1 xss.length c1, .int .u8 cut] w (Yes w) := by
  obtain ⟨ti, hi, hz0, hz1, hz2⟩ := info_parts Tryd.infoB
  have H1 := Lib.hid h1
  have HX := Lib.hid hx
  have HG := Lib.hid hg
  clear h1 hx
  go_enter Tryd.func6, Tryd.ntmps6
  go_wp2_with fail
  refine (awake_any _ hg).mono ?_
  rintro e w1 ⟨rfl, hb1⟩
  have HS0 := Lib.hid (Stand.new hb1)
  clear hb1 hg
  go_wp2_with fail
  go_loopw [5, 6, 7, 8, 9] (fun jv av tv ev iv wr => JoinsRel w xss jv av tv ev iv wr) (fun _ _ _ _ iv _ => xss.length - (intOf iv).toNat)
  case atStart => exact ⟨0, w1.heap.size, [], Nat.zero_le _, rfl, rfl, by simp [split_nil], by simp [split_nil], HS0.out, by simp, fun _ => rfl⟩
  case round =>
    obtain ⟨wo, rfl⟩ : ∃ wo : World, wo = wr := ⟨_, rfl⟩
    obtain ⟨k, jb, al, hk, rfl, rfl, rfl, rfl, hst, hal, hlive⟩ := hrel
    by_cases hlt : k < xss.length
    · obtain ⟨g1, o1, xa, xc, xs, rfl, hxk, hpc⟩ := rows_piece H1.out k hlt
      have hnx : (xss.take (k + 1)).flatten = (xss.take k).flatten ++ xs := by rw [List.take_add_one, hxk]; simp
      have hle := take_flat xss (k + 1)
      rw [hnx, List.length_append] at hle
      have HBX := Lib.hid (HX.out xs (List.mem_of_getElem? hxk))
      have HPC := Lib.hid hpc
      clear hxk hpc
      have htf := take_flat xss k
      have hrl := rest_le (xss.take k).flatten
      obtain ⟨F, aa, ac, rfl, hj, hF, hma, hn, hbw⟩ := hst
      have HJ := Lib.hid hj
      have HF := Lib.hid hF
      have HMA := Lib.hid hma
      have HNA := Lib.hid hn
      have HBW := Lib.hid hbw
      have HLIVE := Lib.hid hlive
      have HST := Lib.hid (show Stand w jb (xss.take k).flatten al (.slice aa al.length ac) wo from ⟨F, aa, ac, rfl, hj, hF, hma, hn, hbw⟩)
      clear hj hF hma hn hbw hlive
      have hcopy := copy_any jb F _ _ wo HJ.out (by omega)
      have HCOPY := Lib.hid hcopy
      clear hcopy
      have i0 : (0 : Int) ≤ (k : Int) := by omega
      have i1 : (k : Int) < (xss.length : Int) := by omega
      generalize hA : (xss.take k).flatten = A at *
      have HNX := Lib.hid hnx
      clear hA hnx
      by_cases hcut : (k : Int) = cut
      · have hc : ((k : Int) == cut) = true := beq_iff_eq.2 hcut
        clear hcut
        go_wp2_with fail
        refine HCOPY.out.mono ?_
        rintro e w2 ⟨cb, F2, rfl, hjc, hF2, hbc⟩
        have HJC := Lib.hid hjc
        have HF2 := Lib.hid hF2
        have HBC := Lib.hid hbc
        have hjo : J w2 jb F (split A).2.1 (split A).2.2 := HJ.out.keeps (Keeps.of_below hbc (S := fun q => wo.heap.size ≤ q ∧ q < wo.heap.size) (fun b h1 h2 => ⟨h1, h2⟩)) (fun q _ h => by omega)
        have HOLD := Lib.hid (feed_keeps (bs := [0, 0, 0, 1, 9, 0, 0, 0, 0]) (hjo.keeps (Keeps.alloc _ (.cells ([0, 0, 0, 1, 9, 0, 0, 0, 0].map B8).toArray 5) (fun _ => False)) (fun _ _ h => h)) (Bytes.lit w2 [0, 0, 0, 1, 9, 0, 0, 0, 0] (maxLen_ge (by decide))) (by simp [Byt]) (by simp only [List.length_cons, List.length_nil]; omega))
        clear hjc hF2 hbc hjo
        go_wp2_with fail
        refine HOLD.out.mono ?_
        rintro e w3 ⟨⟨v, rfl⟩, hk3⟩
        have HST3 := Lib.hid (Stand.swap HF.out HMA.out HNA.out HBW.out HJC.out HF2.out HBC.out hk3)
        clear hk3 HST HMA HJ HJC HCOPY HF HF2 HNA HBW HBC HOLD
        obtain ⟨e1, b1⟩ := HPC.out w3 HST3.out.below
        have HSP := Lib.hid (Sl.src (P := Tryd.prog) Tryd.underlying23 b1 (one_B8 xs))
        clear b1
        go_wp2_with (at_builtin; refine wpList_append_mid (v := .slice none 0 0) rfl _ _ 23 23 rfl ti (.int .u8 0) 1 Tryd.underlying23 hi hz0 hz1 hz2 rfl rfl (Mid.nil w3 (w3).heap.size 5 1) _ rfl xs.length _ HSP.out (by unfold maxLen; omega) (by omega) (Nat.le_refl _) ?_; intro oa oc w4 hmo hgo hbo; simp only [Nat.zero_add] at hmo ⊢; have HMO := Lib.hid hmo; have HGO := Lib.hid hgo; clear hmo hgo hbo)
        have H4 := Lib.hid (Below.grown (Below.refl w3.heap.size w3) HGO.out (Nat.le_refl _) (fun q hq => (by cases hq)))
        refine (Stand.feed HST3.out H4.out (by simpa using HMO.out) HBX.out (by omega)).mono ?_
        rintro e w5 ⟨yss, ga, gc, ev, rfl, hsp, hm5, hb5, hz5, hst5, hro5⟩
        have hlo5 := hm5.lt
        have hlo4 := HMO.out.lt
        have HLO4 := Lib.hid hlo4
        have HLO5 := Lib.hid hlo5
        have HSPL := Lib.hid hsp
        have HM5 := Lib.hid hm5
        have HB5 := Lib.hid hb5
        have HST5 := Lib.hid hst5
        have HRO5 := Lib.hid hro5
        have hwb := HST3.out.below.size
        have HALO := Lib.hid (Stand.allLt HST3.out)
        clear hsp hm5 hb5 hst5 hro5 hlo5 hlo4
        go_wp2_with fail
        go_loopw [14] (fun kv wq => OwnRel w5 w3 oa oc xs kv wq) (fun kv _ => xs.length - (intOf kv).toNat)
        case atStart => exact ⟨0, xs.map B8, Nat.zero_le _, rfl, Keeps.refl _ _, HM5.out, fun _ _ => rfl⟩
        case round =>
          obtain ⟨wq, rfl⟩ : ∃ wq : World, wq = wr := ⟨_, rfl⟩
          obtain ⟨q, ys, hq, rfl, hkq, hmq, hys⟩ := hrel
          have hbq : Below w.heap.size w wq := HB5.out.trans ((hkq.below (by have := HB5.out.size; omega) fun b hb => by have := (HLO5.out b hb).1; omega))
          obtain ⟨c1, b2⟩ := HPC.out wq hbq
          have HBQ := Lib.hid hbq
          have HKQ := Lib.hid hkq
          have HMQ := Lib.hid hmq
          have HYS := Lib.hid hys
          have HB2 := Lib.hid b2
          clear hbq hkq hmq hys b2
          by_cases hql : q < xs.length
          · obtain ⟨g2, o2, xc', e', _, _, hlt2, hcl⟩ := HB2.out.plain (by omega)
            obtain ⟨rfl, rfl⟩ : xa = some ⟨g2, o2, none⟩ ∧ xc = xc' := by cases e'; exact ⟨rfl, rfl⟩
            clear e'
            have hxq : xs[q]? = some (xs[q]'hql) := List.getElem?_eq_getElem _
            have c2 := hcl q _ hxq
            have hyq : ys[q]? = some (B8 (xs[q]'hql)) := by rw [HYS.out q (Nat.le_refl _), List.getElem?_map, hxq]; rfl
            rcases HMQ.out.form with ⟨_, h0, _⟩ | ⟨g, og, cap, hav, _, hgl, hnc, hcm⟩
            · omega
            obtain ⟨rfl, rfl⟩ : oa = some ⟨g, og, none⟩ ∧ oc = cap := by cases hav; exact ⟨rfl, rfl⟩
            clear hav
            have c3 := HMQ.out.cell q _ hyq
            have f3 := HMQ.out.frozen (og + q)
            simp only [B8] at c3
            generalize xs[q]'hql = X at *
            clear hcl hxq hyq
            have q0 : (0 : Int) ≤ (q : Int) := by omega
            have q1 : (q : Int) < (xs.length : Int) := by omega
            go_wp2_with fail
            go_quiet (fail)
            go_wp2_with fail
            go_roundw
            case rel => exact ⟨q + 1, _, by omega, by go_num, (HKQ.out.trans (Keeps.drewN _ _ (fun _ => False)) (fun _ _ h => h.elim)).trans (Keeps.setCell _ _ _ (S := fun z => (Value.slice (some ⟨g, og, none⟩) xs.length oc).ownBlock = some z) rfl) (fun _ _ h => h), (Mid.same HMQ.out (fun _ _ => rfl)).stored q _, fun j hj => by rw [List.getElem?_set_ne (by omega)]; exact HYS.out j (by omega)⟩
            case measure => simp [intOf]; omega
          · obtain rfl : q = xs.length := by omega
            have hS := HST5.out wq HKQ.out
            obtain ⟨hR, hE⟩ := HRO5.out wq (HKQ.out.mono fun b _ hb => (HLO4.out b hb).2)
            have HS := Lib.hid hS
            have HR := Lib.hid hR
            have HE := Lib.hid hE
            have hgq := HG.out.below HBQ.out HG.out.lt
            have HGQ := Lib.hid hgq
            clear hS hR hE hgq
            cases hd : (split A).2.2 with
            | true =>
              have hsa := split_more_dead (bs := xs) hd
              rcases HE.out with ⟨h1, _⟩ | ⟨h1, _⟩ | ⟨_, _, h3, h4⟩
              · rw [hsa, hd] at h1; cases h1
              · rw [hd] at h1; cases h1
              obtain rfl : yss = [] := List.eq_nil_of_length_eq_zero h3
              subst h4
              have HTOLD := Lib.hid (told_E 300 300 0 ⟨#[]⟩ wq HGQ.out rfl (by rw [ByteArray.toList_eq]))
              have HSA := Lib.hid hsa
              clear hsa HE HR h3
              unfold eE
              go_wp2_with fail
              refine HTOLD.out.mono ?_
              rintro e w6 ⟨rfl, hb6⟩
              have HS6 := Lib.hid (HS.out.grow hb6)
              have HD := Lib.hid hd
              clear hb6 hd
              go_wp2
              go_roundw
              case rel => exact ⟨k + 1, _, al, by omega, by go_num, rfl, by rw [HNX.out, HSA.out], by rw [HNX.out, HSA.out, HD.out], by rw [HNX.out]; exact HS6.out, hal, fun h => by rw [HNX.out, HSA.out, HD.out] at h; cases h⟩
              case measure => simp [intOf]; omega
            | false =>
              have hale := HLIVE.out hd
              subst hale
              obtain ⟨aa2, ac2, e2, hmA, _, hpush⟩ := HS.out.push
              obtain ⟨rfl, rfl⟩ : aa = aa2 ∧ ac = ac2 := by cases e2; exact ⟨rfl, rfl⟩
              have HMA2 := Lib.hid hmA
              have HPUSH := Lib.hid hpush
              have HSP2 := Lib.hid (Sl.src (P := Tryd.prog) Tryd.underlying23 HB2.out (one_B8 xs))
              have hzq := HBQ.out.size
              obtain ⟨zs, hzs⟩ : ∃ zs : List Int, zs = al ++ xs := ⟨_, rfl⟩
              have hzl : zs.length = al.length + xs.length := by rw [hzs, List.length_append]
              have hzb : zs.length ≤ 1048576 := by omega
              have HZS := Lib.hid hzs
              have HZL := Lib.hid hzl
              clear e2 hmA hpush hzs hzl
              go_wp2_with (at_builtin; refine wpList_append_mid (v := .slice aa al.length ac) rfl _ _ 23 23 rfl ti (.int .u8 0) 1 Tryd.underlying23 hi hz0 hz1 hz2 rfl rfl HMA2.out _ rfl xs.length _ HSP2.out (by unfold maxLen; omega) (by omega) hzq ?_; intro a6 c6 w6 k1 k2 k3; have HP := Lib.hid (HPUSH.out xs a6 c6 w6 k1 k2 k3); (have hzl := HZL.out); simp only [← hzl]; clear k1 k2 k3 hzl)
              obtain ⟨hS6, hK6, hBy6⟩ := HP.out
              rw [← HZS.out] at hS6 hBy6
              rw [← HZL.out] at hS6
              have HS6 := Lib.hid hS6
              have HK6 := Lib.hid hK6
              have hzq6 := hK6.size
              have hbyt : Byt zs := by rw [HZS.out, ← HNX.out]; exact fun y hy => by obtain ⟨z, hz, hy⟩ := List.mem_flatten.1 hy; exact HX.out z (List.mem_of_mem_take hz) y hy
              have HREF := Lib.hid (ref_split a6 c6 zs w6 hBy6 hbyt (by omega))
              have HD := Lib.hid hd
              clear hS6 hK6 hBy6 hbyt HP hd
              refine HREF.out.mono ?_
              intro e w7 hr
              unfold RefR at hr
              obtain ⟨ra, rc, rfl, hrw, hb7⟩ := hr
              have hS7 := HS6.out.grow hb7
              have hlo4 := HLO4.out
              have hwb4 := H4.out.size
              obtain ⟨hR7, hE7⟩ := HRO5.out w6 ((HKQ.out.mono fun b _ hb => (HLO4.out b hb).2).trans (HK6.out) fun b _ hb => by have := HALO.out b hb.2; omega)
              have HS7 := Lib.hid hS7
              have HR7 := Lib.hid (hR7.below hb7)
              have hE8 := hE7.below hb7
              have hsz : (split zs).1 = (split al).1 ++ yss := by rw [HZS.out]; exact HSPL.out
              rw [hsz, List.length_append] at hrw
              have hcn := framed_ge zs.length zs (Nat.le_refl _)
              rw [hsz, List.length_append] at hcn
              rw [hsz, List.length_append]
              obtain ⟨sa, sc, hsl, hlow⟩ := rows_low hrw
              have HLOW := Lib.hid hlow
              have HSZ := Lib.hid hsz
              have hrd := hS7.reads
              clear hS7 hR7 hE7 hlow hsz hrw
              rcases hE8 with ⟨hd2, hev⟩ | ⟨_, hd2, fb, hev, hF⟩ | ⟨hd3, _⟩
              · skip
                rw [← HZS.out] at hd2
                subst hev
                rw [hd2]
                simp only [hd2] at hrd
                have HRD := Lib.hid hrd
                have HD2 := Lib.hid hd2
                skip
                clear hd2 hrd 
                go_wp2_with fail
                refine (same_true ga sa gc sc yss _ HR7.out HLOW.out (by omega)).mono ?_
                rintro e w8 ⟨rfl, m, rfl⟩
                clear hsl
                go_wp2_with fail
                refine (HRD.out m).1.mono ?_
                rintro e w9 ⟨rfl, rfl⟩
                go_wp2_with fail
                refine (HRD.out m).2.mono ?_
                rintro e w10 ⟨rfl, rfl⟩
                go_wp2_with fail
                have HS11 := Lib.hid (HS7.out.drewq m)
                go_wp2
                go_roundw
                case rel => exact ⟨k + 1, _, zs, by omega, by go_num, rfl, by rw [HNX.out, ← HZS.out, HSZ.out, List.length_append, Int.natCast_add], by rw [HNX.out, ← HZS.out, HD2.out], by rw [HNX.out, ← HZS.out]; exact HS11.out, by omega, fun _ => by rw [HNX.out, ← HZS.out]⟩
                case measure => simp [intOf]; omega
              · skip
                rw [← HZS.out] at hd2
                subst hev
                rw [hd2]
                simp only [hd2] at hrd
                have HRD := Lib.hid hrd
                have HD2 := Lib.hid hd2
                have HF7 := Lib.hid hF
                clear hd2 hrd hF
                go_wp2_with fail
                refine (same_true ga sa gc sc yss _ HR7.out HLOW.out (by omega)).mono ?_
                rintro e w8 ⟨rfl, m, rfl⟩
                clear hsl
                go_wp2_with fail
                refine (HRD.out m).1.mono ?_
                rintro e w9 ⟨rfl, rfl⟩
                go_wp2_with fail
                refine (HRD.out m).2.mono ?_
                rintro e w10 ⟨rfl, rfl⟩
                go_wp2_with fail
                unfold eF
                go_wp2_with fail
                refine (told_F fb 260 _ yss.length _ ⟨#[102, 114, 97, 109, 101]⟩ _ _ (HG.out.below (HS7.out.drewq m).below HG.out.lt) (HF7.out.below (w' := w7.drewN m) (B := w7.heap.size) ⟨rfl, rfl, rfl, Nat.le_refl _, fun _ _ => rfl⟩ HF7.out.lt) rfl rfl (by omega) (by rw [ByteArray.toList_eq]; decide)).mono ?_
                rintro e w11 ⟨rfl, hb11⟩
                have HS11 := Lib.hid ((HS7.out.drewq m).grow hb11)
                clear hb11
                go_wp2
                go_roundw
                case rel => exact ⟨k + 1, _, zs, by omega, by go_num, rfl, by rw [HNX.out, ← HZS.out, HSZ.out, List.length_append, Int.natCast_add], by rw [HNX.out, ← HZS.out, HD2.out], by rw [HNX.out, ← HZS.out]; exact HS11.out, by omega, fun _ => by rw [HNX.out, ← HZS.out]⟩
                case measure => simp [intOf]; omega
              · rw [HD.out] at hd3; cases hd3

      · have hc : ((k : Int) == cut) = false := beq_eq_false_iff_ne.2 hcut
        clear hcut
        have HST3 := HST
        clear HST HMA HJ HCOPY HF HNA HBW
        obtain ⟨e1, b1⟩ := HPC.out wo HST3.out.below
        have HSP := Lib.hid (Sl.src (P := Tryd.prog) Tryd.underlying23 b1 (one_B8 xs))
        clear b1
        go_wp2_with (at_builtin; refine wpList_append_mid (v := .slice none 0 0) rfl _ _ 23 23 rfl ti (.int .u8 0) 1 Tryd.underlying23 hi hz0 hz1 hz2 rfl rfl (Mid.nil wo (wo).heap.size 5 1) _ rfl xs.length _ HSP.out (by unfold maxLen; omega) (by omega) (Nat.le_refl _) ?_; intro oa oc w4 hmo hgo hbo; simp only [Nat.zero_add] at hmo ⊢; have HMO := Lib.hid hmo; have HGO := Lib.hid hgo; clear hmo hgo hbo)
        have H4 := Lib.hid (Below.grown (Below.refl wo.heap.size wo) HGO.out (Nat.le_refl _) (fun q hq => (by cases hq)))
        refine (Stand.feed HST3.out H4.out (by simpa using HMO.out) HBX.out (by omega)).mono ?_
        rintro e w5 ⟨yss, ga, gc, ev, rfl, hsp, hm5, hb5, hz5, hst5, hro5⟩
        have hlo5 := hm5.lt
        have hlo4 := HMO.out.lt
        have HLO4 := Lib.hid hlo4
        have HLO5 := Lib.hid hlo5
        have HSPL := Lib.hid hsp
        have HM5 := Lib.hid hm5
        have HB5 := Lib.hid hb5
        have HST5 := Lib.hid hst5
        have HRO5 := Lib.hid hro5
        have hwb := HST3.out.below.size
        have HALO := Lib.hid (Stand.allLt HST3.out)
        clear hsp hm5 hb5 hst5 hro5 hlo5 hlo4
        go_wp2_with fail
        go_loopw [14] (fun kv wq => OwnRel w5 wo oa oc xs kv wq) (fun kv _ => xs.length - (intOf kv).toNat)
        case atStart => exact ⟨0, xs.map B8, Nat.zero_le _, rfl, Keeps.refl _ _, HM5.out, fun _ _ => rfl⟩
        case round =>
          obtain ⟨wq, rfl⟩ : ∃ wq : World, wq = wr := ⟨_, rfl⟩
          obtain ⟨q, ys, hq, rfl, hkq, hmq, hys⟩ := hrel
          have hbq : Below w.heap.size w wq := HB5.out.trans ((hkq.below (by have := HB5.out.size; omega) fun b hb => by have := (HLO5.out b hb).1; omega))
          obtain ⟨c1, b2⟩ := HPC.out wq hbq
          have HBQ := Lib.hid hbq
          have HKQ := Lib.hid hkq
          have HMQ := Lib.hid hmq
          have HYS := Lib.hid hys
          have HB2 := Lib.hid b2
          clear hbq hkq hmq hys b2
          by_cases hql : q < xs.length
          · obtain ⟨g2, o2, xc', e', _, _, hlt2, hcl⟩ := HB2.out.plain (by omega)
            obtain ⟨rfl, rfl⟩ : xa = some ⟨g2, o2, none⟩ ∧ xc = xc' := by cases e'; exact ⟨rfl, rfl⟩
            clear e'
            have hxq : xs[q]? = some (xs[q]'hql) := List.getElem?_eq_getElem _
            have c2 := hcl q _ hxq
            have hyq : ys[q]? = some (B8 (xs[q]'hql)) := by rw [HYS.out q (Nat.le_refl _), List.getElem?_map, hxq]; rfl
            rcases HMQ.out.form with ⟨_, h0, _⟩ | ⟨g, og, cap, hav, _, hgl, hnc, hcm⟩
            · omega
            obtain ⟨rfl, rfl⟩ : oa = some ⟨g, og, none⟩ ∧ oc = cap := by cases hav; exact ⟨rfl, rfl⟩
            clear hav
            have c3 := HMQ.out.cell q _ hyq
            have f3 := HMQ.out.frozen (og + q)
            simp only [B8] at c3
            generalize xs[q]'hql = X at *
            clear hcl hxq hyq
            have q0 : (0 : Int) ≤ (q : Int) := by omega
            have q1 : (q : Int) < (xs.length : Int) := by omega
            go_wp2_with fail
            go_quiet (fail)
            go_wp2_with fail
            go_roundw
            case rel => exact ⟨q + 1, _, by omega, by go_num, (HKQ.out.trans (Keeps.drewN _ _ (fun _ => False)) (fun _ _ h => h.elim)).trans (Keeps.setCell _ _ _ (S := fun z => (Value.slice (some ⟨g, og, none⟩) xs.length oc).ownBlock = some z) rfl) (fun _ _ h => h), (Mid.same HMQ.out (fun _ _ => rfl)).stored q _, fun j hj => by rw [List.getElem?_set_ne (by omega)]; exact HYS.out j (by omega)⟩
            case measure => simp [intOf]; omega
          · obtain rfl : q = xs.length := by omega
            have hS := HST5.out wq HKQ.out
            obtain ⟨hR, hE⟩ := HRO5.out wq (HKQ.out.mono fun b _ hb => (HLO4.out b hb).2)
            have HS := Lib.hid hS
            have HR := Lib.hid hR
            have HE := Lib.hid hE
            have hgq := HG.out.below HBQ.out HG.out.lt
            have HGQ := Lib.hid hgq
            clear hS hR hE hgq
            cases hd : (split A).2.2 with
            | true =>
              have hsa := split_more_dead (bs := xs) hd
              rcases HE.out with ⟨h1, _⟩ | ⟨h1, _⟩ | ⟨_, _, h3, h4⟩
              · rw [hsa, hd] at h1; cases h1
              · rw [hd] at h1; cases h1
              obtain rfl : yss = [] := List.eq_nil_of_length_eq_zero h3
              subst h4
              have HTOLD := Lib.hid (told_E 300 300 0 ⟨#[]⟩ wq HGQ.out rfl (by rw [ByteArray.toList_eq]))
              have HSA := Lib.hid hsa
              clear hsa HE HR h3
              unfold eE
              go_wp2_with fail
              refine HTOLD.out.mono ?_
              rintro e w6 ⟨rfl, hb6⟩
              have HS6 := Lib.hid (HS.out.grow hb6)
              have HD := Lib.hid hd
              clear hb6 hd
              go_wp2
              go_roundw
              case rel => exact ⟨k + 1, _, al, by omega, by go_num, rfl, by rw [HNX.out, HSA.out], by rw [HNX.out, HSA.out, HD.out], by rw [HNX.out]; exact HS6.out, hal, fun h => by rw [HNX.out, HSA.out, HD.out] at h; cases h⟩
              case measure => simp [intOf]; omega
            | false =>
              have hale := HLIVE.out hd
              subst hale
              obtain ⟨aa2, ac2, e2, hmA, _, hpush⟩ := HS.out.push
              obtain ⟨rfl, rfl⟩ : aa = aa2 ∧ ac = ac2 := by cases e2; exact ⟨rfl, rfl⟩
              have HMA2 := Lib.hid hmA
              have HPUSH := Lib.hid hpush
              have HSP2 := Lib.hid (Sl.src (P := Tryd.prog) Tryd.underlying23 HB2.out (one_B8 xs))
              have hzq := HBQ.out.size
              obtain ⟨zs, hzs⟩ : ∃ zs : List Int, zs = al ++ xs := ⟨_, rfl⟩
              have hzl : zs.length = al.length + xs.length := by rw [hzs, List.length_append]
              have hzb : zs.length ≤ 1048576 := by omega
              have HZS := Lib.hid hzs
              have HZL := Lib.hid hzl
              clear e2 hmA hpush hzs hzl
              go_wp2_with (at_builtin; refine wpList_append_mid (v := .slice aa al.length ac) rfl _ _ 23 23 rfl ti (.int .u8 0) 1 Tryd.underlying23 hi hz0 hz1 hz2 rfl rfl HMA2.out _ rfl xs.length _ HSP2.out (by unfold maxLen; omega) (by omega) hzq ?_; intro a6 c6 w6 k1 k2 k3; have HP := Lib.hid (HPUSH.out xs a6 c6 w6 k1 k2 k3); (have hzl := HZL.out); simp only [← hzl]; clear k1 k2 k3 hzl)
              obtain ⟨hS6, hK6, hBy6⟩ := HP.out
              rw [← HZS.out] at hS6 hBy6
              rw [← HZL.out] at hS6
              have HS6 := Lib.hid hS6
              have HK6 := Lib.hid hK6
              have hzq6 := hK6.size
              have hbyt : Byt zs := by rw [HZS.out, ← HNX.out]; exact fun y hy => by obtain ⟨z, hz, hy⟩ := List.mem_flatten.1 hy; exact HX.out z (List.mem_of_mem_take hz) y hy
              have HREF := Lib.hid (ref_split a6 c6 zs w6 hBy6 hbyt (by omega))
              have HD := Lib.hid hd
              clear hS6 hK6 hBy6 hbyt HP hd
              refine HREF.out.mono ?_
              intro e w7 hr
              unfold RefR at hr
              obtain ⟨ra, rc, rfl, hrw, hb7⟩ := hr
              have hS7 := HS6.out.grow hb7
              have hlo4 := HLO4.out
              have hwb4 := H4.out.size
              obtain ⟨hR7, hE7⟩ := HRO5.out w6 ((HKQ.out.mono fun b _ hb => (HLO4.out b hb).2).trans (HK6.out) fun b _ hb => by have := HALO.out b hb.2; omega)
              have HS7 := Lib.hid hS7
              have HR7 := Lib.hid (hR7.below hb7)
              have hE8 := hE7.below hb7
              have hsz : (split zs).1 = (split al).1 ++ yss := by rw [HZS.out]; exact HSPL.out
              rw [hsz, List.length_append] at hrw
              have hcn := framed_ge zs.length zs (Nat.le_refl _)
              rw [hsz, List.length_append] at hcn
              rw [hsz, List.length_append]
              obtain ⟨sa, sc, hsl, hlow⟩ := rows_low hrw
              have HLOW := Lib.hid hlow
              have HSZ := Lib.hid hsz
              have hrd := hS7.reads
              clear hS7 hR7 hE7 hlow hsz hrw
              rcases hE8 with ⟨hd2, hev⟩ | ⟨_, hd2, fb, hev, hF⟩ | ⟨hd3, _⟩
              · skip
                rw [← HZS.out] at hd2
                subst hev
                rw [hd2]
                simp only [hd2] at hrd
                have HRD := Lib.hid hrd
                have HD2 := Lib.hid hd2
                skip
                clear hd2 hrd 
                go_wp2_with fail
                refine (same_true ga sa gc sc yss _ HR7.out HLOW.out (by omega)).mono ?_
                rintro e w8 ⟨rfl, m, rfl⟩
                clear hsl
                go_wp2_with fail
                refine (HRD.out m).1.mono ?_
                rintro e w9 ⟨rfl, rfl⟩
                go_wp2_with fail
                refine (HRD.out m).2.mono ?_
                rintro e w10 ⟨rfl, rfl⟩
                go_wp2_with fail
                have HS11 := Lib.hid (HS7.out.drewq m)
                go_wp2
                go_roundw
                case rel => exact ⟨k + 1, _, zs, by omega, by go_num, rfl, by rw [HNX.out, ← HZS.out, HSZ.out, List.length_append, Int.natCast_add], by rw [HNX.out, ← HZS.out, HD2.out], by rw [HNX.out, ← HZS.out]; exact HS11.out, by omega, fun _ => by rw [HNX.out, ← HZS.out]⟩
                case measure => simp [intOf]; omega
              · skip
                rw [← HZS.out] at hd2
                subst hev
                rw [hd2]
                simp only [hd2] at hrd
                have HRD := Lib.hid hrd
                have HD2 := Lib.hid hd2
                have HF7 := Lib.hid hF
                clear hd2 hrd hF
                go_wp2_with fail
                refine (same_true ga sa gc sc yss _ HR7.out HLOW.out (by omega)).mono ?_
                rintro e w8 ⟨rfl, m, rfl⟩
                clear hsl
                go_wp2_with fail
                refine (HRD.out m).1.mono ?_
                rintro e w9 ⟨rfl, rfl⟩
                go_wp2_with fail
                refine (HRD.out m).2.mono ?_
                rintro e w10 ⟨rfl, rfl⟩
                go_wp2_with fail
                unfold eF
                go_wp2_with fail
                refine (told_F fb 260 _ yss.length _ ⟨#[102, 114, 97, 109, 101]⟩ _ _ (HG.out.below (HS7.out.drewq m).below HG.out.lt) (HF7.out.below (w' := w7.drewN m) (B := w7.heap.size) ⟨rfl, rfl, rfl, Nat.le_refl _, fun _ _ => rfl⟩ HF7.out.lt) rfl rfl (by omega) (by rw [ByteArray.toList_eq]; decide)).mono ?_
                rintro e w11 ⟨rfl, hb11⟩
                have HS11 := Lib.hid ((HS7.out.drewq m).grow hb11)
                clear hb11
                go_wp2
                go_roundw
                case rel => exact ⟨k + 1, _, zs, by omega, by go_num, rfl, by rw [HNX.out, ← HZS.out, HSZ.out, List.length_append, Int.natCast_add], by rw [HNX.out, ← HZS.out, HD2.out], by rw [HNX.out, ← HZS.out]; exact HS11.out, by omega, fun _ => by rw [HNX.out, ← HZS.out]⟩
                case measure => simp [intOf]; omega
              · rw [HD.out] at hd3; cases hd3

    · have HB := Lib.hid hst.below
      clear hst hlive
      go_wp2
      go_ret
      exact ⟨rfl, HB.out⟩
theorem joins_any (v1 : Value) (xss : List (List Int)) (cut : Int) (w : World) (hg : Hg w) (h1 : RowsR w v1 xss) (hx : ∀ xs, xs ∈ xss → Byt xs) (hl : xss.flatten.length + xss.length ≤ 1048576) (k0 : 0 ≤ cut) (k1 : cut ≤ 255) : Calls Tryd.prog 6 #[v1, .int .u8 cut] w (Yes w) := by
  have k := h1
  obtain ⟨vs, s1, _⟩ := h1
  obtain ⟨a1, c1, e1, _⟩ := Sl.len s1
  rw [e1] at k ⊢
  exact joins_slices a1 c1 xss cut w hg k hx hl k0 k1
end Go.Proofs.YtamkappanknklaaDoor
