/-
  The walk of FrameMakes: it answers true for all bodies and cuts up to a bound, and old memory stays; the conditions: what errors.errorType holds, and how long the bodies are.
  Printed by a program of this repository (wip/frame9.py).
-/
import Derived.Test.YtamkappanknklaaDoorGath
import Derived.Deep.RegionWith
import Derived.IntWalk
namespace Go.Proofs.YtamkappanknklaaDoor
open Go.RowKit Go.Extern.Stop Go.Stop Go.Extern

theorem frames_byt (l : List (List Int)) (h : ∀ x, x ∈ l → Byt x) : Byt (l.flatMap frameOf) := by
  intro y hy
  obtain ⟨x, hx, hy⟩ := List.mem_flatMap.1 hy
  simp only [frameOf, List.cons_append, List.nil_append, List.mem_cons] at hy
  rcases hy with rfl | rfl | rfl | rfl | hy
  · omega
  · omega
  · omega
  · omega
  · exact h x hx y hy
/-- The gathered rows, as a slice that is read. -/
theorem Gath.rows {w0 wr : World} {jb : Nat} {tot : List Int} {v : Value} (h : Gath w0 jb tot v wr) : RowsR wr v (split tot).1 := by
  obtain ⟨F, a, c, vs, rfl, _, _, _, h1, _⟩ := h
  exact RowsR.ofV h1
theorem Gath.fed {w0 wr : World} {jb : Nat} {tot : List Int} {v : Value} (h : Gath w0 jb tot v wr) : Fed w0 jb tot wr := by
  obtain ⟨F, a, c, vs, rfl, hj, hF, hb, _⟩ := h
  exact ⟨F, hj, fun k hk => (hF k hk).1, hb⟩
/-- The second half: the frames are fed in cuts. -/
def Half (w : World) (G : List (List Int)) (av wv : Value) (w5 : World) (jb : Nat) (n : Nat) (v : Value) (wr : World) : Prop :=
  Gath w5 jb ((G.flatMap frameOf).take n) v wr ∧ Mk w G av wv w5

set_option maxRecDepth 100000 in
set_option maxHeartbeats 2000000 in
theorem makes_slices (a1 a2 : Option Addr) (c1 c2 : Nat) (xss : List (List Int)) (cs : List Int) (w : World) (hg : Hg w) (h1 : RowsR w (.slice a1 xss.length c1) xss) (h2 : Bytes w (.slice a2 cs.length c2) cs) (hx : ∀ xs, xs ∈ xss → Byt xs) (hc : Byt cs)
    (hl1 : xss.flatten.length + xss.length ≤ 1048576) (hl2 : cs.length ≤ 1048576) : Calls Tryd.prog 3 #[.slice a1 xss.length c1, .slice a2 cs.length c2] w (Yes w) := by
  obtain ⟨i0, hi, hz0, hz1, hz2⟩ := info_parts Tryd.infoB
  obtain ⟨i1, hi1, hy0, hy1, hy2⟩ := info_parts Tryd.infoBB
  have H1 := Lib.hid h1
  have H2 := Lib.hid h2
  have HX := Lib.hid hx
  have HC := Lib.hid hc
  have HG := Lib.hid hg
  clear h1 h2 hx hc
  go_enter Tryd.func3, Tryd.ntmps3
  go_wp2_with fail
  refine (awake_any _ hg).mono ?_
  rintro e w1 ⟨rfl, hb1⟩
  have HM0 := Lib.hid (Mk.nil hb1)
  clear hb1 hg
  go_wp2_with fail
  go_loopw [5, 6, 7] (fun av wv i wr => ∃ k : Nat, k ≤ xss.length ∧ i = .int .i64 k ∧ Mk w ((xss.take k).filter fits) av wv wr) (fun _ _ i _ => xss.length - (intOf i).toNat)
  case atStart => exact ⟨0, Nat.zero_le _, rfl, HM0.out⟩
  case round =>
    obtain ⟨k, hk, rfl, hmk⟩ := hrel
    clear HM0
    by_cases hlt : k < xss.length
    · obtain ⟨g1, o1, x1, xs, rfl, e1, hxk, b1, hm, _, hle⟩ := H1.out.next hmk.below k hlt
      have i0' : (0 : Int) ≤ (k : Int) := by omega
      have i1' : (k : Int) < (xss.length : Int) := by omega
      have hbw : Bytes w x1 xs := by
        obtain ⟨g', o', x', ys, he, hc', hq', hb'⟩ := H1.out.get k hlt
        cases he
        have hlt2 : g1 < w.heap.size := World.block_lt_of_cell? _ _ hc'
        have k1 := (hmk.below.cell (p := ⟨g1, o1 + k, none⟩) hlt2).trans hc'
        rw [e1] at k1
        cases k1
        rw [hxk] at hq'
        cases hq'
        exact hb'
      have hg1w : g1 < w.heap.size := by
        obtain ⟨g', o', x', ys, he, hc', hq', hb'⟩ := H1.out.get k hlt
        cases he
        exact World.block_lt_of_cell? _ _ hc'
      obtain ⟨xa, xc, rfl, _⟩ := Sl.len b1
      have hft := fits_take hxk
      have hff := filter_flat (xss.take k)
      have htf := take_flat xss k
      have hfl := frames_len ((xss.take k).filter fits)
      have htl : (xss.take k).length ≤ xss.length := by rw [List.length_take]; omega
      have hxl : xs.length ≤ 1048576 := by omega
      have hGl : ((xss.take k).filter fits).length ≤ 1048576 := by omega
      have hAl : (((xss.take k).filter fits).flatMap frameOf).length ≤ 8388608 := by omega
      have HMK := Lib.hid hmk
      have HFT := Lib.hid hft
      have HB1 := Lib.hid b1
      have HBW := Lib.hid hbw
      clear hmk hft b1 hbw hff htf hfl htl hxk hm hle
      generalize (xss.take k).filter fits = G at *
      by_cases hfit : 1 ≤ xs.length ∧ xs.length ≤ 65536
      · have hfit' : fits xs = true := decide_eq_true hfit
        have hnx : (xss.take (k + 1)).filter fits = G ++ [xs] := by rw [HFT.out, hfit']; rfl
        have HNX := Lib.hid hnx
        clear HFT hnx hfit'
        obtain ⟨aa, ac, wa, wc, vs, rfl, rfl, m3, m4, m5, m6, m7⟩ := HMK.out
        generalize hal : G.flatMap frameOf = al at *
        generalize hfr : frameOf xs = fr at *
        have HAL := Lib.hid hal.symm
        have HFR := Lib.hid hfr.symm
        have hlen : fr.length = xs.length + 4 := by rw [← hfr]; simp [frameOf]
        clear hal hfr
        have M3 := Lib.hid m3
        have M4 := Lib.hid m4
        have M5 := Lib.hid m5
        have M6 := Lib.hid m6
        have M7 := Lib.hid m7
        clear m3 m4 m5 m6 m7
        have j0 : ¬ (xs.length : Int) < 1 := by omega
        have j1 : ¬ 65536 < (xs.length : Int) := by omega
        have hne : ((fr.length : Int) != (xs.length : Int) + 4) = false := by rw [hlen]; simp
        have hf5 : fr.length ≤ 1048580 := by omega
        go_wp2_with fail
        refine (make_ok xa xc xs _ HB1.out hfit.1 hfit.2).mono ?_
        rintro e w2 ⟨fa, fc, he, hf, hb2⟩
        rw [← HFR.out] at he hf
        subst he
        have e2 : w2.cell? ⟨g1, o1 + k, none⟩ = some (.slice xa xs.length xc) := (hb2.cell (p := ⟨g1, o1 + k, none⟩) (by have := M7.out.size; simp; omega)).trans e1
        have hM3 := M3.out.below hb2 fun q hq => (M3.out.lt q hq).2
        have hS := Sl.src (P := Tryd.prog) Tryd.underlying23 (Sl.ofMid hf) (one_B8 _)
        have HM3 := Lib.hid hM3
        have HS := Lib.hid hS
        have HB2 := Lib.hid hb2
        have hwz : w.heap.size ≤ w2.heap.size := by have := M7.out.size; have := hb2.size; omega
        clear hM3 hS hf hb2
        have HLEN := Lib.hid hlen
        clear hlen
        go_wp2_with (at_builtin; refine wpList_append_mid (v := .slice aa al.length ac) rfl _ _ 23 23 rfl i0 (.int .u8 0) 1 Tryd.underlying23 hi hz0 hz1 hz2 rfl rfl HM3.out _ rfl fr.length _ HS.out (by unfold maxLen; omega) (by omega) hwz ?_; intro a3 c3 w3 hm3 hg3 hk3; have e3 := (World.cell?_of_block (a := ⟨g1, o1 + k, none⟩) (hg3.block g1 (by omega) (fun e => by have := (M3.out.lt g1 e.symm).1; omega))).trans e2; have hwz3 : w.heap.size ≤ (w3.alloc (.cells #[.slice xa xs.length xc] 23)).heap.size := (by have := hg3.size; simp; omega); have HM4 := Lib.hid (((M4.out.below HB2.out fun q hq => (M4.out.lt q hq).2).grown hg3 fun q hq e => M6.out q e.symm hq).alloc (.cells #[.slice xa xs.length xc] 23)); have HS4 := Lib.hid (Sl.src (P := Tryd.prog) Tryd.underlying22 (Sl.one w3 23 (.slice xa xs.length xc)) (fun u hu => (by simp at hu; subst hu; rfl))); have HG3 := Lib.hid hg3; have HK3 := Lib.hid hk3; have HMM3 := Lib.hid hm3; clear hg3 hk3 hm3; go_wp2_with (at_builtin; refine wpList_append_mid (v := .slice wa G.length wc) rfl _ _ 22 22 rfl i1 (.slice none 0 0) 24 Tryd.underlying22 hi1 hy0 hy1 hy2 rfl rfl HM4.out _ rfl 1 _ HS4.out (by unfold maxLen; omega) (by omega) hwz3 ?_; intro a4 c4 w4 hm4 hg4 hk4; have HPUSH := Lib.hid (mk_push HAL.out HFR.out M3.out M4.out M5.out M6.out M7.out HB2.out HBW.out rfl HMM3.out HG3.out HK3.out hm4 hg4 hk4); clear hm4 hg4 hk4))
        go_wp2
        go_roundw
        case rel => exact ⟨k + 1, by omega, by go_num, by rw [HNX.out]; exact HPUSH.out⟩
        case measure => simp [intOf]; omega
      · have hfit' : fits xs = false := decide_eq_false hfit
        have hnx : (xss.take (k + 1)).filter fits = G := by rw [HFT.out, hfit']; simp
        have HNX := Lib.hid hnx
        have hbad : xs.length = 0 ∨ 65536 < xs.length := by omega
        have hg2 := HG.out.below HMK.out.below HG.out.lt
        have HTOLD := Lib.hid (told_E 260 260 0 ⟨#[]⟩ wr hg2 rfl (by rw [ByteArray.toList_eq]))
        clear HFT hnx hfit' hfit
        have htest : (xs.length : Int) < 1 ∨ (¬ (xs.length : Int) < 1 ∧ 65536 < (xs.length : Int)) := by omega
        rcases htest with j0 | ⟨j0, j1⟩
        all_goals
          go_wp2_with fail
          refine (make_bad xa xc xs.length _ hbad (by omega)).mono ?_
          rintro e w2 ⟨rfl, rfl⟩
          unfold eE
          go_wp2_with fail
          refine HTOLD.out.mono ?_
          rintro e w3 ⟨rfl, hb3⟩
          have HMK3 := Lib.hid (HMK.out.grow hb3)
          clear hb3
          go_wp2
          go_roundw
          case rel => exact ⟨k + 1, by omega, by go_num, by rw [HNX.out]; exact HMK3.out⟩
          case measure => simp [intOf]; omega
    · obtain rfl : k = xss.length := by omega
      rw [List.take_length] at hmk
      have hff := filter_flat xss
      have hfl := frames_len (xss.filter fits)
      have hfa := fits_all xss
      have HFA := Lib.hid hfa
      have hby : Byt ((xss.filter fits).flatMap frameOf) := frames_byt _ fun x hx => HX.out x (List.mem_filter.1 hx).1
      have HBY := Lib.hid hby
      have hlv : ∀ n, (split (((xss.filter fits).flatMap frameOf).take n)).2.2 = false := cut_live _ hfa
      have HLV := Lib.hid hlv
      have HMK := Lib.hid hmk
      have hGl : (xss.filter fits).length ≤ 1048576 := by omega
      have hAl : ((xss.filter fits).flatMap frameOf).length ≤ 8388608 := by omega
      clear hff hfl hmk hfa hby hlv
      generalize xss.filter fits = G at *
      obtain ⟨aa, ac, wa, wc, vs, rfl, rfl, m3, _⟩ := HMK.out
      have M3 := Lib.hid m3
      clear m3
      have hrows := HMK.out.rows
      have HROWS := Lib.hid hrows
      clear hrows
      generalize hal : G.flatMap frameOf = al at *
      have HAL := Lib.hid hal.symm
      clear hal
      generalize hL : al.length = L at *
      have HL := Lib.hid hL
      clear hL
      go_wp2_with fail
      go_loopw [11, 12, 13] (fun v i kk wq => ∃ n q : Nat, n ≤ L ∧ q ≤ cs.length + 1 ∧ (q ≤ cs.length ∨ n = L) ∧ i = .int .i64 n ∧ kk = .int .i64 q ∧ Gath wr wr.heap.size (al.take n) v wq) (fun _ i kk _ => (cs.length - (intOf kk).toNat) + (L - (intOf i).toNat))
      case atStart => exact ⟨0, 0, Nat.zero_le _, Nat.zero_le _, .inl (Nat.zero_le _), rfl, rfl, Gath.new wr⟩
      case round =>
        obtain ⟨n, q, hn, hq1, hq, rfl, rfl, hga⟩ := hrel
        by_cases hlt : n < L
        · rcases M3.out.form with ⟨_, h0, _⟩ | ⟨g, o, cap, hav, _, hgl, hnc, hcm⟩
          · omega
          obtain ⟨rfl, rfl⟩ : aa = some ⟨g, o, none⟩ ∧ ac = cap := by cases hav; exact ⟨rfl, rfl⟩
          clear hav
          obtain ⟨va, np, vc, rfl⟩ := hga.shape
          have hM := Mid.below M3.out hga.below fun z hz => (M3.out.lt z hz).2
          rw [← HL.out] at hM
          have hsub := Bytes.sub hM n
          have HSUB := Lib.hid hsub
          have HGA := Lib.hid hga
          clear hM hsub hga
          have hcap : ac ≤ 9223372036854775807 := by unfold maxLen at hcm; omega
          have n0 : ¬ (n : Int) < 0 := by omega
          have n1 : (n : Int) < (L : Int) := by omega
          have q0 : (0 : Int) ≤ (q : Int) := by omega
          by_cases hqc : q < cs.length
          · have q1 : (q : Int) < (cs.length : Int) := by omega
            obtain ⟨b, ob, cb, e, _, _, _, hcl⟩ := Bytes.plain (Sl.below H2.out (HMK.out.below.trans (HGA.out.below.mono HMK.out.below.size))) (by omega : 0 < cs.length)
            obtain ⟨rfl, rfl⟩ : a2 = some ⟨b, ob, none⟩ ∧ c2 = cb := by cases e; exact ⟨rfl, rfl⟩
            clear e
            have hcq : cs[q]? = some (cs[q]'hqc) := List.getElem?_eq_getElem _
            have hcell := hcl q _ hcq
            have hcb := HC.out _ (List.getElem_mem hqc)
            clear hcl hcq
            generalize cs[q]'hqc = cv at *
            obtain ⟨dn, rfl⟩ := Int.eq_ofNat_of_zero_le hcb.1
            have d0 : (0 : Int) ≤ (dn : Int) := by omega
            have d1 : (dn : Int) ≤ 255 := by omega
            by_cases hcv : dn < L - n
            · have d2 : (dn : Int) < (L : Int) - (n : Int) := by omega
              go_wp2_with fail
              refine (HGA.out.feed (bs := (al.drop n).take dn) (HLV.out n) (by rw [← List.take_add]; exact HLV.out _) (HSUB.out dn (by rw [HL.out]; omega)) ((HBY.out.drop n).take _) (by simp only [List.length_take, List.length_drop]; omega)).mono ?_
              rintro e w2 ⟨a2', c2', nz, vs2, ws, rfl, hm, hsl, h1, hz, hle, hfin⟩
              rw [← List.take_add] at hfin
              have HMQ := Lib.hid hm
              have HSQ := Lib.hid (hsl.src (P := Tryd.prog) Tryd.underlying22 h1)
              have HFIN := Lib.hid hfin
              clear hm hsl h1 hfin
              go_wp2_with (at_builtin; refine wpList_append_mid (v := .slice va np vc) rfl _ _ 22 22 rfl i1 (.slice none 0 0) 24 Tryd.underlying22 hi1 hy0 hy1 hy2 rfl rfl HMQ.out _ rfl nz _ HSQ.out (by unfold maxLen; omega) (by omega) hz ?_; intro a5 c5 w5 k1 k2 k3; have HGA5 := Lib.hid (HFIN.out a5 c5 w5 k1 k2 k3); clear k1 k2 k3)
              go_wp2
              go_roundw
              case rel => exact ⟨n + dn, q + 1, by omega, by omega, (by omega), by go_num, by go_num, HGA5.out⟩
              case measure => simp [intOf]; omega
            · have d2 : ¬ (dn : Int) < (L : Int) - (n : Int) := by omega
              have d3 : (L : Int) - (n : Int) ≤ (dn : Int) := by omega
              go_wp2_with fail
              refine (HGA.out.feed (bs := (al.drop n).take (L - n)) (HLV.out n) (by rw [← List.take_add]; exact HLV.out _) (HSUB.out (L - n) (by rw [HL.out]; omega)) ((HBY.out.drop n).take _) (by simp only [List.length_take, List.length_drop]; omega)).mono ?_
              rintro e w2 ⟨a2', c2', nz, vs2, ws, rfl, hm, hsl, h1, hz, hle, hfin⟩
              rw [← List.take_add] at hfin
              have HMQ := Lib.hid hm
              have HSQ := Lib.hid (hsl.src (P := Tryd.prog) Tryd.underlying22 h1)
              have HFIN := Lib.hid hfin
              clear hm hsl h1 hfin
              go_wp2_with (at_builtin; refine wpList_append_mid (v := .slice va np vc) rfl _ _ 22 22 rfl i1 (.slice none 0 0) 24 Tryd.underlying22 hi1 hy0 hy1 hy2 rfl rfl HMQ.out _ rfl nz _ HSQ.out (by unfold maxLen; omega) (by omega) hz ?_; intro a5 c5 w5 k1 k2 k3; have HGA5 := Lib.hid (HFIN.out a5 c5 w5 k1 k2 k3); clear k1 k2 k3)
              go_wp2
              go_roundw
              case rel => exact ⟨n + (L - n), q + 1, by omega, by omega, (by omega), by go_num, by go_num, HGA5.out⟩
              case measure => simp [intOf]; omega
          · have q1 : ¬ (q : Int) < (cs.length : Int) := by omega
            go_wp2_with fail
            refine (HGA.out.feed (bs := (al.drop n).take (L - n)) (HLV.out n) (by rw [← List.take_add]; exact HLV.out _) (HSUB.out (L - n) (by rw [HL.out]; omega)) ((HBY.out.drop n).take _) (by simp only [List.length_take, List.length_drop]; omega)).mono ?_
            rintro e w2 ⟨a2', c2', nz, vs2, ws, rfl, hm, hsl, h1, hz, hle, hfin⟩
            rw [← List.take_add] at hfin
            have HMQ := Lib.hid hm
            have HSQ := Lib.hid (hsl.src (P := Tryd.prog) Tryd.underlying22 h1)
            have HFIN := Lib.hid hfin
            clear hm hsl h1 hfin
            go_wp2_with (at_builtin; refine wpList_append_mid (v := .slice va np vc) rfl _ _ 22 22 rfl i1 (.slice none 0 0) 24 Tryd.underlying22 hi1 hy0 hy1 hy2 rfl rfl HMQ.out _ rfl nz _ HSQ.out (by unfold maxLen; omega) (by omega) hz ?_; intro a5 c5 w5 k1 k2 k3; have HGA5 := Lib.hid (HFIN.out a5 c5 w5 k1 k2 k3); clear k1 k2 k3)
            go_wp2
            go_roundw
            case rel => exact ⟨n + (L - n), q + 1, by omega, by omega, (by omega), by go_num, by go_num, HGA5.out⟩
            case measure => simp [intOf]; omega
        · obtain rfl : n = L := by omega
          have htk : al.take n = al := List.take_of_length_le (by rw [HL.out]; omega)
          have hsp : split al = (G, [], false) := by rw [HAL.out]; exact split_frames G HFA.out
          rw [htk] at hga
          obtain ⟨va, np, vc, rfl⟩ := hga.shape
          have hrw := hga.rows
          have hfd := hga.fed
          have hnp : np = G.length := by
            obtain ⟨_, _, _, _, e, _⟩ := hga
            cases e
            rw [hsp]
          subst hnp
          rw [hsp] at hrw
          have HLEFT := Lib.hid (fun m => hsp ▸ (hfd.drewN m).left)
          have HDEAD := Lib.hid (fun m => hsp ▸ (hfd.drewN m).dead)
          have HW := Lib.hid hfd.below
          have HRW := Lib.hid (HROWS.out.below hfd.below)
          have HRG := Lib.hid hrw
          clear hga hfd hrw hsp
          go_wp2_with fail
          refine (same_true va wa vc wc G _ HRG.out HRW.out (by omega)).mono ?_
          rintro e w3 ⟨rfl, m, rfl⟩
          go_wp2_with fail
          refine (HLEFT.out m).mono ?_
          rintro e w4 ⟨rfl, rfl⟩
          go_wp2_with fail
          refine (HDEAD.out m).mono ?_
          rintro e w5 ⟨rfl, rfl⟩
          go_wp2
          go_ret
          exact ⟨rfl, (HMK.out.below.trans (HW.out.mono HMK.out.below.size)).trans ⟨rfl, rfl, rfl, Nat.le_refl _, fun _ _ => rfl⟩⟩
theorem makes_any (v1 v2 : Value) (xss : List (List Int)) (cs : List Int) (w : World) (hg : Hg w) (h1 : RowsR w v1 xss) (h2 : Bytes w v2 cs) (hx : ∀ xs, xs ∈ xss → Byt xs) (hc : Byt cs)
    (hl : xss.flatten.length + xss.length + cs.length ≤ 1048576) : Calls Tryd.prog 3 #[v1, v2] w (Yes w) := by
  have k1 := h1
  have k2 := h2
  obtain ⟨vs, s1, _⟩ := h1
  obtain ⟨a1, c1, e1, _⟩ := Sl.len s1
  obtain ⟨a2, c2, e2, _⟩ := Sl.len h2
  rw [e1] at k1 ⊢
  rw [e2] at k2 ⊢
  exact makes_slices a1 a2 c1 c2 xss cs w hg k1 k2 hx hc (by omega) (by omega)
end Go.Proofs.YtamkappanknklaaDoor
