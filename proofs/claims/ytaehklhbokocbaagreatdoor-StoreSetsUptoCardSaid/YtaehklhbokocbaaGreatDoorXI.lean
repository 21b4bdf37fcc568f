/-
  What the laws of a store stand on, part I: contracts and plain laws of RAddRow; the conditions are each law's own.
-/
import Derived.Test.YtaehklhbokocbaaGreatDoorXR
import Derived.Deep.RegionLaw
import Derived.Deep.DeepCutAuto
set_option linter.unusedVariables false
set_option linter.unusedSimpArgs false
namespace Go.Proofs.YtaehklhbokocbaaGreatDoor
open Go.RowKit Go.Extern.Stop Go.Stop Go.Extern
set_option maxRecDepth 100000 in
set_option maxHeartbeats 16000000 in
theorem r_addRow (rb : Nat) (H : Nat → Prop) (m : RM) (kd : Int) (v : Int × Int) (es : List (Int × Int × Int)) (ia va : Option Addr) (ic vc : Nat) (w : World) (hr : RB w rb H m) (hw : RWf m) (hcl : m.cells.length + es.length ≤ 1000000000000) (hlr : m.lr ≤ 4611686018427387904)
    (hids : Mid w 0 3 1 (.slice ia es.length ic) es.length ((es.map (·.1)).map IV)) (hvs : Mid w 0 97 2 (.slice va es.length vc) es.length ((es.map (·.2)).flatMap vCells)) (hd1 : ∀ k, (Value.slice ia es.length ic).ownBlock = some k → ¬ H k) (hd2 : ∀ k, (Value.slice va es.length vc).ownBlock = some k → ¬ H k) :
    Calls Tryz.prog 40 #[.pointer (some ⟨rb, 0, none⟩), .int .i64 kd, .agg #[.int .i64 v.1, .int .i64 v.2], .slice ia es.length ic, .slice va es.length vc] w (RAddR w rb H (m.addRow kd v es)) := by
  obtain ⟨i0infoInt, hiinfoInt, hz0infoInt, hz1infoInt, hz2infoInt⟩ := info_parts Tryz.infoInt
  obtain ⟨i0infoKind, hiinfoKind, hz0infoKind, hz1infoKind, hz2infoKind⟩ := info_parts Tryz.infoKind
  obtain ⟨i0infoVal, hiinfoVal, hz0infoVal, hz1infoVal, hz2infoVal⟩ := info_parts Tryz.infoVal
  obtain ⟨i0infoCell, hiinfoCell, hz0infoCell, hz1infoCell, hz2infoCell⟩ := info_parts Tryz.infoCell
  obtain ⟨h, hq, -⟩ := hr
  have hrbl := lt_of_block hq.1
  obtain ⟨w0, hw0⟩ : ∃ w0, (w.alloc (.cells #[.int .i64 v.1, .int .i64 v.2] 97)).alloc (.cells #[.int .i64 0, .string ⟨#[]⟩, .int .i64 0] 100) = w0 := ⟨_, rfl⟩
  have hb0 : Below w.heap.size w w0 := by rw [← hw0]; exact bthen (belowBox w (.cells #[.int .i64 v.1, .int .i64 v.2] 97)) (belowBox _ (.cells #[.int .i64 0, .string ⟨#[]⟩, .int .i64 0] 100))
  have hz : (w.heap.size + 1) < w0.heap.size := by rw [← hw0]; simp
  have q0 : w0.cell? ⟨(w.heap.size + 1), 0, none⟩ = some (.int .i64 0) := by rw [← hw0]; simp
  have q1 : w0.cell? ⟨(w.heap.size + 1), 1, none⟩ = some (.string ⟨#[]⟩) := by rw [← hw0]; simp
  have q2 : w0.cell? ⟨(w.heap.size + 1), 2, none⟩ = some (.int .i64 0) := by rw [← hw0]; simp
  have qf : ∀ j, w0.frozen? ⟨(w.heap.size + 1), j, none⟩ = false := by intro j; rw [← hw0]; simp
  have b0 : w0.cell? ⟨w.heap.size, 0, none⟩ = some (.int .i64 v.1) := by rw [← hw0]; simp
  have b1 : w0.cell? ⟨w.heap.size, 1, none⟩ = some (.int .i64 v.2) := by rw [← hw0]; simp
  have hq0 := Box.below hq hb0
  have k0 := RBx.c0 hq0
  have k1 := RBx.c1 hq0
  have g0 := qf 0
  have g1 := qf 1
  have g2 := qf 2
  have hlen2 := (Sl.ofMid hids).lenI
  have HEN := Lib.hid (entries_any h.a1 ia m.cols.length es.length h.c1 ic m.cols (es.map (·.1)) 231 ⟨#[99, 111, 108, 117, 109, 110]⟩ w0 (RBx.sl1 hq0) (Sl.ofMid (mid_under hids hb0)))
  have HQ := Lib.hid hq
  have HB0 := Lib.hid hb0
  have HW := Lib.hid hw
  have HIDS := Lib.hid hids
  have HVS := Lib.hid hvs
  have HD1 := Lib.hid hd1
  have HD2 := Lib.hid hd2
  have HCL := Lib.hid hcl
  have HRF := Lib.hid qf
  have hn0 : 0 ≤ m.lr := hw.lr0
  clear hq hq0 hb0 hw hids hvs hd1 hd2 hcl qf
  go_enter Tryz.func40, Tryz.ntmps40
  go_upto_region 1 with fail
  (try simp only [hw0])
  clear hw0
  by_cases hk : kd < 1 ∨ 3 < kd
  · rcases hk with h1 | h3
    · have HE := Lib.hid (show m.addRow kd v es = ((0, (160, noWh, 0)), m) by unfold RM.addRow; rw [if_pos (.inl h1)])
      go_wp2_with fail
      refine bodyPost_ret (v := .tuple #[.int .i64 0, .agg #[.int .i64 160, .string ⟨#[]⟩, .int .i64 0]]) (by simp [results, Tryz.results40, go_sem, q0, q1, q2]) rfl ?_
      rw [HE.out]
      exact ⟨rfl, RAct.none HB0.out HQ.out (by omega) hz _ _ _⟩
    · have h1 : ¬ kd < 1 := by omega
      have HE := Lib.hid (show m.addRow kd v es = ((0, (160, noWh, 0)), m) by unfold RM.addRow; rw [if_pos (.inr h3)])
      go_wp2_with fail
      refine bodyPost_ret (v := .tuple #[.int .i64 0, .agg #[.int .i64 160, .string ⟨#[]⟩, .int .i64 0]]) (by simp [results, Tryz.results40, go_sem, q0, q1, q2]) rfl ?_
      rw [HE.out]
      exact ⟨rfl, RAct.none HB0.out HQ.out (by omega) hz _ _ _⟩
  · have h1 : ¬ kd < 1 := by omega
    have h3 : ¬ 3 < kd := by omega
    by_cases hl : 20 ≤ m.rows.length
    · have hl2 : (20 : Int) ≤ (m.rows.length : Int) := by omega
      have HE := Lib.hid (show m.addRow kd v es = ((0, (2, noWh, 0)), m) by unfold RM.addRow; rw [if_neg hk, if_pos hl])
      go_wp2_with fail
      refine bodyPost_ret (v := .tuple #[.int .i64 0, .agg #[.int .i64 2, .string ⟨#[]⟩, .int .i64 0]]) (by simp [results, Tryz.results40, go_sem, q0, q1, q2]) rfl ?_
      rw [HE.out]
      exact ⟨rfl, RAct.none HB0.out HQ.out (by omega) hz _ _ _⟩
    · have hl2 : ¬ (20 : Int) ≤ (m.rows.length : Int) := by omega
      go_wp2_with fail
      refine HEN.out.mono ?_
      rintro e w5 ⟨rfl, hb5⟩
      have hb1 := bthen HB0.out hb5
      have r0 := (hb5.cell (p := ⟨(w.heap.size + 1), 0, none⟩) hz).trans q0
      have r1 := (hb5.cell (p := ⟨(w.heap.size + 1), 1, none⟩) hz).trans q1
      have r2 := (hb5.cell (p := ⟨(w.heap.size + 1), 2, none⟩) hz).trans q2
      have rf := fun j => (hb5.frozen (p := ⟨(w.heap.size + 1), j, none⟩) hz).trans (HRF.out j)
      have v0 := (hb5.cell (p := ⟨w.heap.size, 0, none⟩) (show w.heap.size < w0.heap.size by omega)).trans b0
      have v1 := (hb5.cell (p := ⟨w.heap.size, 1, none⟩) (show w.heap.size < w0.heap.size by omega)).trans b1
      have hz5 : (w.heap.size + 1) < w5.heap.size := Nat.lt_of_lt_of_le hz hb5.size
      have HB1 := Lib.hid hb1
      clear hb1 hb5 q0 q1 q2 g0 g1 g2 k0 k1 b0 b1 hl2
      unfold entF
      cases hent : entR m.cols 231 [] (es.map (·.1)) with
      | some ni =>
        obtain ⟨n, i⟩ := ni
        have hne : ¬ n = 0 := by rcases entR_ne hent with rfl | rfl <;> decide
        have HE := Lib.hid (show m.addRow kd v es = ((0, (n, whCol, i)), m) by unfold RM.addRow; rw [if_neg hk, if_neg hl, hent])
        clear hent v0 v1
        dsimp only
        obtain ⟨w6, hw6⟩ : ∃ w6, w5.alloc (.cells #[.int .i64 n, .string ⟨#[99, 111, 108, 117, 109, 110]⟩, .int .i64 i] 100) = w6 := ⟨_, rfl⟩
        have e0 : w6.cell? ⟨w5.heap.size, 0, none⟩ = some (.int .i64 n) := by rw [← hw6]; simp
        have e1 : w6.cell? ⟨w5.heap.size, 1, none⟩ = some (.string ⟨#[99, 111, 108, 117, 109, 110]⟩) := by rw [← hw6]; simp
        have e2 : w6.cell? ⟨w5.heap.size, 2, none⟩ = some (.int .i64 i) := by rw [← hw6]; simp
        have hb6 : Below w5.heap.size w5 w6 := by rw [← hw6]; exact belowBox w5 _
        have s0 := (hb6.cell (p := ⟨(w.heap.size + 1), 0, none⟩) hz5).trans r0
        have s1 := (hb6.cell (p := ⟨(w.heap.size + 1), 1, none⟩) hz5).trans r1
        have s2 := (hb6.cell (p := ⟨(w.heap.size + 1), 2, none⟩) hz5).trans r2
        have f0 := (hb6.frozen (p := ⟨(w.heap.size + 1), 0, none⟩) hz5).trans (rf 0)
        have f1 := (hb6.frozen (p := ⟨(w.heap.size + 1), 1, none⟩) hz5).trans (rf 1)
        have f2 := (hb6.frozen (p := ⟨(w.heap.size + 1), 2, none⟩) hz5).trans (rf 2)
        have hz6 : (w.heap.size + 1) < w6.heap.size := Nat.lt_of_lt_of_le hz5 hb6.size
        have HB6 := Lib.hid (HB1.out.trans (hb6.mono HB1.out.size))
        clear hb6 r0 r1 r2 rf
        go_upto_region 7 with fail
        (try simp only [hw6])
        clear hw6
        go_region
        all_goals
          go_wp2_with fail
          refine bodyPost_ret (v := .tuple #[.int .i64 0, .agg #[.int .i64 n, .string ⟨#[99, 111, 108, 117, 109, 110]⟩, .int .i64 i]]) (by simp [results, Tryz.results40, go_sem, s0, s1, s2]) rfl ?_
          rw [HE.out]
          exact ⟨rfl, RAct.none (HB6.out.trans ((Below.drawn w6 1).mono HB6.out.size)) HQ.out (by omega) (by simpa using hz6) _ _ _⟩
      | none =>
        dsimp only [noF, noWh]
        have HKE := Lib.hid hent
        have HKL := Lib.hid hl
        clear hent hl
        obtain ⟨w1, hw1⟩ : ∃ w1, w5.alloc (.cells #[.int .i64 0, .string ⟨#[]⟩, .int .i64 0] 100) = w1 := ⟨_, rfl⟩
        have t0 : w1.cell? ⟨w5.heap.size, 0, none⟩ = some (.int .i64 0) := by rw [← hw1]; simp
        have hb6 : Below w5.heap.size w5 w1 := by rw [← hw1]; exact belowBox w5 _
        replace r0 := (hb6.cell (p := ⟨(w.heap.size + 1), 0, none⟩) hz5).trans r0
        replace r1 := (hb6.cell (p := ⟨(w.heap.size + 1), 1, none⟩) hz5).trans r1
        replace r2 := (hb6.cell (p := ⟨(w.heap.size + 1), 2, none⟩) hz5).trans r2
        have f0 := (hb6.frozen (p := ⟨(w.heap.size + 1), 0, none⟩) hz5).trans (rf 0)
        have f1 := (hb6.frozen (p := ⟨(w.heap.size + 1), 1, none⟩) hz5).trans (rf 1)
        have f2 := (hb6.frozen (p := ⟨(w.heap.size + 1), 2, none⟩) hz5).trans (rf 2)
        replace v0 := (hb6.cell (p := ⟨w.heap.size, 0, none⟩) (show w.heap.size < w5.heap.size by omega)).trans v0
        replace v1 := (hb6.cell (p := ⟨w.heap.size, 1, none⟩) (show w.heap.size < w5.heap.size by omega)).trans v1
        have hz1 : (w.heap.size + 1) < w1.heap.size := Nat.lt_of_lt_of_le hz5 hb6.size
        have HB6 := Lib.hid (HB1.out.trans (hb6.mono HB1.out.size))
        have hq1 := Box.below HQ.out HB6.out
        have cn := RBx.c6 hq1
        have fn := Box.free hq1 6
        have HQ1 := Lib.hid hq1
        have HNZ := Lib.hid (show ¬ H (w.heap.size + 1) from fun hh => by have := Box.lt HQ.out _ hh; omega)
        have HNV := Lib.hid (show ¬ H w.heap.size from fun hh => by have := Box.lt HQ.out _ hh; omega)
        have HIDS1 := Lib.hid (mid_under HIDS.out HB6.out)
        have HVS1 := Lib.hid (mid_under HVS.out HB6.out)
        have HVL := Lib.hid (show w.heap.size < w1.heap.size by omega)
        have HZ1 := Lib.hid hz1
        have V0 := Lib.hid v0
        have V1 := Lib.hid v1
        have R0 := Lib.hid r0
        have R1 := Lib.hid r1
        have R2 := Lib.hid r2
        have F0 := Lib.hid f0
        have F1 := Lib.hid f1
        have F2 := Lib.hid f2
        have HWW := Lib.hid hw1
        clear hb6 rf hq1 v0 v1 r0 r1 r2 f0 f1 f2 hw1
        go_upto_region 8 with fail
        (try simp only [HWW.out])
        clear HWW
        go_cut [] (fun wx => RAx w1 rb H h { m with lr := m.lr + 1 } wx)
        case first =>
          go_wp2_with fail
          go_meet
          exact RBx.lr HQ1.out (m.lr + 1)
        case rest =>
          obtain ⟨W0, hwc⟩ : ∃ W0 : World, W0 = wc := ⟨_, rfl⟩
          subst hwc
          obtain ⟨M0, hM⟩ : ∃ M0, M0 = { m with lr := m.lr + 1 } := ⟨_, rfl⟩
          rw [← hM] at hcut
          obtain ⟨h0, hh⟩ : ∃ h0, h0 = h := ⟨_, rfl⟩
          have hX0 : RAx w1 rb H h0 M0 W0 := by rw [hh]; exact hcut
          have HX0 := Lib.hid hX0
          have HM0 := Lib.hid hM
          clear hcut hM hX0 hh cn fn t0
          go_upto_region 9 with fail
          obtain ⟨G1, hq1, hg1, hk1⟩ := id HX0.out
          have c0 := RBx.c0 hq1
          have f9 := Box.free hq1 0
          have hsl9 := lt_of_block hq1.1
          have hlen := (RBx.sl0 hq1).lenI
          have hrm := Box.mid hq1 0 rfl
          have hfo := Box.foot hq1 0 rfl
          have HM9 := Lib.hid (show Mid ((W0.alloc (.cells #[.int .i64 M0.lr] 3)).drew) 0 3 1 (.slice h0.a0 M0.rows.length h0.c0) M0.rows.length (M0.rows.map IV) from (hrm.alloc _).drew)
          have HS9 := Lib.hid (show Src Tryz.prog 1 27 (.slice (some ⟨W0.heap.size, 0, none⟩) 1 1) 1 [.int .i64 M0.lr] ((W0.alloc (.cells #[.int .i64 M0.lr] 3)).drew) from (show Sl ((W0.alloc (.cells #[.int .i64 M0.lr] 3)).drew) 1 _ 1 _ from Sl.lit W0 3 1 1 [.int .i64 M0.lr] (by unfold maxLen; omega) rfl).src (P := Tryz.prog) Tryz.underlying27 (fun u hu => by
            simp only [List.mem_cons, List.not_mem_nil, or_false] at hu
            rcases hu with rfl; rfl))
          have hbo9 : Below W0.heap.size W0 ((W0.alloc (.cells #[.int .i64 M0.lr] 3)).drew) := ((Below.refl _ _).alloc (Nat.le_refl _) _).drew
          have hkb : ∀ w4, ((W0.alloc (.cells #[.int .i64 M0.lr] 3)).drew).grownBy w4 (Value.slice h0.a0 M0.rows.length h0.c0).ownBlock → w4.heap[rb]? = W0.heap[rb]? := fun w4 hg => by
            refine (hg.block rb (by simp; omega) fun e => ?_).trans (hbo9.block rb hsl9)
            exact (hfo rb e.symm).2 rfl
          have HK0 := Lib.hid (fun w4 hg => (World.cell?_of_block (a := ⟨rb, 0, none⟩) (hkb w4 hg)).trans c0)
          have HK1 := Lib.hid (fun w4 hg => (World.frozen?_of_block (a := ⟨rb, 0, none⟩) (hkb w4 hg)).trans f9)
          have HBO9 := Lib.hid hbo9
          have ax : (W0.alloc (.cells #[.int .i64 M0.lr] 3)).cell? ⟨rb, 0, none⟩ = some (.slice h0.a0 M0.rows.length h0.c0) := (World.cell?_alloc_lt _ _ ⟨rb, 0, none⟩ hsl9).trans c0
          have c6 := RBx.c6 hq1
          have ay6 : (W0.alloc (.cells #[.int .i64 M0.lr] 3)).cell? ⟨rb, 6, none⟩ = some (.int .i64 M0.lr) := (World.cell?_alloc_lt _ _ ⟨rb, 6, none⟩ hsl9).trans c6
          have hfl : M0.rows.length ≤ 4096 := by rw [HM0.out]; have h1 := HW.out.rl; have h2 := HW.out.cl; have h3 := HW.out.kl; have h4 := HW.out.hl; have h5 := HW.out.ol; (try dsimp only); omega
          clear hq1 hg1 hk1 hrm hfo hkb hbo9
          go_cut [] (fun wx => ∃ h', RAx w1 rb H h' { M0 with rows := M0.rows ++ [M0.lr] } wx)
          case first =>
            go_region_law ((refine step_append_mid (v := .slice h0.a0 M0.rows.length h0.c0) (by rfl) _ _ 27 27 (by rfl) i0infoInt (.int .i64 0) 8 Tryz.underlying27 hiinfoInt hz0infoInt hz1infoInt hz2infoInt rfl (by rfl) HM9.out _ (by rfl) 1 _ HS9.out (by unfold maxLen; omega) (by omega) (Nat.zero_le _) ?_; intro a4 c4 w4 hmo hgo hbo; have q4 := HK0.out w4 hgo; have q5 := HK1.out w4 hgo; have HMO := Lib.hid hmo; have HGO := Lib.hid hgo; have HBO := Lib.hid hbo; clear hmo hgo hbo))
            all_goals
              go_wp2_with fail
              go_meet
              exact ⟨_, RAx.push0 HX0.out M0.lr (by first | rfl | simp [cCells, vCells]) HMO.out HGO.out HBO9.out (by simpa using HBO.out)⟩
          case rest =>
            obtain ⟨h1, hx⟩ := hcut
            obtain ⟨W1, hwc⟩ : ∃ W1 : World, W1 = wc := ⟨_, rfl⟩
            subst hwc
            obtain ⟨M1, hM⟩ : ∃ M1, M1 = { M0 with rows := M0.rows ++ [M0.lr] } := ⟨_, rfl⟩
            rw [← hM] at hx
            have HX1 := Lib.hid hx
            have HM1 := Lib.hid hM
            clear hx hM c0 f9 hsl9 hlen hfl HM9 HS9 HK0 HK1 HBO9 ax c6 ay6
            go_upto_region 10 with fail
            obtain ⟨G1, hq1, hg1, hk1⟩ := id HX1.out
            have c2 := RBx.c2 hq1
            have f9 := Box.free hq1 2
            have hsl9 := lt_of_block hq1.1
            have hlen := (RBx.sl2 hq1).lenI
            have hrm := Box.mid hq1 2 rfl
            have hfo := Box.foot hq1 2 rfl
            have HM9 := Lib.hid (show Mid (W1.alloc (.cells #[.int .i64 kd] 34)) 0 34 1 (.slice h1.a2 M1.kinds.length h1.c2) M1.kinds.length (M1.kinds.map IV) from hrm.alloc _)
            have HS9 := Lib.hid (show Src Tryz.prog 1 28 (.slice (some ⟨W1.heap.size, 0, none⟩) 1 1) 1 [.int .i64 kd] (W1.alloc (.cells #[.int .i64 kd] 34)) from (show Sl (W1.alloc (.cells #[.int .i64 kd] 34)) 1 _ 1 _ from Sl.lit W1 34 1 1 [.int .i64 kd] (by unfold maxLen; omega) rfl).src (P := Tryz.prog) Tryz.underlying28 (fun u hu => by
              simp only [List.mem_cons, List.not_mem_nil, or_false] at hu
              rcases hu with rfl; rfl))
            have hbo9 : Below W1.heap.size W1 (W1.alloc (.cells #[.int .i64 kd] 34)) := (Below.refl _ _).alloc (Nat.le_refl _) _
            have hkb : ∀ w4, (W1.alloc (.cells #[.int .i64 kd] 34)).grownBy w4 (Value.slice h1.a2 M1.kinds.length h1.c2).ownBlock → w4.heap[rb]? = W1.heap[rb]? := fun w4 hg => by
              refine (hg.block rb (by simp; omega) fun e => ?_).trans (hbo9.block rb hsl9)
              exact (hfo rb e.symm).2 rfl
            have HK0 := Lib.hid (fun w4 hg => (World.cell?_of_block (a := ⟨rb, 2, none⟩) (hkb w4 hg)).trans c2)
            have HK1 := Lib.hid (fun w4 hg => (World.frozen?_of_block (a := ⟨rb, 2, none⟩) (hkb w4 hg)).trans f9)
            have HBO9 := Lib.hid hbo9
            have ax : (W1.alloc (.cells #[.int .i64 kd] 34)).cell? ⟨rb, 2, none⟩ = some (.slice h1.a2 M1.kinds.length h1.c2) := (World.cell?_alloc_lt _ _ ⟨rb, 2, none⟩ hsl9).trans c2
            have hfl : M1.kinds.length ≤ 4096 := by rw [HM1.out, HM0.out]; have h1 := HW.out.rl; have h2 := HW.out.cl; have h3 := HW.out.kl; have h4 := HW.out.hl; have h5 := HW.out.ol; (try dsimp only); omega
            clear hq1 hg1 hk1 hrm hfo hkb hbo9
            go_cut [] (fun wx => ∃ h', RAx w1 rb H h' { M1 with kinds := M1.kinds ++ [kd] } wx)
            case first =>
              go_wp2_with (at_builtin; refine wpList_append_mid (v := .slice h1.a2 M1.kinds.length h1.c2) rfl _ _ 28 28 rfl i0infoKind (.int .i64 0) 8 Tryz.underlying28 hiinfoKind hz0infoKind hz1infoKind hz2infoKind rfl rfl HM9.out _ rfl 1 _ HS9.out (by unfold maxLen; omega) (by omega) (Nat.zero_le _) ?_; intro a4 c4 w4 hmo hgo hbo; have q4 := HK0.out w4 hgo; have q5 := HK1.out w4 hgo; have HMO := Lib.hid hmo; have HGO := Lib.hid hgo; have HBO := Lib.hid hbo; clear hmo hgo hbo)
              go_meet
              exact ⟨_, RAx.push2 HX1.out kd rfl HMO.out HGO.out HBO9.out (by simpa using HBO.out)⟩
            case rest =>
              obtain ⟨h2, hx⟩ := hcut
              obtain ⟨W2, hwc⟩ : ∃ W2 : World, W2 = wc := ⟨_, rfl⟩
              subst hwc
              obtain ⟨M2, hM⟩ : ∃ M2, M2 = { M1 with kinds := M1.kinds ++ [kd] } := ⟨_, rfl⟩
              rw [← hM] at hx
              have HX2 := Lib.hid hx
              have HM2 := Lib.hid hM
              clear hx hM c2 f9 hsl9 hlen hfl HM9 HS9 HK0 HK1 HBO9 ax 
              have hvl : w.heap.size < W2.heap.size := by obtain ⟨_, _, _, hk⟩ := HX2.out; have := hk.size; have := HVL.out; omega
              have v0 := (RAx.far HX2.out HVL.out HNV.out 0).1.trans V0.out
              have v1 := (RAx.far HX2.out HVL.out HNV.out 1).1.trans V1.out
              have av0 : (W2.alloc (.cells #[.int .i64 v.1, .int .i64 v.2] 97)).cell? ⟨w.heap.size, 0, none⟩ = some (.int .i64 v.1) := (World.cell?_alloc_lt _ _ ⟨w.heap.size, 0, none⟩ hvl).trans v0
              have av1 : (W2.alloc (.cells #[.int .i64 v.1, .int .i64 v.2] 97)).cell? ⟨w.heap.size, 1, none⟩ = some (.int .i64 v.2) := (World.cell?_alloc_lt _ _ ⟨w.heap.size, 1, none⟩ hvl).trans v1
              go_upto_region 11 with fail
              obtain ⟨G1, hq1, hg1, hk1⟩ := id HX2.out
              have c3 := RBx.c3 hq1
              have f9 := Box.free hq1 3
              have hsl9 := lt_of_block hq1.1
              have hlen := (RBx.sl3 hq1).lenI
              have hrm := Box.mid hq1 3 rfl
              have hfo := Box.foot hq1 3 rfl
              have HM9 := Lib.hid (show Mid ((W2.alloc (.cells #[.int .i64 v.1, .int .i64 v.2] 97)).drew) 0 97 2 (.slice h2.a3 M2.rhs.length h2.c3) M2.rhs.length (M2.rhs.flatMap vCells) from (hrm.alloc _).drew)
              have HS9 := Lib.hid (show Src Tryz.prog 2 29 (.slice (some ⟨W2.heap.size, 0, none⟩) 1 1) 1 [.int .i64 v.1, .int .i64 v.2] ((W2.alloc (.cells #[.int .i64 v.1, .int .i64 v.2] 97)).drew) from (show Sl ((W2.alloc (.cells #[.int .i64 v.1, .int .i64 v.2] 97)).drew) 2 _ 1 _ from Sl.lit W2 97 2 1 [.int .i64 v.1, .int .i64 v.2] (by unfold maxLen; omega) rfl).src (P := Tryz.prog) Tryz.underlying29 (fun u hu => by
                simp only [List.mem_cons, List.not_mem_nil, or_false] at hu
                rcases hu with rfl | rfl <;> rfl))
              have hbo9 : Below W2.heap.size W2 ((W2.alloc (.cells #[.int .i64 v.1, .int .i64 v.2] 97)).drew) := ((Below.refl _ _).alloc (Nat.le_refl _) _).drew
              have hkb : ∀ w4, ((W2.alloc (.cells #[.int .i64 v.1, .int .i64 v.2] 97)).drew).grownBy w4 (Value.slice h2.a3 M2.rhs.length h2.c3).ownBlock → w4.heap[rb]? = W2.heap[rb]? := fun w4 hg => by
                refine (hg.block rb (by simp; omega) fun e => ?_).trans (hbo9.block rb hsl9)
                exact (hfo rb e.symm).2 rfl
              have HK0 := Lib.hid (fun w4 hg => (World.cell?_of_block (a := ⟨rb, 3, none⟩) (hkb w4 hg)).trans c3)
              have HK1 := Lib.hid (fun w4 hg => (World.frozen?_of_block (a := ⟨rb, 3, none⟩) (hkb w4 hg)).trans f9)
              have HBO9 := Lib.hid hbo9
              have ax : (W2.alloc (.cells #[.int .i64 v.1, .int .i64 v.2] 97)).cell? ⟨rb, 3, none⟩ = some (.slice h2.a3 M2.rhs.length h2.c3) := (World.cell?_alloc_lt _ _ ⟨rb, 3, none⟩ hsl9).trans c3
              have hfl : M2.rhs.length ≤ 4096 := by rw [HM2.out, HM1.out, HM0.out]; have h1 := HW.out.rl; have h2 := HW.out.cl; have h3 := HW.out.kl; have h4 := HW.out.hl; have h5 := HW.out.ol; (try dsimp only); omega
              clear hq1 hg1 hk1 hrm hfo hkb hbo9
              go_cut [] (fun wx => ∃ h', RAx w1 rb H h' { M2 with rhs := M2.rhs ++ [v] } wx)
              case first =>
                go_region_law ((refine step_append_mid (v := .slice h2.a3 M2.rhs.length h2.c3) (by rfl) _ _ 29 29 (by rfl) i0infoVal (.agg #[.int .i64 0, .int .i64 0]) 16 Tryz.underlying29 hiinfoVal hz0infoVal hz1infoVal hz2infoVal rfl (by rfl) HM9.out _ (by rfl) 1 _ HS9.out (by unfold maxLen; omega) (by omega) (Nat.zero_le _) ?_; intro a4 c4 w4 hmo hgo hbo; have q4 := HK0.out w4 hgo; have q5 := HK1.out w4 hgo; have HMO := Lib.hid hmo; have HGO := Lib.hid hgo; have HBO := Lib.hid hbo; clear hmo hgo hbo))
                all_goals
                  go_wp2_with fail
                  go_meet
                  exact ⟨_, RAx.push3 HX2.out v (by first | rfl | simp [cCells, vCells]) HMO.out HGO.out HBO9.out (by simpa using HBO.out)⟩
              case rest =>
                obtain ⟨h3, hx⟩ := hcut
                obtain ⟨W3, hwc⟩ : ∃ W3 : World, W3 = wc := ⟨_, rfl⟩
                subst hwc
                obtain ⟨M3, hM⟩ : ∃ M3, M3 = { M2 with rhs := M2.rhs ++ [v] } := ⟨_, rfl⟩
                rw [← hM] at hx
                have HX3 := Lib.hid hx
                have HM3 := Lib.hid hM
                clear hx hM c3 f9 hsl9 hlen hfl HM9 HS9 HK0 HK1 HBO9 ax 
                clear hvl v0 v1 av0 av1
                go_wp2_with fail
                go_loopw [13] (fun iv wr => ∃ (k : Nat) (h' : RH), k ≤ es.length ∧ iv = .int .i64 k ∧ RAx w1 rb H h' { M3 with cells := M3.cells ++ (es.take k).map (fun e : Int × Int × Int => (⟨M3.lr, e.1, e.2⟩ : RC)) } wr) (fun iv _ => es.length - (intOf iv).toNat)
                case atStart => exact ⟨0, h3, Nat.zero_le _, rfl, by rw [List.take_zero, List.map_nil, List.append_nil]; exact HX3.out⟩
                case round =>
                  obtain ⟨k, h4, hkl, rfl, hx⟩ := hrel
                  obtain ⟨M4, hM⟩ : ∃ M4, M4 = { M3 with cells := M3.cells ++ (es.take k).map (fun e : Int × Int × Int => (⟨M3.lr, e.1, e.2⟩ : RC)) } := ⟨_, rfl⟩
                  rw [← hM] at hx
                  have hk4 : Keeps w1 wr H := by obtain ⟨_, _, _, h⟩ := hx; exact h
                  have HX4 := Lib.hid hx
                  have HM4 := Lib.hid hM
                  clear hx hM
                  by_cases hlt : k < es.length
                  · obtain ⟨b1, o1, e1, hbl1, k0⟩ := int_get (mid_stays HIDS1.out hk4 HD1.out) k (by simpa using hlt) hlt
                    obtain ⟨b2, o2, e2, hbl2, k1, k2⟩ := pair_get (mid_stays HVS1.out hk4 HD2.out) k (by simpa using hlt) hlt
                    simp only [List.getElem_map] at k0 k1 k2
                    obtain ⟨⟨xi, xp, xd⟩, hx⟩ : ∃ x, es[k] = x := ⟨_, rfl⟩
                    rw [hx] at k0 k1 k2
                    dsimp only at k0 k1 k2
                    have hE : ({ M4 with cells := M4.cells ++ [(⟨M4.lr, xi, (xp, xd)⟩ : RC)] } : RM) = { M3 with cells := M3.cells ++ (es.take (k + 1)).map (fun e : Int × Int × Int => (⟨M3.lr, e.1, e.2⟩ : RC)) } := by
                      rw [HM4.out, List.take_succ_eq_append_getElem hlt, List.map_append, hx]; simp only [List.append_assoc]; rfl
                    have HE9 := Lib.hid hE
                    have hml : M4.cells.length ≤ 1000000000000 := by
                      have h1 := HCL.out
                      rw [HM4.out, HM3.out, HM2.out, HM1.out, HM0.out]
                      simp
                      omega
                    subst e1 e2
                    have l1 := (Sl.ofMid HIDS1.out).lenI
                    have l2 := (Sl.ofMid HVS1.out).lenI
                    have ii0 : (0 : Int) ≤ (k : Int) := by omega
                    have ii1 : (k : Int) < (es.length : Int) := by omega
                    have ak0 : (wr.alloc (.cells #[.int .i64 M4.lr, .int .i64 xi, .int .i64 xp, .int .i64 xd] 148)).cell? ⟨b1, o1 + k, none⟩ = some (.int .i64 xi) := (World.cell?_alloc_lt _ _ ⟨b1, o1 + k, none⟩ hbl1).trans k0
                    have ak1 : (wr.alloc (.cells #[.int .i64 M4.lr, .int .i64 xi, .int .i64 xp, .int .i64 xd] 148)).cell? ⟨b2, o2 + k * 2, none⟩ = some (.int .i64 xp) := (World.cell?_alloc_lt _ _ ⟨b2, o2 + k * 2, none⟩ hbl2).trans k1
                    have ak2 : (wr.alloc (.cells #[.int .i64 M4.lr, .int .i64 xi, .int .i64 xp, .int .i64 xd] 148)).cell? ⟨b2, o2 + k * 2 + 1, none⟩ = some (.int .i64 xd) := (World.cell?_alloc_lt _ _ ⟨b2, o2 + k * 2 + 1, none⟩ hbl2).trans k2
                    clear hE hx hk4
                    go_upto_region 15 with fail
                    obtain ⟨G1, hq1, hg1, hk1⟩ := id HX4.out
                    have c5 := RBx.c5 hq1
                    have f9 := Box.free hq1 5
                    have hsl9 := lt_of_block hq1.1
                    have hlen := (RBx.sl5 hq1).lenI
                    have hrm := Box.mid hq1 5 rfl
                    have hfo := Box.foot hq1 5 rfl
                    have HM9 := Lib.hid (show Mid ((wr.alloc (.cells #[.int .i64 M4.lr, .int .i64 xi, .int .i64 xp, .int .i64 xd] 148)).drew) 0 148 4 (.slice h4.a5 M4.cells.length h4.c5) M4.cells.length (M4.cells.flatMap cCells) from (hrm.alloc _).drew)
                    have HS9 := Lib.hid (show Src Tryz.prog 4 30 (.slice (some ⟨wr.heap.size, 0, none⟩) 1 1) 1 [.int .i64 M4.lr, .int .i64 xi, .int .i64 xp, .int .i64 xd] ((wr.alloc (.cells #[.int .i64 M4.lr, .int .i64 xi, .int .i64 xp, .int .i64 xd] 148)).drew) from (show Sl ((wr.alloc (.cells #[.int .i64 M4.lr, .int .i64 xi, .int .i64 xp, .int .i64 xd] 148)).drew) 4 _ 1 _ from Sl.lit wr 148 4 1 [.int .i64 M4.lr, .int .i64 xi, .int .i64 xp, .int .i64 xd] (by unfold maxLen; omega) rfl).src (P := Tryz.prog) Tryz.underlying30 (fun u hu => by
                      simp only [List.mem_cons, List.not_mem_nil, or_false] at hu
                      rcases hu with rfl | rfl | rfl | rfl <;> rfl))
                    have hbo9 : Below wr.heap.size wr ((wr.alloc (.cells #[.int .i64 M4.lr, .int .i64 xi, .int .i64 xp, .int .i64 xd] 148)).drew) := ((Below.refl _ _).alloc (Nat.le_refl _) _).drew
                    have hkb : ∀ w4, ((wr.alloc (.cells #[.int .i64 M4.lr, .int .i64 xi, .int .i64 xp, .int .i64 xd] 148)).drew).grownBy w4 (Value.slice h4.a5 M4.cells.length h4.c5).ownBlock → w4.heap[rb]? = wr.heap[rb]? := fun w4 hg => by
                      refine (hg.block rb (by simp; omega) fun e => ?_).trans (hbo9.block rb hsl9)
                      exact (hfo rb e.symm).2 rfl
                    have HK0 := Lib.hid (fun w4 hg => (World.cell?_of_block (a := ⟨rb, 5, none⟩) (hkb w4 hg)).trans c5)
                    have HK1 := Lib.hid (fun w4 hg => (World.frozen?_of_block (a := ⟨rb, 5, none⟩) (hkb w4 hg)).trans f9)
                    have HBO9 := Lib.hid hbo9
                    have ax : (wr.alloc (.cells #[.int .i64 M4.lr, .int .i64 xi, .int .i64 xp, .int .i64 xd] 148)).cell? ⟨rb, 5, none⟩ = some (.slice h4.a5 M4.cells.length h4.c5) := (World.cell?_alloc_lt _ _ ⟨rb, 5, none⟩ hsl9).trans c5
                    have c6 := RBx.c6 hq1
                    have ay6 : (wr.alloc (.cells #[.int .i64 M4.lr, .int .i64 xi, .int .i64 xp, .int .i64 xd] 148)).cell? ⟨rb, 6, none⟩ = some (.int .i64 M4.lr) := (World.cell?_alloc_lt _ _ ⟨rb, 6, none⟩ hsl9).trans c6
                    clear hq1 hg1 hk1 hrm hfo hkb hbo9

                    go_region_law ((refine step_append_mid (v := .slice h4.a5 M4.cells.length h4.c5) (by rfl) _ _ 30 30 (by rfl) i0infoCell (.agg #[.int .i64 0, .int .i64 0, .int .i64 0, .int .i64 0]) 32 Tryz.underlying30 hiinfoCell hz0infoCell hz1infoCell hz2infoCell rfl (by rfl) HM9.out _ (by rfl) 1 _ HS9.out (by unfold maxLen; omega) (by omega) (Nat.zero_le _) ?_; intro a4 c4 w4 hmo hgo hbo; have q4 := HK0.out w4 hgo; have q5 := HK1.out w4 hgo; have HMO := Lib.hid hmo; have HGO := Lib.hid hgo; have HBO := Lib.hid hbo; clear hmo hgo hbo))
                    all_goals
                      go_wp2_with fail
                      go_roundw
                      case rel =>
                        refine ⟨k + 1, { h4 with a5 := a4, c5 := c4 }, by omega, by go_num, ?_⟩
                        have e := RAx.push5 HX4.out (⟨M4.lr, xi, (xp, xd)⟩ : RC) (by rfl) HMO.out HGO.out HBO9.out (by simpa using HBO.out)
                        rw [HE9.out] at e
                        exact e
                      case measure => simp [intOf]; omega
                  · obtain rfl : k = es.length := by omega
                    have r0 := (RAx.far HX4.out HZ1.out HNZ.out 0).1.trans R0.out
                    have r1 := (RAx.far HX4.out HZ1.out HNZ.out 1).1.trans R1.out
                    have r2 := (RAx.far HX4.out HZ1.out HNZ.out 2).1.trans R2.out
                    have f0 := (RAx.far HX4.out HZ1.out HNZ.out 0).2.trans F0.out
                    have f1 := (RAx.far HX4.out HZ1.out HNZ.out 1).2.trans F1.out
                    have f2 := (RAx.far HX4.out HZ1.out HNZ.out 2).2.trans F2.out
                    have c6 : wr.cell? ⟨rb, 6, none⟩ = some (.int .i64 M4.lr) := by obtain ⟨_, h9, _⟩ := HX4.out; exact RBx.c6 h9
                    have HE := Lib.hid (show m.addRow kd v es = ((M4.lr, noF), M4) by
                      unfold RM.addRow
                      rw [if_neg hk, if_neg HKL.out, HKE.out]
                      dsimp only
                      rw [HM4.out, HM3.out, HM2.out, HM1.out, HM0.out, List.take_length])
                    clear hk4 hlt
                    go_wp2_with fail
                    refine bodyPost_ret (v := .tuple #[.int .i64 M4.lr, .agg #[.int .i64 0, .string ⟨#[]⟩, .int .i64 0]]) (by simp [results, Tryz.results40, go_sem, r0, r1, r2]) rfl ?_
                    rw [HE.out]
                    refine ⟨rfl, ?_⟩
                    exact RAct.fin HB6.out (Box.lt HQ.out) HX4.out (by omega) HZ1.out (set3 _ _ _ _ _)
end Go.Proofs.YtaehklhbokocbaaGreatDoor
