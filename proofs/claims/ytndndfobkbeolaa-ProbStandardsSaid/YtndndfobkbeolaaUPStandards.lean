/-
  The walk of ProbStandards; the conditions: a small problem is handed in.
  Printed by a program of this repository (wip/pu8.py).
-/
import Derived.Test.YtndndfobkbeolaaUU
import Derived.Test.YtndndfobkbeolaaUK
import Derived.Test.YtndndfobkbeolaaUV
import Derived.Test.YtndndfobkbeolaaUM
import Derived.Test.YtndndfobkbeolaaUC
import Derived.Test.YtndndfobkbeolaaUO
set_option linter.unusedVariables false
set_option linter.unusedSimpArgs false
namespace Go.Proofs.Ytndndfobkbeolaa
open Go.RowKit Go.Extern.Stop Go.Stop Go.Extern
theorem fieldRP (a b : Option Addr) (n c m d : Nat) (W : World) : (Instr.field 79 (.agg #[.slice a n c, .slice b m d]) 1).run Try.prog W = .ok (.slice b m d) W := by kernel_rfl
set_option maxRecDepth 100000 in
set_option maxHeartbeats 32000000 in
theorem probStandards_any (cols c0 c1 c2 : Int) (sa : Option Addr) (sn sc : Nat) (rows : List SRow) (w : World) (h : SmW w cols c0 c1 c2 sa sn sc rows) :
    Calls Try.prog 5 #[.agg #[.int .u8 cols, .int .i8 c0, .int .i8 c1, .int .i8 c2, .slice sa sn sc]] w fun e w' => e = .returned (.bool true) ∧ Below w.heap.size w w' := by
  obtain ⟨n, hn⟩ : ∃ n : Nat, (n : Int) = cols % 4 := ⟨(cols % 4).toNat, by have := h.cols; omega⟩
  obtain ⟨m, hm⟩ : ∃ m, m = min sn 3 := ⟨_, rfl⟩
  have hml : ((rows.take m).map (oneRow n)).length = m := by rw [List.length_map, List.length_take, h.len]; omega
  have hm3 : m ≤ 3 := by omega
  have hn3 : n ≤ 3 := by omega
  have HSA := Lib.hid (fun (W : World) (hb : Below w.heap.size w W) => same_any cols c0 c1 c2 sa sn sc rows n m W (h.below hb) hn hm)
  have HON := Lib.hid (fun (W : World) (hb : Below w.heap.size w W) => one_any cols c0 c1 c2 sa sn sc rows n m W (h.below hb) hn hm)
  have HCO := Lib.hid (show ∀ x, x ∈ oneCost c0 c1 c2 n → I64 x from fun y hy => by
    obtain ⟨j, _, rfl⟩ := List.mem_map.1 hy
    exact m10_I64 _)
  have HRO := Lib.hid (show ∀ x, x ∈ (rows.take m).map (oneRow n) → ((∀ y, y ∈ x.1 → I64 y) ∧ I64 x.2.1 ∧ I64 x.2.2) ∧ x.1.length = n ∧ 1 ≤ x.2.1 ∧ x.2.1 ≤ 3 from fun x hx => by
    obtain ⟨y, _, rfl⟩ := List.mem_map.1 hx
    refine ⟨oneRow_ok n y, oneCoef_len y n, ?_, ?_⟩ <;> (show _ ≤ _; unfold oneRow oneKind; simp only []; omega))
  have HLC := Lib.hid (oneCost_len c0 c1 c2 n)
  generalize oneCost c0 c1 c2 n = cost at HSA HON HCO HLC
  generalize (rows.take m).map (oneRow n) = q at HSA HON HRO hml
  have HML := Lib.hid hml
  obtain ⟨w1, hw1⟩ : ∃ w1, w.alloc (.cells #[.int .u8 cols, .int .i8 c0, .int .i8 c1, .int .i8 c2, .slice sa sn sc] 71) = w1 := ⟨_, rfl⟩
  obtain ⟨sb, hsb⟩ : ∃ sb, w.heap.size = sb := ⟨_, rfl⟩
  have h1 := heap_alloc_new w (.cells #[.int .u8 cols, .int .i8 c0, .int .i8 c1, .int .i8 c2, .slice sa sn sc] 71)
  have hb1 := belowBox w (.cells #[.int .u8 cols, .int .i8 c0, .int .i8 c1, .int .i8 c2, .slice sa sn sc] 71)
  rw [hw1] at h1 hb1
  rw [hsb] at h1
  have HSB := Lib.hid h1
  have HB := Lib.hid hb1
  have HW1 := Lib.hid hw1
  have HSE := Lib.hid hsb
  clear h hn hm hml h1 hb1 hw1 hsb
  go_enter Try.func5, Try.ntmps5
  go_upto_region 1 with fail
  (try simp only [HW1.out])
  (try simp only [HSE.out])
  clear HW1 HSE
  go_wp2_with fail
  refine (awake_any w1).mono ?_
  rintro e w2 ⟨rfl, hb⟩
  replace HSB := Lib.hid ((hb.block sb (lt_of_block HSB.out)).trans HSB.out)
  replace HB := Lib.hid (bthen HB.out hb)
  clear hb
  have q0 := cell_of_block (j := 0) HSB.out rfl
  have q1 := cell_of_block (j := 1) HSB.out rfl
  have q2 := cell_of_block (j := 2) HSB.out rfl
  have q3 := cell_of_block (j := 3) HSB.out rfl
  have q4 := cell_of_block (j := 4) HSB.out rfl
  go_wp2_with fail
  clear q0 q1 q2 q3 q4
  refine (HSA.out w2 HB.out).mono ?_
  rintro e w3 ⟨xa, xc, ya, yc, vs, prs, rfl, hp, hvs, hrs⟩
  rw [HML.out] at hp ⊢
  have hb := hp.bel
  replace HSB := Lib.hid ((hb.block sb (lt_of_block HSB.out)).trans HSB.out)
  replace HB := Lib.hid (bthen HB.out hb)
  have HP := Lib.hid hp
  have HVS := Lib.hid hvs
  have HRS := Lib.hid hrs
  clear hb hp hvs hrs HSA
  have HMF := Lib.hid (show mayF n prs = noF from mayF_right (by omega) (by rw [HP.out.len]; omega) fun r hr => by
    have h1 := (HP.out.ok r hr).1.len
    have h2 : prowQ r ∈ q.map toQ := by rw [← HRS.out]; exact List.mem_map.2 ⟨r, hr, rfl⟩
    obtain ⟨x, hx, hxe⟩ := List.mem_map.1 h2
    obtain ⟨_, h3, h4, h5⟩ := HRO.out x hx
    have h6 : ofI x.1 = qs r.coef := congrArg (fun z : List Rat × Int × Rat => z.1) hxe
    have h7 : x.2.1 = r.kind := congrArg (fun z : List Rat × Int × Rat => z.2.1) hxe
    have h8 := congrArg List.length h6
    rw [ofI_lenQ, qs_len] at h8
    omega)
  go_wp2_with fail
  refine (standard_ok xa n xc ya m yc vs prs w3 HP.out.prw HMF.out).mono ?_
  rintro e w4 ⟨ma, mc, cl, ba, bc, ca, cc, la, lc, ms, bs, cs, ls, rfl, hsw, his, hb⟩
  replace HSB := Lib.hid ((hb.block sb (lt_of_block HSB.out)).trans HSB.out)
  replace HB := Lib.hid (bthen HB.out hb)
  rw [HVS.out] at his
  have hlaw := std_law (fun x hx => (HRO.out x hx).2) HLC.out HML.out HRS.out his
  have HLAW := Lib.hid hlaw
  have HSW := Lib.hid hsw
  clear hb hsw his hlaw HP HVS HRS HMF
  unfold StdV
  go_upto_region 4 with fail
  have HXB := Lib.hid (heap_alloc_new w4 (.cells #[.slice ma m mc, .int .i64 cl, .slice ba m bc, .slice ca cl cc, .int .i64 n, .slice la m lc] 59))
  have hb := belowBox w4 (.cells #[.slice ma m mc, .int .i64 cl, .slice ba m bc, .slice ca cl cc, .int .i64 n, .slice la m lc] 59)
  replace HSB := Lib.hid ((hb.block sb (lt_of_block HSB.out)).trans HSB.out)
  replace HB := Lib.hid (bthen HB.out hb)
  replace HSW := Lib.hid (HSW.out.below hb)
  clear hb
  generalize w4.heap.size = xb at HXB ⊢
  generalize w4.alloc (.cells #[.slice ma m mc, .int .i64 cl, .slice ba m bc, .slice ca cl cc, .int .i64 n, .slice la m lc] 59) = w5 at HXB HSB HB HSW ⊢
  have q0 := cell_of_block (j := 0) HSB.out rfl
  have q1 := cell_of_block (j := 1) HSB.out rfl
  have q2 := cell_of_block (j := 2) HSB.out rfl
  have q3 := cell_of_block (j := 3) HSB.out rfl
  have q4 := cell_of_block (j := 4) HSB.out rfl
  go_wp2_with fail
  clear q0 q1 q2 q3 q4
  refine (HON.out w5 HB.out).mono ?_
  rintro e w6 ⟨ua, uc, ta, tc, rs, rfl, hqb, hmq⟩
  rw [HML.out] at hqb ⊢
  have hb := hqb.bel
  replace HSB := Lib.hid ((hb.block sb (lt_of_block HSB.out)).trans HSB.out)
  replace HXB := Lib.hid ((hb.block xb (lt_of_block HXB.out)).trans HXB.out)
  replace HB := Lib.hid (bthen HB.out hb)
  replace HSW := Lib.hid (HSW.out.below hb)
  have HQB := Lib.hid hqb
  have HMQ := Lib.hid hmq
  clear hb hqb hmq
  go_wp2_with fail
  refine (std_any w5 ua n uc ta m tc cost rs w6 HQB.out hn3 hm3 (fun r hr => by
    have h1 := (HRO.out (rrowQ r) (by rw [← HMQ.out]; exact List.mem_map.2 ⟨r, hr, rfl⟩)).2
    exact h1)).mono ?_
  rw [HMQ.out]
  rintro e w7 ⟨aa, ac, b2, bd, c3, cn, cd, As, rfl, how, hmid, hxs, hb⟩
  obtain rfl : cn = cl := by
    have h1 := HLAW.out.1
    have h2 : (tabC cost q m).length = cn := (how.ib ⟨tabC cost q m, c3, cn, cd⟩ (by simp)).len
    omega
  replace HSB := Lib.hid ((hb.block sb (lt_of_block HSB.out)).trans HSB.out)
  replace HXB := Lib.hid ((hb.block xb (lt_of_block HXB.out)).trans HXB.out)
  replace HB := Lib.hid (bthen HB.out hb)
  replace HSW := Lib.hid (HSW.out.below hb)
  have HOW := Lib.hid how
  have HMI := Lib.hid hmid
  have HXS := Lib.hid hxs
  clear hb how hmid hxs HQB HMQ
  go_upto_region 5 with fail
  have HYB := Lib.hid (heap_alloc_new w7 (.cells #[.slice aa m ac, .slice b2 m bd, .slice c3 cn cd, .int .i64 n] 75))
  have hb := belowBox w7 (.cells #[.slice aa m ac, .slice b2 m bd, .slice c3 cn cd, .int .i64 n] 75)
  replace HSB := Lib.hid ((hb.block sb (lt_of_block HSB.out)).trans HSB.out)
  replace HXB := Lib.hid ((hb.block xb (lt_of_block HXB.out)).trans HXB.out)
  replace HB := Lib.hid (bthen HB.out hb)
  replace HSW := Lib.hid (HSW.out.below hb)
  replace HOW := Lib.hid (HOW.out.call hb)
  replace HMI := Lib.hid (mid_under HMI.out hb)
  clear hb
  generalize w7.heap.size = yb at HYB ⊢
  generalize w7.alloc (.cells #[.slice aa m ac, .slice b2 m bd, .slice c3 cn cd, .int .i64 n] 75) = w7 at HYB HXB HSB HB HSW HOW HMI ⊢
  have HBR := Lib.hid (Below.refl w7.heap.size w7)
  refine wp_region_held_drew (S := fun W => W.cell? ⟨xb, 0, none⟩ = some (.slice ma m mc) ∧ W.cell? ⟨xb, 1, none⟩ = some (.int .i64 cn) ∧ W.cell? ⟨xb, 2, none⟩ = some (.slice ba m bc) ∧ W.cell? ⟨xb, 3, none⟩ = some (.slice ca cn cc) ∧ W.cell? ⟨xb, 4, none⟩ = some (.int .i64 n) ∧ W.cell? ⟨xb, 5, none⟩ = some (.slice la m lc) ∧ W.cell? ⟨yb, 0, none⟩ = some (.slice aa m ac) ∧ W.cell? ⟨yb, 1, none⟩ = some (.slice b2 m bd) ∧ W.cell? ⟨yb, 2, none⟩ = some (.slice c3 cn cd) ∧ W.cell? ⟨yb, 3, none⟩ = some (.int .i64 n)) (by kernel_rfl) (⟨cell_of_block (j := 0) HXB.out rfl, cell_of_block (j := 1) HXB.out rfl, cell_of_block (j := 2) HXB.out rfl, cell_of_block (j := 3) HXB.out rfl, cell_of_block (j := 4) HXB.out rfl, cell_of_block (j := 5) HXB.out rfl, cell_of_block (j := 0) HYB.out rfl, cell_of_block (j := 1) HYB.out rfl, cell_of_block (j := 2) HYB.out rfl, cell_of_block (j := 3) HYB.out rfl⟩) (fun hHeld => ?_)
  have hb : Below w7.heap.size w7 w7.drew := Below.drawn w7 1
  replace HXB := Lib.hid ((hb.block xb (lt_of_block HXB.out)).trans HXB.out)
  replace HYB := Lib.hid ((hb.block yb (lt_of_block HYB.out)).trans HYB.out)
  replace HBR := Lib.hid (bthen HBR.out hb)
  clear hb
  generalize w7.drew = wd at HXB HYB HBR hHeld ⊢
  refine tk 0 (some 21) (v := ?_) rfl rfl ?_ ?_
  rotate_left
  · (intro w _; go_simp; (try with_reducible rfl))
  simp only [Act.put, stB, stZ, stS]
  refine tk 1 (some 22) (v := ?_) rfl rfl ?_ ?_
  rotate_left
  · (intro w _; go_simp; (try with_reducible rfl))
  simp only [Act.put, stB, stZ, stS]
  refine tk 2 (some 23) (v := ?_) rfl rfl ?_ ?_
  rotate_left
  · (intro w _; go_simp; (try with_reducible rfl))
  simp only [Act.put, stB, stZ, stS]
  refine tk 3 (some 24) (v := ?_) rfl rfl ?_ ?_
  rotate_left
  · (intro w _; go_simp; (try with_reducible rfl))
  simp only [Act.put, stB, stZ, stS]
  refine tk 4 (some 25) (v := ?_) rfl rfl ?_ ?_
  rotate_left
  · (intro w hSw; (try dsimp only at hSw); ((try obtain ⟨hS0, hS1, hS2, hS3, hS4, hS5, hS6, hS7, hS8, hS9⟩ := hSw); go_simp); (try with_reducible rfl))
  simp only [Act.put, stB, stZ, stS]
  refine tk 5 (some 26) (v := ?_) rfl rfl ?_ ?_
  rotate_left
  · (intro w _; go_simp; (try with_reducible rfl))
  simp only [Act.put, stB, stZ, stS]
  refine tk 6 (some 27) (v := ?_) rfl rfl ?_ ?_
  rotate_left
  · (intro w hSw; (try dsimp only at hSw); ((try obtain ⟨hS0, hS1, hS2, hS3, hS4, hS5, hS6, hS7, hS8, hS9⟩ := hSw); go_simp); (try with_reducible rfl))
  simp only [Act.put, stB, stZ, stS]
  refine tk 7 (some 28) (v := ?_) rfl rfl ?_ ?_
  rotate_left
  · (intro w _; go_simp; (try with_reducible rfl))
  simp only [Act.put, stB, stZ, stS]
  refine tk 8 (some 29) (v := ?_) rfl rfl ?_ ?_
  rotate_left
  · (intro w _; go_simp; (try with_reducible rfl))
  simp only [Act.put, stB, stZ, stS]
  refine tk 9 (some 30) (v := ?_) rfl rfl ?_ ?_
  rotate_left
  · (intro w _; go_simp; (try with_reducible rfl))
  simp only [Act.put, stB, stZ, stS]
  refine tk 10 (some 31) (v := ?_) rfl rfl ?_ ?_
  rotate_left
  · (intro w _; go_simp; (try with_reducible rfl))
  simp only [Act.put, stB, stZ, stS]
  refine tk 11 (some 32) (v := ?_) rfl rfl ?_ ?_
  rotate_left
  · (intro w hSw; (try dsimp only at hSw); ((try obtain ⟨hS0, hS1, hS2, hS3, hS4, hS5, hS6, hS7, hS8, hS9⟩ := hSw); go_simp); (try with_reducible rfl))
  simp only [Act.put, stB, stZ, stS]
  refine tk 12 (some 33) (v := ?_) rfl rfl ?_ ?_
  rotate_left
  · (intro w _; go_simp; (try with_reducible rfl))
  simp only [Act.put, stB, stZ, stS]
  refine tk 13 (some 34) (v := ?_) rfl rfl ?_ ?_
  rotate_left
  · (intro w _; go_simp; (try with_reducible rfl))
  simp only [Act.put, stB, stZ, stS]
  refine tk 14 (some 35) (v := ?_) rfl rfl ?_ ?_
  rotate_left
  · (intro w hSw; (try dsimp only at hSw); ((try obtain ⟨hS0, hS1, hS2, hS3, hS4, hS5, hS6, hS7, hS8, hS9⟩ := hSw); go_simp); (try with_reducible rfl))
  simp only [Act.put, stB, stZ, stS]
  refine tk 15 (some 36) (v := ?_) rfl rfl ?_ ?_
  rotate_left
  · (intro w _; go_simp; (try with_reducible rfl))
  simp only [Act.put, stB, stZ, stS]
  refine tk 16 (some 37) (v := ?_) rfl rfl ?_ ?_
  rotate_left
  · (intro w _; go_simp; (try with_reducible rfl))
  simp only [Act.put, stB, stZ, stS]
  refine tk 17 (some 38) (v := ?_) rfl rfl ?_ ?_
  rotate_left
  · (intro w _; go_simp; (try with_reducible rfl))
  simp only [Act.put, stB, stZ, stS]
  refine tk 18 (some 39) (v := ?_) rfl rfl ?_ ?_
  rotate_left
  · (intro w _; go_simp; (try with_reducible rfl))
  simp only [Act.put, stB, stZ, stS]
  refine tk 19 (some 40) (v := ?_) rfl rfl ?_ ?_
  rotate_left
  · (intro w _; go_simp; (try with_reducible rfl))
  simp only [Act.put, stB, stZ, stS]
  refine tk 20 (some 41) (v := ?_) rfl rfl ?_ ?_
  rotate_left
  · (intro w hSw; (try dsimp only at hSw); ((try obtain ⟨hS0, hS1, hS2, hS3, hS4, hS5, hS6, hS7, hS8, hS9⟩ := hSw); go_simp); (try with_reducible rfl))
  simp only [Act.put, stB, stZ, stS]
  refine tk 21 (some 42) (v := ?_) rfl rfl ?_ ?_
  rotate_left
  · (intro w _; go_simp; (try with_reducible rfl))
  simp only [Act.put, stB, stZ, stS]
  refine tk 22 (some 43) (v := ?_) rfl rfl ?_ ?_
  rotate_left
  · (intro w _; go_simp; (try with_reducible rfl))
  simp only [Act.put, stB, stZ, stS]
  refine tk 23 (some 44) (v := ?_) rfl rfl ?_ ?_
  rotate_left
  · (intro w hSw; (try dsimp only at hSw); ((try obtain ⟨hS0, hS1, hS2, hS3, hS4, hS5, hS6, hS7, hS8, hS9⟩ := hSw); go_simp); (try with_reducible rfl))
  simp only [Act.put, stB, stZ, stS]
  refine tk 24 (some 45) (v := ?_) rfl rfl ?_ ?_
  rotate_left
  · (intro w _; go_simp; (try with_reducible rfl))
  simp only [Act.put, stB, stZ, stS]
  refine tk 25 (some 46) (v := ?_) rfl rfl ?_ ?_
  rotate_left
  · (intro w _; go_simp; (try with_reducible rfl))
  simp only [Act.put, stB, stZ, stS]
  refine tk 26 (some 47) (v := ?_) rfl rfl ?_ ?_
  rotate_left
  · (intro w _; go_simp; (try with_reducible rfl))
  simp only [Act.put, stB, stZ, stS]
  refine tk 27 (some 48) (v := ?_) rfl rfl ?_ ?_
  rotate_left
  · (intro w _; go_simp; (try with_reducible rfl))
  simp only [Act.put, stB, stZ, stS]
  refine tk 28 (some 49) (v := ?_) rfl rfl ?_ ?_
  rotate_left
  · (intro w _; go_simp; (try with_reducible rfl))
  simp only [Act.put, stB, stZ, stS]
  refine tk 29 (some 50) (v := ?_) rfl rfl ?_ ?_
  rotate_left
  · (intro w hSw; (try dsimp only at hSw); ((try obtain ⟨hS0, hS1, hS2, hS3, hS4, hS5, hS6, hS7, hS8, hS9⟩ := hSw); go_simp); (try with_reducible rfl))
  simp only [Act.put, stB, stZ, stS]
  refine tk 31 (some 52) (v := ?_) rfl rfl ?_ ?_
  rotate_left
  · (intro w _; go_simp; (try with_reducible rfl))
  simp only [Act.put, stB, stZ, stS]
  refine tk 32 (some 53) (v := ?_) rfl rfl ?_ ?_
  rotate_left
  · (intro w hSw; (try dsimp only at hSw); ((try obtain ⟨hS0, hS1, hS2, hS3, hS4, hS5, hS6, hS7, hS8, hS9⟩ := hSw); go_simp); (try with_reducible rfl))
  simp only [Act.put, stB, stZ, stS]
  refine tk 33 (some 54) (v := ?_) rfl rfl ?_ ?_
  rotate_left
  · (intro w _; go_simp; (try with_reducible rfl))
  simp only [Act.put, stB, stZ, stS]
  refine wpAnyH_ready (rs := [30]) (by kernel_rfl) (by simp) ?_
  refine (AllReadyH.cons (o := { dst := some 51, op := Op.call { callee := Callee.value (Operand.func 28), args := #[Operand.tmp 50], argTypes := #[56] }, type := 3, pos := "law.go:107", after := #[{ on := 29, ground := Ground.data }, { on := 27, ground := Ground.chain }, { on := 27, ground := Ground.guard }], guard := some (27, false) }) rfl (fun K hK => ?_) AllReadyH.nil)
  go_simp
  refine (mrows_any ma m mc cn wd (by unfold maxLen; omega)).mono ?_
  rintro e V1 ⟨rfl, hb⟩
  replace HXB := Lib.hid ((hb.block xb (lt_of_block HXB.out)).trans HXB.out)
  replace HYB := Lib.hid ((hb.block yb (lt_of_block HYB.out)).trans HYB.out)
  replace HBR := Lib.hid (bthen HBR.out hb)
  clear hb
  have hKK : (fun W => W.cell? ⟨xb, 0, none⟩ = some (.slice ma m mc) ∧ W.cell? ⟨xb, 1, none⟩ = some (.int .i64 cn) ∧ W.cell? ⟨xb, 2, none⟩ = some (.slice ba m bc) ∧ W.cell? ⟨xb, 3, none⟩ = some (.slice ca cn cc) ∧ W.cell? ⟨xb, 4, none⟩ = some (.int .i64 n) ∧ W.cell? ⟨xb, 5, none⟩ = some (.slice la m lc) ∧ W.cell? ⟨yb, 0, none⟩ = some (.slice aa m ac) ∧ W.cell? ⟨yb, 1, none⟩ = some (.slice b2 m bd) ∧ W.cell? ⟨yb, 2, none⟩ = some (.slice c3 cn cd) ∧ W.cell? ⟨yb, 3, none⟩ = some (.int .i64 n)) V1 := ⟨cell_of_block (j := 0) HXB.out rfl, cell_of_block (j := 1) HXB.out rfl, cell_of_block (j := 2) HXB.out rfl, cell_of_block (j := 3) HXB.out rfl, cell_of_block (j := 4) HXB.out rfl, cell_of_block (j := 5) HXB.out rfl, cell_of_block (j := 0) HYB.out rfl, cell_of_block (j := 1) HYB.out rfl, cell_of_block (j := 2) HYB.out rfl, cell_of_block (j := 3) HYB.out rfl⟩
  refine hK.out _ _ (hKK) (fun hHeld2 => ?_)
  clear hK K hHeld
  rename _ => hHeld
  try simp only [Act.put, stB, stZ, stS]
  refine tk 34 (some 55) (v := ?_) rfl rfl ?_ ?_
  rotate_left
  · (intro w _; go_simp; (try with_reducible rfl))
  simp only [Act.put, stB, stZ, stS]
  refine tk 35 (some 56) (v := ?_) rfl rfl ?_ ?_
  rotate_left
  · (intro w _; go_simp; (try with_reducible rfl))
  simp only [Act.put, stB, stZ, stS]
  refine tk 36 (some 57) (v := ?_) rfl rfl ?_ ?_
  rotate_left
  · (intro w _; go_simp; (try with_reducible rfl))
  simp only [Act.put, stB, stZ, stS]
  refine tk 37 (some 58) (v := ?_) rfl rfl ?_ ?_
  rotate_left
  · (intro w _; go_simp; (try with_reducible rfl))
  simp only [Act.put, stB, stZ, stS]
  refine tk 38 (some 59) (v := ?_) rfl rfl ?_ ?_
  rotate_left
  · (intro w hSw; (try dsimp only at hSw); ((try obtain ⟨hS0, hS1, hS2, hS3, hS4, hS5, hS6, hS7, hS8, hS9⟩ := hSw); go_simp); (try with_reducible rfl))
  simp only [Act.put, stB, stZ, stS]
  refine tk 40 (some 61) (v := ?_) rfl rfl ?_ ?_
  rotate_left
  · (intro w _; go_simp; (try with_reducible rfl))
  simp only [Act.put, stB, stZ, stS]
  refine tk 41 (some 62) (v := ?_) rfl rfl ?_ ?_
  rotate_left
  · (intro w hSw; (try dsimp only at hSw); ((try obtain ⟨hS0, hS1, hS2, hS3, hS4, hS5, hS6, hS7, hS8, hS9⟩ := hSw); go_simp); (try with_reducible rfl))
  simp only [Act.put, stB, stZ, stS]
  refine tk 42 (some 63) (v := ?_) rfl rfl ?_ ?_
  rotate_left
  · (intro w _; go_simp; (try with_reducible rfl))
  simp only [Act.put, stB, stZ, stS]
  refine wpAnyH_ready (rs := [39]) (by kernel_rfl) (by simp) ?_
  refine (AllReadyH.cons (o := { dst := some 60, op := Op.call { callee := Callee.value (Operand.func 29), args := #[Operand.tmp 59], argTypes := #[56] }, type := 3, pos := "law.go:107", after := #[{ on := 38, ground := Ground.data }, { on := 36, ground := Ground.chain }, { on := 36, ground := Ground.guard }], guard := some (36, false) }) rfl (fun K hK => ?_) AllReadyH.nil)
  go_simp
  refine (mcols_any ma m mc cn V1).mono ?_
  rintro e V2 ⟨rfl, hb⟩
  replace HXB := Lib.hid ((hb.block xb (lt_of_block HXB.out)).trans HXB.out)
  replace HYB := Lib.hid ((hb.block yb (lt_of_block HYB.out)).trans HYB.out)
  replace HBR := Lib.hid (bthen HBR.out hb)
  clear hb
  have hKK : (fun W => W.cell? ⟨xb, 0, none⟩ = some (.slice ma m mc) ∧ W.cell? ⟨xb, 1, none⟩ = some (.int .i64 cn) ∧ W.cell? ⟨xb, 2, none⟩ = some (.slice ba m bc) ∧ W.cell? ⟨xb, 3, none⟩ = some (.slice ca cn cc) ∧ W.cell? ⟨xb, 4, none⟩ = some (.int .i64 n) ∧ W.cell? ⟨xb, 5, none⟩ = some (.slice la m lc) ∧ W.cell? ⟨yb, 0, none⟩ = some (.slice aa m ac) ∧ W.cell? ⟨yb, 1, none⟩ = some (.slice b2 m bd) ∧ W.cell? ⟨yb, 2, none⟩ = some (.slice c3 cn cd) ∧ W.cell? ⟨yb, 3, none⟩ = some (.int .i64 n)) V2 := ⟨cell_of_block (j := 0) HXB.out rfl, cell_of_block (j := 1) HXB.out rfl, cell_of_block (j := 2) HXB.out rfl, cell_of_block (j := 3) HXB.out rfl, cell_of_block (j := 4) HXB.out rfl, cell_of_block (j := 5) HXB.out rfl, cell_of_block (j := 0) HYB.out rfl, cell_of_block (j := 1) HYB.out rfl, cell_of_block (j := 2) HYB.out rfl, cell_of_block (j := 3) HYB.out rfl⟩
  refine hK.out _ _ (hKK) (fun hHeld2 => ?_)
  clear hK K hHeld
  rename _ => hHeld
  try simp only [Act.put, stB, stZ, stS]
  refine tk 43 (some 64) (v := ?_) rfl rfl ?_ ?_
  rotate_left
  · (intro w _; go_simp; (try with_reducible rfl))
  simp only [Act.put, stB, stZ, stS]
  refine tk 44 (some 65) (v := ?_) rfl rfl ?_ ?_
  rotate_left
  · (intro w _; go_simp; (try with_reducible rfl))
  simp only [Act.put, stB, stZ, stS]
  refine tk 45 (some 66) (v := ?_) rfl rfl ?_ ?_
  rotate_left
  · (intro w _; go_simp; (try with_reducible rfl))
  simp only [Act.put, stB, stZ, stS]
  refine tk 46 (some 67) (v := ?_) rfl rfl ?_ ?_
  rotate_left
  · (intro w _; go_simp; (try with_reducible rfl))
  simp only [Act.put, stB, stZ, stS]
  refine tk 47 (some 68) (v := ?_) rfl rfl ?_ ?_
  rotate_left
  · (intro w hSw; (try dsimp only at hSw); ((try obtain ⟨hS0, hS1, hS2, hS3, hS4, hS5, hS6, hS7, hS8, hS9⟩ := hSw); go_simp); (try with_reducible rfl))
  simp only [Act.put, stB, stZ, stS]
  refine tk 48 (some 69) (v := ?_) rfl rfl ?_ ?_
  rotate_left
  · (intro w _; go_simp; (try with_reducible rfl))
  simp only [Act.put, stB, stZ, stS]
  refine tk 49 (some 70) (v := ?_) rfl rfl ?_ ?_
  rotate_left
  · (intro w _; go_simp; (try with_reducible rfl))
  simp only [Act.put, stB, stZ, stS]
  refine tk 50 (some 71) (v := ?_) rfl rfl ?_ ?_
  rotate_left
  · (intro w hSw; (try dsimp only at hSw); ((try obtain ⟨hS0, hS1, hS2, hS3, hS4, hS5, hS6, hS7, hS8, hS9⟩ := hSw); go_simp); (try with_reducible rfl))
  simp only [Act.put, stB, stZ, stS]
  refine tk 51 (some 72) (v := ?_) rfl rfl ?_ ?_
  rotate_left
  · (intro w _; go_simp; (try with_reducible rfl))
  simp only [Act.put, stB, stZ, stS]
  refine tk 52 (some 73) (v := ?_) rfl rfl ?_ ?_
  rotate_left
  · (intro w _; go_simp; (try with_reducible rfl))
  simp only [Act.put, stB, stZ, stS]
  refine tk 53 (some 74) (v := ?_) rfl rfl ?_ ?_
  rotate_left
  · (intro w _; go_simp; (try with_reducible rfl))
  simp only [Act.put, stB, stZ, stS]
  refine wpAnyH_done (by kernel_rfl) ?_ _
  (try simp only [Exit.inBlock, Exit.then])
  clear hHeld
  have hb := HBR.out
  replace HSB := Lib.hid ((hb.block sb (lt_of_block HSB.out)).trans HSB.out)
  replace HB := Lib.hid (bthen HB.out hb)
  replace HSW := Lib.hid (HSW.out.below hb)
  replace HOW := Lib.hid (HOW.out.call hb)
  replace HMI := Lib.hid (mid_under HMI.out hb)
  clear hb hKK HBR
  have x4 := cell_of_block (j := 4) HXB.out rfl
  go_wp2_with fail
  clear x4
  go_loopw [6, 7] (fun v6 v7 wr => ∃ r at0 : Nat, r ≤ m ∧ at0 = n + slacks ((q.map (·.2.1)).take r) ∧ v6 = .int .i64 at0 ∧ v7 = .int .i64 r ∧ Below V2.heap.size V2 wr) (fun _ v7 _ => m - (intOf v7).toNat)
  case atStart => exact ⟨0, n, Nat.zero_le _, by simp [slacks], rfl, rfl, Below.refl _ _⟩
  case round =>
    obtain ⟨r, at0, hr, hat, rfl, rfl, hbr⟩ := hrel
    have HAT := Lib.hid hat
    clear hat
    have HBR := Lib.hid hbr
    have y0 := cell_of_block (j := 0) ((hbr.block yb (lt_of_block HYB.out)).trans HYB.out) rfl
    clear hbr
    by_cases hlt : r < m
    · obtain ⟨g, oo, xa, xn, xc, l, eaa, hrow, hl, hib⟩ := tab_row HOW.out HMI.out HXS.out r hlt
      have hxn : cn = xn := by
        have h1 := tabI_cols n cost q HLC.out (fun x hx => (HRO.out x hx).2.1) m l (List.mem_of_getElem? hl)
        have h2 := hib.len
        have h3 := HLAW.out.1
        omega
      subst hxn
      have eaa' : aa = some ⟨g, oo, none⟩ := eaa
      clear eaa
      subst eaa'
      go_wp2_with fail
      go_loopw [8] (fun v8 wr => ∃ c : Nat, c ≤ cn ∧ v8 = .int .i64 c ∧ Below V2.heap.size V2 wr) (fun v8 _ => cn - (intOf v8).toNat)
      case atStart => exact ⟨0, Nat.zero_le _, rfl, HBR.out⟩
      case round =>
        obtain ⟨c, hc, rfl, hbr⟩ := hrel
        replace HBR := Lib.hid hbr
        have y2 := cell_of_block (j := 2) ((hbr.block yb (lt_of_block HYB.out)).trans HYB.out) rfl
        clear hbr
        by_cases hlt2 : c < cn
        · obtain ⟨gx, ox, y, exa, hly, hcy⟩ := ib_get hib c hlt2
          obtain ⟨gc, oc, z, ec3, hcz, hcc⟩ := ib_get (HOW.out.ib ⟨tabC cost q m, c3, cn, cd⟩ (by simp)) c hlt2
          obtain ⟨gv, ov, v, eca, hcv, -, v0, v1, v2, hvo⟩ := HSW.out.c.get c hlt2
          have hly' : l[c]? = some y := hly
          have hcz' : (tabC cost q m)[c]? = some z := hcz
          have HENT := Lib.hid (show ∀ mr u, ms[r]? = some mr → mr.vs[c]? = some u → u.q = (y : Rat) from fun mr u h1 h2 => by
            have h3 := congrArg (fun L : List (List Rat) => L[r]?) HLAW.out.2.2.2.1
            simp only [List.getElem?_map, h1, hl, Option.map_some] at h3
            have h4 := congrArg (fun L : List Rat => L[c]?) (Option.some.inj h3)
            simp only [qs, ofI, List.getElem?_map, h2, hly', Option.map_some] at h4
            exact Option.some.inj h4)
          have HVQ := Lib.hid (show v.q = (z : Rat) by
            have h4 := congrArg (fun L : List Rat => L[c]?) HLAW.out.2.1
            simp only [qs, ofI, List.getElem?_map, hcv, hcz', Option.map_some] at h4
            exact Option.some.inj h4)
          have HYI := Lib.hid (tabI_I64 q (fun x hx => ⟨(HRO.out x hx).1.1, (HRO.out x hx).2.2⟩) m l (List.mem_of_getElem? hl) y (List.mem_of_getElem? hly'))
          have HZI := Lib.hid (tabC_I64 cost q HCO.out m z (List.mem_of_getElem? hcz'))
          have HVO := Lib.hid (fun (W : World) (hb : Below V2.heap.size V2 W) => hvo.below hb)
          have exa' : xa = some ⟨gx, ox, none⟩ := exa
          have ec3' : c3 = some ⟨gc, oc, none⟩ := ec3
          clear exa ec3 hly hcz hly' hcz' hcv hvo
          subst exa' ec3' eca
          have HKK := Lib.hid (show ∀ W : World, Below V2.heap.size V2 W → (fun W => W.cell? ⟨xb, 0, none⟩ = some (.slice ma m mc) ∧ W.cell? ⟨xb, 1, none⟩ = some (.int .i64 cn) ∧ W.cell? ⟨xb, 3, none⟩ = some (.slice (some ⟨gv, ov, none⟩) cn cc) ∧ W.cell? ⟨yb, 0, none⟩ = some (.slice (some ⟨g, oo, none⟩) m ac) ∧ W.cell? ⟨yb, 2, none⟩ = some (.slice (some ⟨gc, oc, none⟩) cn cd) ∧ W.cell? ⟨g, oo + r, none⟩ = some (.slice (some ⟨gx, ox, none⟩) cn xc) ∧ W.cell? ⟨gx, ox + c, none⟩ = some (.int .i64 y) ∧ W.cell? ⟨gc, oc + c, none⟩ = some (.int .i64 z) ∧ W.cell? ⟨gv, ov + c * 3, none⟩ = some (.bool v.s) ∧ W.cell? ⟨gv, ov + c * 3 + 1, none⟩ = some (.slice v.a v.l v.c) ∧ W.cell? ⟨gv, ov + c * 3 + 2, none⟩ = some (.slice v.b v.m v.d)) W from fun W hb => ⟨hu hb (cell_of_block (j := 0) HXB.out rfl), hu hb (cell_of_block (j := 1) HXB.out rfl), hu hb (cell_of_block (j := 3) HXB.out rfl), hu hb (cell_of_block (j := 0) HYB.out rfl), hu hb (cell_of_block (j := 2) HYB.out rfl), hu hb hrow, hu hb hcy, hu hb hcc, hu hb v0, hu hb v1, hu hb v2⟩)
          have i0 : (0 : Int) ≤ (r : Int) := by omega
          have i1 : (r : Int) < (m : Int) := by omega
          have i2 : (0 : Int) ≤ (c : Int) := by omega
          have i3 : (c : Int) < (cn : Int) := by omega
          have hcn : cn ≤ 9223372036854775807 := by
            have h1 := tabC_len cost q m
            have h2 := HLC.out
            have h3 := HLAW.out.1
            omega
          clear hrow hcy hcc v0 v1 v2 hib hl
          go_upto_region 14 with fail
          clear y0 y2
          refine wp_region_held_drew (S := fun W => W.cell? ⟨xb, 0, none⟩ = some (.slice ma m mc) ∧ W.cell? ⟨xb, 1, none⟩ = some (.int .i64 cn) ∧ W.cell? ⟨xb, 3, none⟩ = some (.slice (some ⟨gv, ov, none⟩) cn cc) ∧ W.cell? ⟨yb, 0, none⟩ = some (.slice (some ⟨g, oo, none⟩) m ac) ∧ W.cell? ⟨yb, 2, none⟩ = some (.slice (some ⟨gc, oc, none⟩) cn cd) ∧ W.cell? ⟨g, oo + r, none⟩ = some (.slice (some ⟨gx, ox, none⟩) cn xc) ∧ W.cell? ⟨gx, ox + c, none⟩ = some (.int .i64 y) ∧ W.cell? ⟨gc, oc + c, none⟩ = some (.int .i64 z) ∧ W.cell? ⟨gv, ov + c * 3, none⟩ = some (.bool v.s) ∧ W.cell? ⟨gv, ov + c * 3 + 1, none⟩ = some (.slice v.a v.l v.c) ∧ W.cell? ⟨gv, ov + c * 3 + 2, none⟩ = some (.slice v.b v.m v.d)) (by kernel_rfl) (HKK.out _ (bthen HBR.out (show Below wr.heap.size wr wr.drew from Below.drawn wr 1))) (fun hHeld => ?_)
          replace HBR := Lib.hid (bthen HBR.out (show Below wr.heap.size wr wr.drew from Below.drawn wr 1))
          generalize wr.drew = wd at HBR hHeld ⊢
          refine tk 0 (some 91) (v := ?_) rfl rfl ?_ ?_
          rotate_left
          · (intro w _; go_simp; (try with_reducible rfl))
          simp only [Act.put, stB, stZ, stS]
          refine tk 1 (some 92) (v := ?_) rfl rfl ?_ ?_
          rotate_left
          · (intro w hSw; (try dsimp only at hSw); ((try obtain ⟨hS0, hS1, hS2, hS3, hS4, hS5, hS6, hS7, hS8, hS9, hS10⟩ := hSw); go_simp); (try with_reducible rfl))
          simp only [Act.put, stB, stZ, stS]
          refine tk 2 (some 93) (v := ?_) rfl rfl ?_ ?_
          rotate_left
          · (intro w _; go_simp; (try with_reducible rfl))
          simp only [Act.put, stB, stZ, stS]
          refine tk 3 (some 94) (v := ?_) rfl rfl ?_ ?_
          rotate_left
          · (intro w _; go_simp; (try with_reducible rfl))
          simp only [Act.put, stB, stZ, stS]
          refine tk 5 (some 96) (v := ?_) rfl rfl ?_ ?_
          rotate_left
          · (intro w _; go_simp; (try with_reducible rfl))
          simp only [Act.put, stB, stZ, stS]
          refine tk 6 (some 97) (v := ?_) rfl rfl ?_ ?_
          rotate_left
          · (intro w hSw; (try dsimp only at hSw); ((try obtain ⟨hS0, hS1, hS2, hS3, hS4, hS5, hS6, hS7, hS8, hS9, hS10⟩ := hSw); go_simp); (try with_reducible rfl))
          simp only [Act.put, stB, stZ, stS]
          refine tk 7 (some 98) (v := ?_) rfl rfl ?_ ?_
          rotate_left
          · (intro w _; go_simp; (try with_reducible rfl))
          simp only [Act.put, stB, stZ, stS]
          refine tk 8 (some 99) (v := ?_) rfl rfl ?_ ?_
          rotate_left
          · (intro w hSw; (try dsimp only at hSw); ((try obtain ⟨hS0, hS1, hS2, hS3, hS4, hS5, hS6, hS7, hS8, hS9, hS10⟩ := hSw); go_simp); (try with_reducible rfl))
          simp only [Act.put, stB, stZ, stS]
          refine tk 9 (some 100) (v := ?_) rfl rfl ?_ ?_
          rotate_left
          · (intro w hSw; (try dsimp only at hSw); ((try obtain ⟨hS0, hS1, hS2, hS3, hS4, hS5, hS6, hS7, hS8, hS9, hS10⟩ := hSw); go_simp); (try with_reducible rfl))
          simp only [Act.put, stB, stZ, stS]
          refine tk 10 (some 101) (v := ?_) rfl rfl ?_ ?_
          rotate_left
          · (intro w _; go_simp; (try with_reducible rfl))
          simp only [Act.put, stB, stZ, stS]
          refine tk 11 (some 102) (v := ?_) rfl rfl ?_ ?_
          rotate_left
          · (intro w hSw; (try dsimp only at hSw); ((try obtain ⟨hS0, hS1, hS2, hS3, hS4, hS5, hS6, hS7, hS8, hS9, hS10⟩ := hSw); go_simp); (try with_reducible rfl))
          simp only [Act.put, stB, stZ, stS]
          refine tk 12 (some 103) (v := ?_) rfl rfl ?_ ?_
          rotate_left
          · (intro w hSw; (try dsimp only at hSw); ((try obtain ⟨hS0, hS1, hS2, hS3, hS4, hS5, hS6, hS7, hS8, hS9, hS10⟩ := hSw); go_simp); (try with_reducible rfl))
          simp only [Act.put, stB, stZ, stS]
          refine wpAnyH_ready (rs := [4]) (by kernel_rfl) (by simp) ?_
          refine (AllReadyH.cons (o := { dst := some 95, op := Op.call { callee := Callee.value (Operand.func 31), args := #[Operand.tmp 92, Operand.tmp 93, Operand.tmp 94], argTypes := #[56, 3, 3] }, type := 40, pos := "law.go:113", after := #[{ on := 1, ground := Ground.data }, { on := 2, ground := Ground.data }, { on := 3, ground := Ground.data }], guard := none }) rfl (fun K hK => ?_) AllReadyH.nil)
          go_simp
          refine (at_in ma m mc cn ms r c wd (HSW.out.below HBR.out).mat (by omega) hlt hlt2).mono ?_
          rintro e V4 ⟨mr, u, hmr, hu4, rfl, huo, hb⟩
          unfold Rv.val
          replace HBR := Lib.hid (bthen HBR.out hb)
          have HUO := Lib.hid huo
          have HUQ := Lib.hid (show u.q = (y : Rat) from HENT.out mr u hmr hu4)
          clear hmr hu4 huo hb
          have hKK := HKK.out V4 HBR.out
          refine hK.out _ _ (hKK) (fun hHeld2 => ?_)
          clear hK K hHeld
          rename _ => hHeld
          try simp only [Act.put, stB, stZ, stS]
          refine wpAnyH_ready (rs := [13]) (by kernel_rfl) (by simp) ?_
          refine (AllReadyH.cons (o := { dst := some 104, op := Op.call { callee := Callee.value (Operand.func 30), args := #[Operand.tmp 95, Operand.tmp 103, Operand.const (Value.int IntKind.i64 1)], argTypes := #[40, 3, 3] }, type := 4, pos := "law.go:113", after := #[{ on := 4, ground := Ground.data }, { on := 12, ground := Ground.data }, { on := 4, ground := Ground.chain }], guard := none }) rfl (fun K hK => ?_) AllReadyH.nil)
          go_simp
          refine (is_int u y V4 HUO.out HYI.out HUQ.out).mono ?_
          rintro e V5 ⟨rfl, hb⟩
          replace HBR := Lib.hid (bthen HBR.out hb)
          clear hb
          have hKK := HKK.out V5 HBR.out
          refine hK.out _ _ (hKK) (fun hHeld2 => ?_)
          clear hK K hHeld
          rename _ => hHeld
          try simp only [Act.put, stB, stZ, stS]
          refine tk 14 (some 105) (v := ?_) rfl rfl ?_ ?_
          rotate_left
          · (intro w _; go_simp; (try with_reducible rfl))
          simp only [Act.put, stB, stZ, stS]
          refine tk 15 (some 106) (v := ?_) rfl rfl ?_ ?_
          rotate_left
          · (intro w _; go_simp; (try with_reducible rfl))
          simp only [Act.put, stB, stZ, stS]
          refine tk 16 (some 107) (v := ?_) rfl rfl ?_ ?_
          rotate_left
          · (intro w _; go_simp; (try with_reducible rfl))
          simp only [Act.put, stB, stZ, stS]
          refine tk 17 (some 108) (v := ?_) rfl rfl ?_ ?_
          rotate_left
          · (intro w hSw; (try dsimp only at hSw); ((try obtain ⟨hS0, hS1, hS2, hS3, hS4, hS5, hS6, hS7, hS8, hS9, hS10⟩ := hSw); go_simp); (try with_reducible rfl))
          simp only [Act.put, stB, stZ, stS]
          refine tk 18 (some 109) (v := ?_) rfl rfl ?_ ?_
          rotate_left
          · (intro w _; go_simp; (try with_reducible rfl))
          simp only [Act.put, stB, stZ, stS]
          refine tk 19 (some 110) (v := ?_) rfl rfl ?_ ?_
          rotate_left
          · (intro w hSw; (try dsimp only at hSw); ((try obtain ⟨hS0, hS1, hS2, hS3, hS4, hS5, hS6, hS7, hS8, hS9, hS10⟩ := hSw); go_simp); (try with_reducible rfl))
          simp only [Act.put, stB, stZ, stS]
          refine tk 20 (some 111) (v := ?_) rfl rfl ?_ ?_
          rotate_left
          · (intro w hSw; (try dsimp only at hSw); ((try obtain ⟨hS0, hS1, hS2, hS3, hS4, hS5, hS6, hS7, hS8, hS9, hS10⟩ := hSw); go_simp); (try with_reducible rfl))
          simp only [Act.put, stB, stZ, stS]
          refine tk 21 (some 112) (v := ?_) rfl rfl ?_ ?_
          rotate_left
          · (intro w _; go_simp; (try with_reducible rfl))
          simp only [Act.put, stB, stZ, stS]
          refine tk 22 (some 113) (v := ?_) rfl rfl ?_ ?_
          rotate_left
          · (intro w hSw; (try dsimp only at hSw); ((try obtain ⟨hS0, hS1, hS2, hS3, hS4, hS5, hS6, hS7, hS8, hS9, hS10⟩ := hSw); go_simp); (try with_reducible rfl))
          simp only [Act.put, stB, stZ, stS]
          refine tk 23 (some 114) (v := ?_) rfl rfl ?_ ?_
          rotate_left
          · (intro w _; go_simp; (try with_reducible rfl))
          simp only [Act.put, stB, stZ, stS]
          refine tk 24 (some 115) (v := ?_) rfl rfl ?_ ?_
          rotate_left
          · (intro w hSw; (try dsimp only at hSw); ((try obtain ⟨hS0, hS1, hS2, hS3, hS4, hS5, hS6, hS7, hS8, hS9, hS10⟩ := hSw); go_simp); (try with_reducible rfl))
          simp only [Act.put, stB, stZ, stS]
          refine tk 25 (some 116) (v := ?_) rfl rfl ?_ ?_
          rotate_left
          · (intro w hSw; (try dsimp only at hSw); ((try obtain ⟨hS0, hS1, hS2, hS3, hS4, hS5, hS6, hS7, hS8, hS9, hS10⟩ := hSw); go_simp); (try with_reducible rfl))
          simp only [Act.put, stB, stZ, stS]
          refine wpAnyH_ready (rs := [26]) (by kernel_rfl) (by simp) ?_
          refine (AllReadyH.cons (o := { dst := some 117, op := Op.call { callee := Callee.value (Operand.func 30), args := #[Operand.tmp 111, Operand.tmp 116, Operand.const (Value.int IntKind.i64 1)], argTypes := #[40, 3, 3] }, type := 4, pos := "law.go:113", after := #[{ on := 20, ground := Ground.data }, { on := 25, ground := Ground.data }, { on := 15, ground := Ground.chain }, { on := 15, ground := Ground.guard }], guard := some (15, false) }) rfl (fun K hK => ?_) AllReadyH.nil)
          go_simp
          refine (is_int v z V5 (HVO.out V5 HBR.out) HZI.out HVQ.out).mono ?_
          rintro e V6 ⟨rfl, hb⟩
          replace HBR := Lib.hid (bthen HBR.out hb)
          clear hb
          have hKK := HKK.out V6 HBR.out
          refine hK.out _ _ (hKK) (fun hHeld2 => ?_)
          clear hK K hHeld
          rename _ => hHeld
          try simp only [Act.put, stB, stZ, stS]
          refine tk 27 (some 118) (v := ?_) rfl rfl ?_ ?_
          rotate_left
          · (intro w _; go_simp; (try with_reducible rfl))
          simp only [Act.put, stB, stZ, stS]
          refine tk 28 (some 119) (v := ?_) rfl rfl ?_ ?_
          rotate_left
          · (intro w _; go_simp; (try with_reducible rfl))
          simp only [Act.put, stB, stZ, stS]
          refine wpAnyH_done (by kernel_rfl) ?_ _
          (try simp only [Exit.inBlock, Exit.then])
          clear hHeld
          go_wp2_with fail
          go_roundw
          case rel => exact ⟨c + 1, by omega, by go_num, HBR.out⟩
          case measure => simp [intOf]; omega
        · obtain rfl : cn = c := by omega
          clear hrow hl hib
          have hsb := (HBR.out.block sb (lt_of_block HSB.out)).trans HSB.out
          have q0 := cell_of_block (j := 0) hsb rfl
          have q1 := cell_of_block (j := 1) hsb rfl
          have q2 := cell_of_block (j := 2) hsb rfl
          have q3 := cell_of_block (j := 3) hsb rfl
          have q4 := cell_of_block (j := 4) hsb rfl
          clear hsb
          go_wp2_with fail
          clear q0 q1 q2 q3 q4 y0 y2
          refine (HON.out wr (bthen HB.out HBR.out)).mono ?_
          rintro e wo ⟨ua, uc, ta, tc, rs, rfl, hqb, hmq⟩
          rw [HML.out] at hqb ⊢
          replace HBR := Lib.hid (bthen HBR.out hqb.bel)
          obtain ⟨b, o, ro, e1, e2, -, y1, -, -⟩ := hqb.get r hlt
          have hqr : q[r]? = some (rrowQ ro) := by rw [← hmq, List.getElem?_map, e2]; rfl
          obtain ⟨kd, hkd⟩ : ∃ kd, ro.kind = kd := ⟨_, rfl⟩
          rw [hkd] at y1
          have hls := HLAW.out.2.2.2.2 r _ hqr
          rw [show (rrowQ ro).2.1 = kd from hkd] at hls
          have hsl := slacks_take (ks := q.map (·.2.1)) (k := r) (kd := kd) (by rw [List.getElem?_map, hqr, ← hkd]; rfl)
          obtain ⟨gl, ol, lc', el, -, -, -, hl4⟩ := HSW.out.l.plain (by omega)
          have ela : la = some ⟨gl, ol, none⟩ := by injection el
          have hlc := fun (x : Int) (hx : ls[r]? = some x) => hl4 r (.int .i64 x) (by rw [List.getElem?_map, hx]; rfl)
          obtain ⟨gb, ob, v, eba, hbv, -, v0, v1, v2, hvo⟩ := HSW.out.b.get r hlt
          obtain ⟨gd, od, z, eb2, hbz, hcz⟩ := ib_get (HOW.out.ib ⟨tabB q, b2, m, bd⟩ (by simp)) r hlt
          have hbz' : (tabB q)[r]? = some z := hbz
          have hzz : (rrowQ ro).2.2 = z := by
            unfold tabB at hbz'
            rw [List.getElem?_map, hqr] at hbz'
            exact Option.some.inj hbz'
          have HZI := Lib.hid (show I64 z by rw [← hzz]; exact (HRO.out _ (List.mem_of_getElem? hqr)).1.2.2)
          have HVQ := Lib.hid (show v.q = (z : Rat) by
            have h4 := congrArg (fun L : List Rat => L[r]?) HLAW.out.2.2.1
            simp only [qs, ofI, List.getElem?_map, hbv, hbz', Option.map_some] at h4
            exact Option.some.inj h4)
          have HVO := Lib.hid (fun (W : World) (hb : Below V2.heap.size V2 W) => hvo.below hb)
          have eb2' : b2 = some ⟨gd, od, none⟩ := eb2
          subst e1 ela eba eb2'
          clear el hl4 hbv hvo eb2 hbz hbz' hzz hqr hqb hmq e2 hkd
          have i0 : (0 : Int) ≤ (r : Int) := by omega
          have i1 : (r : Int) < (m : Int) := by omega
          by_cases h3 : kd = 3
          · subst h3
            rw [if_pos rfl] at hls hsl
            have hl5 := hlc _ hls
            have HSL := Lib.hid hsl
            have HKK := Lib.hid (show ∀ W : World, Below V2.heap.size V2 W → (fun W => W.cell? ⟨xb, 5, none⟩ = some (.slice (some ⟨gl, ol, none⟩) m lc) ∧ W.cell? ⟨xb, 2, none⟩ = some (.slice (some ⟨gb, ob, none⟩) m bc) ∧ W.cell? ⟨yb, 1, none⟩ = some (.slice (some ⟨gd, od, none⟩) m bd) ∧ W.cell? ⟨gl, ol + r, none⟩ = some (.int .i64 (-1)) ∧ W.cell? ⟨gb, ob + r * 3, none⟩ = some (.bool v.s) ∧ W.cell? ⟨gb, ob + r * 3 + 1, none⟩ = some (.slice v.a v.l v.c) ∧ W.cell? ⟨gb, ob + r * 3 + 2, none⟩ = some (.slice v.b v.m v.d) ∧ W.cell? ⟨gd, od + r, none⟩ = some (.int .i64 z)) W from fun W hb => ⟨hu hb (cell_of_block (j := 5) HXB.out rfl), hu hb (cell_of_block (j := 2) HXB.out rfl), hu hb (cell_of_block (j := 1) HYB.out rfl), hu hb hl5, hu hb v0, hu hb v1, hu hb v2, hu hb hcz⟩)
            clear hls hlc hl5 hsl v0 v1 v2 hcz
            have hfl := fieldRP
            go_upto_region 20 with fail
            clear y1 hfl
            refine wp_region_held_drew (S := fun W => W.cell? ⟨xb, 5, none⟩ = some (.slice (some ⟨gl, ol, none⟩) m lc) ∧ W.cell? ⟨xb, 2, none⟩ = some (.slice (some ⟨gb, ob, none⟩) m bc) ∧ W.cell? ⟨yb, 1, none⟩ = some (.slice (some ⟨gd, od, none⟩) m bd) ∧ W.cell? ⟨gl, ol + r, none⟩ = some (.int .i64 (-1)) ∧ W.cell? ⟨gb, ob + r * 3, none⟩ = some (.bool v.s) ∧ W.cell? ⟨gb, ob + r * 3 + 1, none⟩ = some (.slice v.a v.l v.c) ∧ W.cell? ⟨gb, ob + r * 3 + 2, none⟩ = some (.slice v.b v.m v.d) ∧ W.cell? ⟨gd, od + r, none⟩ = some (.int .i64 z)) (by kernel_rfl) (HKK.out _ (bthen HBR.out (show Below wo.heap.size wo wo.drew from Below.drawn wo 1))) (fun hHeld => ?_)
            replace HBR := Lib.hid (bthen HBR.out (show Below wo.heap.size wo wo.drew from Below.drawn wo 1))
            generalize wo.drew = wd at HBR hHeld ⊢
            refine tk 0 (some 131) (v := ?_) rfl rfl ?_ ?_
            rotate_left
            · (intro w _; go_simp; (try with_reducible rfl))
            simp only [Act.put, stB, stZ, stS]
            refine tk 1 (some 132) (v := ?_) rfl rfl ?_ ?_
            rotate_left
            · (intro w hSw; (try dsimp only at hSw); ((try obtain ⟨hS0, hS1, hS2, hS3, hS4, hS5, hS6, hS7⟩ := hSw); go_simp); (try with_reducible rfl))
            simp only [Act.put, stB, stZ, stS]
            refine tk 2 (some 133) (v := ?_) rfl rfl ?_ ?_
            rotate_left
            · (intro w _; go_simp; (try with_reducible rfl))
            simp only [Act.put, stB, stZ, stS]
            refine tk 3 (some 134) (v := ?_) rfl rfl ?_ ?_
            rotate_left
            · (intro w hSw; (try dsimp only at hSw); ((try obtain ⟨hS0, hS1, hS2, hS3, hS4, hS5, hS6, hS7⟩ := hSw); go_simp); (try with_reducible rfl))
            simp only [Act.put, stB, stZ, stS]
            refine tk 4 (some 135) (v := ?_) rfl rfl ?_ ?_
            rotate_left
            · (intro w hSw; (try dsimp only at hSw); ((try obtain ⟨hS0, hS1, hS2, hS3, hS4, hS5, hS6, hS7⟩ := hSw); go_simp); (try with_reducible rfl))
            simp only [Act.put, stB, stZ, stS]
            refine tk 5 (some 136) (v := ?_) rfl rfl ?_ ?_
            rotate_left
            · (intro w _; go_simp; (try with_reducible rfl))
            simp only [Act.put, stB, stZ, stS]
            refine tk 6 (some 137) (v := ?_) rfl rfl ?_ ?_
            rotate_left
            · (intro w _; go_simp; (try with_reducible rfl))
            simp only [Act.put, stB, stZ, stS]
            refine tk 7 (some 138) (v := ?_) rfl rfl ?_ ?_
            rotate_left
            · (intro w _; go_simp; (try with_reducible rfl))
            simp only [Act.put, stB, stZ, stS]
            refine tk 8 (some 139) (v := ?_) rfl rfl ?_ ?_
            rotate_left
            · (intro w _; go_simp; (try with_reducible rfl))
            simp only [Act.put, stB, stZ, stS]
            refine tk 9 (some 140) (v := ?_) rfl rfl ?_ ?_
            rotate_left
            · (intro w hSw; (try dsimp only at hSw); ((try obtain ⟨hS0, hS1, hS2, hS3, hS4, hS5, hS6, hS7⟩ := hSw); go_simp); (try with_reducible rfl))
            simp only [Act.put, stB, stZ, stS]
            refine tk 10 (some 141) (v := ?_) rfl rfl ?_ ?_
            rotate_left
            · (intro w _; go_simp; (try with_reducible rfl))
            simp only [Act.put, stB, stZ, stS]
            refine tk 11 (some 142) (v := ?_) rfl rfl ?_ ?_
            rotate_left
            · (intro w hSw; (try dsimp only at hSw); ((try obtain ⟨hS0, hS1, hS2, hS3, hS4, hS5, hS6, hS7⟩ := hSw); go_simp); (try with_reducible rfl))
            simp only [Act.put, stB, stZ, stS]
            refine tk 12 (some 143) (v := ?_) rfl rfl ?_ ?_
            rotate_left
            · (intro w hSw; (try dsimp only at hSw); ((try obtain ⟨hS0, hS1, hS2, hS3, hS4, hS5, hS6, hS7⟩ := hSw); go_simp); (try with_reducible rfl))
            simp only [Act.put, stB, stZ, stS]
            refine tk 13 (some 144) (v := ?_) rfl rfl ?_ ?_
            rotate_left
            · (intro w _; go_simp; (try with_reducible rfl))
            simp only [Act.put, stB, stZ, stS]
            refine tk 14 (some 145) (v := ?_) rfl rfl ?_ ?_
            rotate_left
            · (intro w hSw; (try dsimp only at hSw); ((try obtain ⟨hS0, hS1, hS2, hS3, hS4, hS5, hS6, hS7⟩ := hSw); go_simp); (try with_reducible rfl))
            simp only [Act.put, stB, stZ, stS]
            refine tk 15 (some 146) (v := ?_) rfl rfl ?_ ?_
            rotate_left
            · (intro w _; go_simp; (try with_reducible rfl))
            simp only [Act.put, stB, stZ, stS]
            refine tk 16 (some 147) (v := ?_) rfl rfl ?_ ?_
            rotate_left
            · (intro w hSw; (try dsimp only at hSw); ((try obtain ⟨hS0, hS1, hS2, hS3, hS4, hS5, hS6, hS7⟩ := hSw); go_simp); (try with_reducible rfl))
            simp only [Act.put, stB, stZ, stS]
            refine tk 17 (some 148) (v := ?_) rfl rfl ?_ ?_
            rotate_left
            · (intro w hSw; (try dsimp only at hSw); ((try obtain ⟨hS0, hS1, hS2, hS3, hS4, hS5, hS6, hS7⟩ := hSw); go_simp); (try with_reducible rfl))
            simp only [Act.put, stB, stZ, stS]
            refine wpAnyH_ready (rs := [18]) (by kernel_rfl) (by simp) ?_
            refine (AllReadyH.cons (o := { dst := some 149, op := Op.call { callee := Callee.value (Operand.func 30), args := #[Operand.tmp 143, Operand.tmp 148, Operand.const (Value.int IntKind.i64 1)], argTypes := #[40, 3, 3] }, type := 4, pos := "law.go:123", after := #[{ on := 12, ground := Ground.data }, { on := 17, ground := Ground.data }, { on := 7, ground := Ground.chain }, { on := 7, ground := Ground.guard }], guard := some (7, false) }) rfl (fun K hK => ?_) AllReadyH.nil)
            go_simp
            refine (is_int v z wd (HVO.out wd HBR.out) HZI.out HVQ.out).mono ?_
            rintro e V6 ⟨rfl, hb⟩
            replace HBR := Lib.hid (bthen HBR.out hb)
            clear hb
            have hKK := HKK.out V6 HBR.out
            refine hK.out _ _ (hKK) (fun hHeld2 => ?_)
            clear hK K hHeld
            rename _ => hHeld
            try simp only [Act.put, stB, stZ, stS]
            refine tk 19 (some 150) (v := ?_) rfl rfl ?_ ?_
            rotate_left
            · (intro w _; go_simp; (try with_reducible rfl))
            simp only [Act.put, stB, stZ, stS]
            refine tk 20 (some 151) (v := ?_) rfl rfl ?_ ?_
            rotate_left
            · (intro w _; go_simp; (try with_reducible rfl))
            simp only [Act.put, stB, stZ, stS]
            refine wpAnyH_done (by kernel_rfl) ?_ _
            (try simp only [Exit.inBlock, Exit.then])
            clear hHeld
            go_wp2_with fail
            go_roundw
            case rel => exact ⟨r + 1, at0, by omega, by rw [HSL.out, Nat.add_zero]; exact HAT.out, by go_num, by go_num, HBR.out⟩
            case measure => simp [intOf]; omega
          · rw [if_neg h3] at hls hsl
            have hl5 := hlc _ hls
            have HSL := Lib.hid hsl
            have h3d : decide (kd = 3) = false := by simpa using h3
            have hat9 : at0 ≤ 9 := by
              have h5 := slacks_le ((q.map (·.2.1)).take r)
              have h6 : ((q.map (·.2.1)).take r).length ≤ r := by rw [List.length_take]; omega
              have h7 := HAT.out
              omega
            rw [← HAT.out] at hl5
            have HKK := Lib.hid (show ∀ W : World, Below V2.heap.size V2 W → (fun W => W.cell? ⟨xb, 5, none⟩ = some (.slice (some ⟨gl, ol, none⟩) m lc) ∧ W.cell? ⟨xb, 2, none⟩ = some (.slice (some ⟨gb, ob, none⟩) m bc) ∧ W.cell? ⟨yb, 1, none⟩ = some (.slice (some ⟨gd, od, none⟩) m bd) ∧ W.cell? ⟨gl, ol + r, none⟩ = some (.int .i64 at0) ∧ W.cell? ⟨gb, ob + r * 3, none⟩ = some (.bool v.s) ∧ W.cell? ⟨gb, ob + r * 3 + 1, none⟩ = some (.slice v.a v.l v.c) ∧ W.cell? ⟨gb, ob + r * 3 + 2, none⟩ = some (.slice v.b v.m v.d) ∧ W.cell? ⟨gd, od + r, none⟩ = some (.int .i64 z)) W from fun W hb => ⟨hu hb (cell_of_block (j := 5) HXB.out rfl), hu hb (cell_of_block (j := 2) HXB.out rfl), hu hb (cell_of_block (j := 1) HYB.out rfl), hu hb hl5, hu hb v0, hu hb v1, hu hb v2, hu hb hcz⟩)
            clear hls hlc hl5 hsl v0 v1 v2 hcz
            have hfl := fieldRP
            go_upto_region 20 with fail
            clear y1 h3d hfl
            refine wp_region_held_drew (S := fun W => W.cell? ⟨xb, 5, none⟩ = some (.slice (some ⟨gl, ol, none⟩) m lc) ∧ W.cell? ⟨xb, 2, none⟩ = some (.slice (some ⟨gb, ob, none⟩) m bc) ∧ W.cell? ⟨yb, 1, none⟩ = some (.slice (some ⟨gd, od, none⟩) m bd) ∧ W.cell? ⟨gl, ol + r, none⟩ = some (.int .i64 at0) ∧ W.cell? ⟨gb, ob + r * 3, none⟩ = some (.bool v.s) ∧ W.cell? ⟨gb, ob + r * 3 + 1, none⟩ = some (.slice v.a v.l v.c) ∧ W.cell? ⟨gb, ob + r * 3 + 2, none⟩ = some (.slice v.b v.m v.d) ∧ W.cell? ⟨gd, od + r, none⟩ = some (.int .i64 z)) (by kernel_rfl) (HKK.out _ (bthen HBR.out (show Below wo.heap.size wo wo.drew from Below.drawn wo 1))) (fun hHeld => ?_)
            replace HBR := Lib.hid (bthen HBR.out (show Below wo.heap.size wo wo.drew from Below.drawn wo 1))
            generalize wo.drew = wd at HBR hHeld ⊢
            refine tk 0 (some 131) (v := ?_) rfl rfl ?_ ?_
            rotate_left
            · (intro w _; go_simp; (try with_reducible rfl))
            simp only [Act.put, stB, stZ, stS]
            refine tk 1 (some 132) (v := ?_) rfl rfl ?_ ?_
            rotate_left
            · (intro w hSw; (try dsimp only at hSw); ((try obtain ⟨hS0, hS1, hS2, hS3, hS4, hS5, hS6, hS7⟩ := hSw); go_simp); (try with_reducible rfl))
            simp only [Act.put, stB, stZ, stS]
            refine tk 2 (some 133) (v := ?_) rfl rfl ?_ ?_
            rotate_left
            · (intro w _; go_simp; (try with_reducible rfl))
            simp only [Act.put, stB, stZ, stS]
            refine tk 3 (some 134) (v := ?_) rfl rfl ?_ ?_
            rotate_left
            · (intro w hSw; (try dsimp only at hSw); ((try obtain ⟨hS0, hS1, hS2, hS3, hS4, hS5, hS6, hS7⟩ := hSw); go_simp); (try with_reducible rfl))
            simp only [Act.put, stB, stZ, stS]
            refine tk 4 (some 135) (v := ?_) rfl rfl ?_ ?_
            rotate_left
            · (intro w hSw; (try dsimp only at hSw); ((try obtain ⟨hS0, hS1, hS2, hS3, hS4, hS5, hS6, hS7⟩ := hSw); go_simp); (try with_reducible rfl))
            simp only [Act.put, stB, stZ, stS]
            refine tk 5 (some 136) (v := ?_) rfl rfl ?_ ?_
            rotate_left
            · (intro w _; go_simp; (try with_reducible rfl))
            simp only [Act.put, stB, stZ, stS]
            refine tk 6 (some 137) (v := ?_) rfl rfl ?_ ?_
            rotate_left
            · (intro w _; go_simp; (try with_reducible rfl))
            simp only [Act.put, stB, stZ, stS]
            refine tk 7 (some 138) (v := ?_) rfl rfl ?_ ?_
            rotate_left
            · (intro w _; go_simp; (try with_reducible rfl))
            simp only [Act.put, stB, stZ, stS]
            refine tk 8 (some 139) (v := ?_) rfl rfl ?_ ?_
            rotate_left
            · (intro w _; go_simp; (try with_reducible rfl))
            simp only [Act.put, stB, stZ, stS]
            refine tk 9 (some 140) (v := ?_) rfl rfl ?_ ?_
            rotate_left
            · (intro w hSw; (try dsimp only at hSw); ((try obtain ⟨hS0, hS1, hS2, hS3, hS4, hS5, hS6, hS7⟩ := hSw); go_simp); (try with_reducible rfl))
            simp only [Act.put, stB, stZ, stS]
            refine tk 10 (some 141) (v := ?_) rfl rfl ?_ ?_
            rotate_left
            · (intro w _; go_simp; (try with_reducible rfl))
            simp only [Act.put, stB, stZ, stS]
            refine tk 11 (some 142) (v := ?_) rfl rfl ?_ ?_
            rotate_left
            · (intro w hSw; (try dsimp only at hSw); ((try obtain ⟨hS0, hS1, hS2, hS3, hS4, hS5, hS6, hS7⟩ := hSw); go_simp); (try with_reducible rfl))
            simp only [Act.put, stB, stZ, stS]
            refine tk 12 (some 143) (v := ?_) rfl rfl ?_ ?_
            rotate_left
            · (intro w hSw; (try dsimp only at hSw); ((try obtain ⟨hS0, hS1, hS2, hS3, hS4, hS5, hS6, hS7⟩ := hSw); go_simp); (try with_reducible rfl))
            simp only [Act.put, stB, stZ, stS]
            refine tk 13 (some 144) (v := ?_) rfl rfl ?_ ?_
            rotate_left
            · (intro w _; go_simp; (try with_reducible rfl))
            simp only [Act.put, stB, stZ, stS]
            refine tk 14 (some 145) (v := ?_) rfl rfl ?_ ?_
            rotate_left
            · (intro w hSw; (try dsimp only at hSw); ((try obtain ⟨hS0, hS1, hS2, hS3, hS4, hS5, hS6, hS7⟩ := hSw); go_simp); (try with_reducible rfl))
            simp only [Act.put, stB, stZ, stS]
            refine tk 15 (some 146) (v := ?_) rfl rfl ?_ ?_
            rotate_left
            · (intro w _; go_simp; (try with_reducible rfl))
            simp only [Act.put, stB, stZ, stS]
            refine tk 16 (some 147) (v := ?_) rfl rfl ?_ ?_
            rotate_left
            · (intro w hSw; (try dsimp only at hSw); ((try obtain ⟨hS0, hS1, hS2, hS3, hS4, hS5, hS6, hS7⟩ := hSw); go_simp); (try with_reducible rfl))
            simp only [Act.put, stB, stZ, stS]
            refine tk 17 (some 148) (v := ?_) rfl rfl ?_ ?_
            rotate_left
            · (intro w hSw; (try dsimp only at hSw); ((try obtain ⟨hS0, hS1, hS2, hS3, hS4, hS5, hS6, hS7⟩ := hSw); go_simp); (try with_reducible rfl))
            simp only [Act.put, stB, stZ, stS]
            refine wpAnyH_ready (rs := [18]) (by kernel_rfl) (by simp) ?_
            refine (AllReadyH.cons (o := { dst := some 149, op := Op.call { callee := Callee.value (Operand.func 30), args := #[Operand.tmp 143, Operand.tmp 148, Operand.const (Value.int IntKind.i64 1)], argTypes := #[40, 3, 3] }, type := 4, pos := "law.go:123", after := #[{ on := 12, ground := Ground.data }, { on := 17, ground := Ground.data }, { on := 7, ground := Ground.chain }, { on := 7, ground := Ground.guard }], guard := some (7, false) }) rfl (fun K hK => ?_) AllReadyH.nil)
            go_simp
            refine (is_int v z wd (HVO.out wd HBR.out) HZI.out HVQ.out).mono ?_
            rintro e V6 ⟨rfl, hb⟩
            replace HBR := Lib.hid (bthen HBR.out hb)
            clear hb
            have hKK := HKK.out V6 HBR.out
            refine hK.out _ _ (hKK) (fun hHeld2 => ?_)
            clear hK K hHeld
            rename _ => hHeld
            try simp only [Act.put, stB, stZ, stS]
            refine tk 19 (some 150) (v := ?_) rfl rfl ?_ ?_
            rotate_left
            · (intro w _; go_simp; (try with_reducible rfl))
            simp only [Act.put, stB, stZ, stS]
            refine tk 20 (some 151) (v := ?_) rfl rfl ?_ ?_
            rotate_left
            · (intro w _; go_simp; (try with_reducible rfl))
            simp only [Act.put, stB, stZ, stS]
            refine wpAnyH_done (by kernel_rfl) ?_ _
            (try simp only [Exit.inBlock, Exit.then])
            clear hHeld
            go_wp2_with fail
            go_roundw
            case rel => exact ⟨r + 1, at0 + 1, by omega, by rw [HSL.out, ← Nat.add_assoc, ← HAT.out], by go_num, by go_num, HBR.out⟩
            case measure => simp [intOf]; omega
    · go_wp2_with fail
      go_ret
      exact ⟨rfl, bthen HB.out HBR.out⟩
end Go.Proofs.Ytndndfobkbeolaa
