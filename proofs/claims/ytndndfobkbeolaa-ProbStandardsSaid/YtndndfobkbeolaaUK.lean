/-
  What the laws stand on, part K: contracts and plain laws of PLift, PWhole, PAwake; the conditions are each law's own.
-/
import Derived.Test.YtndndfobkbeolaaUS
import Derived.Test.YtndndfobkbeolaaUV
set_option linter.unusedVariables false
set_option linter.unusedSimpArgs false
namespace Go.Proofs.Ytndndfobkbeolaa
open Go.RowKit Go.Extern.Stop Go.Stop Go.Extern
def liftAt (M : Nat → Nat → Rat) (d : Nat → Rat) : Nat → List Int → List Rat → List Rat
  | _, [], z => z
  | k, x :: ls, z => liftAt M d (k + 1) ls (if 0 ≤ x then z.set x.toNat (M k x.toNat * d k) else z)
def liftM (ms : List MRow) (k j : Nat) : Rat := ((ms.map fun r => qs r.vs).getD k []).getD j 0
theorem liftM_get {ms : List MRow} {k j : Nat} {mr : MRow} {v : Rv} (h1 : ms[k]? = some mr) (h2 : mr.vs[j]? = some v) : liftM ms k j = v.q := by
  unfold liftM
  rw [List.getD_eq_getElem?_getD, List.getD_eq_getElem?_getD, List.getElem?_map, h1]
  show ((qs mr.vs)[j]?).getD 0 = v.q
  rw [qs_get h2]; rfl
theorem getD_q {vs : List Rv} {k : Nat} {v : Rv} (h : vs[k]? = some v) : (qs vs).getD k 0 = v.q := by
  rw [List.getD_eq_getElem?_getD, qs_get h]; rfl
theorem liftAt_cons (M : Nat → Nat → Rat) (d : Nat → Rat) (k : Nat) (x : Int) (ls : List Int) (z : List Rat) : liftAt M d k (x :: ls) z = liftAt M d (k + 1) ls (if 0 ≤ x then z.set x.toNat (M k x.toNat * d k) else z) := rfl
theorem set3_farK {W : World} {z b o p0 p1 p2 : Nat} {v x0 x1 x2 : Value} (h : z ≠ b) (hc : W.cell? ⟨b, o, none⟩ = some v) : (((W.setCell ⟨z, p0, none⟩ x0).setCell ⟨z, p1, none⟩ x1).setCell ⟨z, p2, none⟩ x2).cell? ⟨b, o, none⟩ = some v := by
  rw [World.cell?_setCell_far _ _ _ _ (show (⟨z, p2, none⟩ : Addr).block ≠ (⟨b, o, none⟩ : Addr).block from h), World.cell?_setCell_far _ _ _ _ (show (⟨z, p1, none⟩ : Addr).block ≠ (⟨b, o, none⟩ : Addr).block from h), World.cell?_setCell_far _ _ _ _ (show (⟨z, p0, none⟩ : Addr).block ≠ (⟨b, o, none⟩ : Addr).block from h)]
  exact hc
theorem VB.apart {w0 W W' : World} {l : List Rat} {a : Option Addr} {n c g : Nat} {vs : List Rv} (h : VB w0 l a n c vs W) (hk : Keeps W W' fun z => z = g) (hn : ∀ z, (Value.slice a n c).ownBlock = some z → z ≠ g) (hw : ∀ z, (some g = some z) → ¬ WordB W z) (hg : w0.heap.size ≤ g) : VB w0 l a n c vs W' :=
  ⟨h.mid.keeps hk fun z hz => hn z hz, h.len, fun v hv => (h.ok v hv).keeps hk fun z hz => by rw [hz]; exact hw g rfl, h.q, h.bel.trans (hk.below h.bel.size fun z hz => by rw [hz]; exact hg)⟩
def CanLift (ms : List MRow) (bs : List Rv) (sums : List Rat) (ls : List Int) : Prop := ∀ (k B : Nat) (u : Rv) (t : Rat) (mr : MRow) (v : Rv), ls[k]? = some (B : Int) → bs[k]? = some u → sums[k]? = some t → ms[k]? = some mr → mr.vs[B]? = some v → CanAdd u.q (-t) ∧ CanMul v.q (u.q - t)
def sumsOf (ms : List MRow) (z : List Rat) : List Rat := ms.map fun r => dotQ (qs r.vs) z
def liftQ (ms : List MRow) (bs : List Rv) (ls : List Int) (z : List Rat) : List Rat := liftAt (liftM ms) (fun k => (qs bs).getD k 0 - (sumsOf ms z).getD k 0) 0 ls z
set_option maxRecDepth 100000 in
set_option maxHeartbeats 16000000 in
theorem lift_any (ma : Option Addr) (mn mc cols : Nat) (ba : Option Addr) (bc : Nat) (ca : Option Addr) (cc own : Nat) (la : Option Addr) (lc : Nat) (ms : List MRow) (bs cs : List Rv) (ls : List Int) (sl : Nat) (xa : Option Addr) (xc : Nat) (xs : List Rv) (w : World) (h : StdW w ma mn mc cols ba bc ca cc la lc ms bs cs ls) (hx : VecW w xa own xc xs)
    (hco : own + sl = cols) (hcl : cols ≤ 1000000) (hmn : mn ≤ 1000000) (hls : ∀ x, x ∈ ls → x = -1 ∨ (0 ≤ x ∧ x < (cols : Int)))
    (hdot : ∀ r, r ∈ ms → CanDot (qs r.vs) (qs xs ++ List.replicate sl 0)) (hcan : CanLift ms bs (sumsOf ms (qs xs ++ List.replicate sl 0)) ls) :
    Calls Try.prog 22 #[.agg #[.slice ma mn mc, .int .i64 cols, .slice ba mn bc, .slice ca cols cc, .int .i64 own, .slice la mn lc], .slice xa own xc] w fun e w' => ∃ a c zs, e = .returned (.tuple #[.slice a cols c, .bool true]) ∧ VB w (liftQ ms bs ls (qs xs ++ List.replicate sl 0)) a cols c zs w' := by
  obtain ⟨tr, hr1, hr2, hr3, hr4⟩ := info_parts Try.infoRat
  have hll := h.ll
  have hml := h.mat.len
  obtain ⟨z0, hz0⟩ : ∃ z0, qs xs ++ List.replicate sl 0 = z0 := ⟨_, rfl⟩
  unfold liftQ
  rw [hz0] at hdot hcan ⊢
  obtain ⟨D, hD⟩ : ∃ D, (fun k => (qs bs).getD k 0 - (sumsOf ms z0).getD k 0) = D := ⟨_, rfl⟩
  rw [hD]
  have HD := Lib.hid hD
  have HQ0 := Lib.hid hz0
  clear hD hz0
  obtain ⟨w1, hw1⟩ : ∃ w1, w.alloc (.cells #[.slice ma mn mc, .int .i64 cols, .slice ba mn bc, .slice ca cols cc, .int .i64 own, .slice la mn lc] 59) = w1 := ⟨_, rfl⟩
  obtain ⟨sb, hsb⟩ : ∃ sb, w.heap.size = sb := ⟨_, rfl⟩
  have hb1 : Below w.heap.size w w1 := by rw [← hw1]; exact belowBox w _
  have hs1 : w1.heap[sb]? = some (.cells #[.slice ma mn mc, .int .i64 cols, .slice ba mn bc, .slice ca cols cc, .int .i64 own, .slice la mn lc] 59 (0, 0)) := by rw [← hw1, ← hsb]; exact heap_alloc_new w _
  have HSB := Lib.hid hs1
  have HX := Lib.hid (fun (W : World) (hb : Below w.heap.size w W) => hx.below hb)
  have HS := Lib.hid (fun (W : World) (hb : Below w.heap.size w W) => h.below hb)
  have HBW := Lib.hid hb1
  have HZ1 := Lib.hid (fun (m : Nat) (u : Value) (hu : u ∈ (Builtin.zeroCells (Value.cells (.agg #[.bool false, .slice none 0 0, .slice none 0 0])) m).toList) => rv_one (List.replicate m Rv.zero) u (by rw [← zero_flat]; exact hu))
  have HCO := Lib.hid hco
  have HLS := Lib.hid hls
  have HDOT := Lib.hid hdot
  have HCAN0 := Lib.hid hcan
  have HLL := Lib.hid hll
  have HML := Lib.hid hml
  have HSBW := Lib.hid (show sb = w.heap.size from hsb.symm)
  have HW1 := Lib.hid hw1
  have HSBE := Lib.hid hsb
  clear h hx hb1 hs1 hls hdot hcan hw1 hsb hll hml
  go_enter Try.func22, Try.ntmps22
  go_upto_region 1 with fail
  (try simp only [HW1.out])
  (try simp only [HSBE.out])
  clear HW1 HSBE
  have s3 := cell_of_block (j := 3) HSB.out rfl
  have s4 := cell_of_block (j := 4) HSB.out rfl
  go_upto_region 3 with fail
  have hb0 := HBW.out
  go_cut [6] (fun v6 wx => ∃ a5 c5, v6 = .slice a5 cols c5 ∧ VB w z0 a5 cols c5 (xs ++ List.replicate sl Rv.zero) wx ∧ Below w1.heap.size w1 wx)
  case first =>
    have HBD := Lib.hid (show Below w1.heap.size w1 w1.drew from Below.drawn w1 1)
    replace HBW := Lib.hid (bthen HBW.out (show Below w1.heap.size w1 w1.drew from Below.drawn w1 1))
    refine wp_region_held_drew (S := fun W => W.cell? ⟨sb, 3, none⟩ = some (.slice ca cols cc) ∧ W.cell? ⟨sb, 4, none⟩ = some (.int .i64 own)) (by kernel_rfl) (⟨s3, s4⟩) (fun hHeld => ?_)
    generalize w1.drew = wd at HBW HBD hHeld ⊢
    refine tk 0 (some 16) (v := ?_) rfl rfl ?_ ?_
    rotate_left
    · (intro w _; go_simp; (try with_reducible rfl))
    simp only [Act.put, stB, stZ, stS]
    refine tk 2 (some 18) (v := ?_) rfl rfl ?_ ?_
    rotate_left
    · (intro w _; go_simp; (try with_reducible rfl))
    simp only [Act.put, stB, stZ, stS]
    refine tk 3 (some 19) (v := ?_) rfl rfl ?_ ?_
    rotate_left
    · (intro w hSw; (try dsimp only at hSw); ((try obtain ⟨hS0, hS1⟩ := hSw); go_simp); (try with_reducible rfl))
    simp only [Act.put, stB, stZ, stS]
    refine tk 4 (some 20) (v := ?_) rfl rfl ?_ ?_
    rotate_left
    · (intro w _; go_simp; (try with_reducible rfl))
    simp only [Act.put, stB, stZ, stS]
    refine tk 5 (some 21) (v := ?_) rfl rfl ?_ ?_
    rotate_left
    · (intro w _; go_simp; (try with_reducible rfl))
    simp only [Act.put, stB, stZ, stS]
    refine tk 6 (some 22) (v := ?_) rfl rfl ?_ ?_
    rotate_left
    · (intro w hSw; (try dsimp only at hSw); ((try obtain ⟨hS0, hS1⟩ := hSw); go_simp); (try with_reducible rfl))
    simp only [Act.put, stB, stZ, stS]
    refine tk 7 (some 23) (v := ?_) rfl rfl ?_ ?_
    rotate_left
    · (intro w _; go_simp; (try with_reducible rfl))
    simp only [Act.put, stB, stZ, stS]
    refine wpAnyH_ready (rs := [1]) (by kernel_rfl) (by simp) ?_
    refine (AllReadyH.cons (o := { dst := some 17, op := Op.call { callee := Callee.value (Operand.func 54), args := #[Operand.tmp 16], argTypes := #[28] }, type := 28, pos := "prob.go:141", after := #[{ on := 0, ground := Ground.data }], guard := none }) rfl (fun K hK => ?_) AllReadyH.nil)
    go_simp
    have HK0 := Lib.hid hHeld
    refine (vcopy_any xa own xc xs _ (HX.out _ HBW.out) (by omega)).mono ?_
    rintro e V1 ⟨a4, c4, rfl, hvb⟩
    have HVB := Lib.hid hvb
    have hKK := And.intro (hu hvb.bel (hHeld.1)) <| hu hvb.bel (hHeld.2)
    clear hvb
    refine hK.out _ _ (hKK) (fun hHeld2 => ?_)
    clear hK K hHeld
    rename _ => hHeld
    try simp only [Act.put, stB, stZ, stS]
    refine wpAnyH_ready (rs := [8]) (by kernel_rfl) (by simp) ?_
    refine (AllReadyH.cons (o := { dst := some 24, op := Op.call { callee := Callee.builtin Builtin.append, args := #[Operand.tmp 17, Operand.tmp 23], argTypes := #[28, 3] }, type := 28, pos := "prob.go:141", after := #[{ on := 1, ground := Ground.data }, { on := 7, ground := Ground.data }, { on := 1, ground := Ground.chain }], guard := none }) rfl (fun K hK => ?_) AllReadyH.nil)
    refine step_append_zeros (by rfl) _ _ 28 3 (by rfl) tr (.agg #[.bool false, .slice none 0 0, .slice none 0 0]) 56 .i64 .i64 Try.underlying28 Try.underlying3 hr1 hr2 hr3 hr4 rfl (by decide) HZ1.out (by rfl) HVB.out.mid sl (by exact show (.int .i64 (IntKind.i64.wrap ((cols : Int) - (own : Int))) : Value) = .int .i64 (sl : Int) by rw [show IntKind.i64.wrap ((cols : Int) - (own : Int)) = (sl : Int) by rw [IntKind.wrap_i64]; omega]) (by unfold maxLen; omega) (by omega) (by have := HVB.out.bel.size; omega) ?_
    intro a5 c5 V2 hmo hgo hbo
    have HV5 := Lib.hid (HVB.out.push0 hmo hgo)
    clear hmo hgo hbo
    dsimp only
    refine hK.out _ _ (⟨hu HV5.out.bel HK0.out.1, hu HV5.out.bel HK0.out.2⟩) (fun hHeld2 => ?_)
    clear hK K hHeld
    rename _ => hHeld
    try simp only [Act.put, stB, stZ, stS]
    refine tk 9 (some 6) (v := ?_) rfl rfl ?_ ?_
    rotate_left
    · (intro w _; go_simp; (try with_reducible rfl))
    simp only [Act.put, stB, stZ, stS]
    refine wpAnyH_done (by kernel_rfl) ?_ _
    (try simp only [Exit.inBlock, Exit.then])
    clear hHeld
    go_wp2_with fail
    go_meet
    have h9 := HV5.out.rebase HBW.out
    rw [HCO.out, HQ0.out] at h9
    exact ⟨a5, c5, rfl, h9, bthen HBD.out HV5.out.bel⟩
  case rest =>
    obtain ⟨w2, rfl⟩ : ∃ w2 : World, w2 = wc := ⟨_, rfl⟩
    obtain ⟨a5, c5, rfl, hz, hb12⟩ := hcut
    replace HSB := Lib.hid ((hb12.block sb (lt_of_block HSB.out)).trans HSB.out)
    clear hb12 hb0 HBW
    have hq := hz.q
    have HTM := Lib.hid (times_any ma mn mc cols ms a5 c5 _ w2 (HS.out w2 hz.bel).mat hz.vec (by rw [hq]; exact HDOT.out) hmn)
    rw [hq] at HTM
    generalize xs ++ List.replicate sl Rv.zero = zs0 at hz hq
    have s0 := cell_of_block (j := 0) HSB.out rfl
    have s1 := cell_of_block (j := 1) HSB.out rfl
    have HZ := Lib.hid hz
    clear hz hq HX HCO HDOT HZ1
    go_wp2_with fail
    refine HTM.out.mono ?_
    rintro e w3 ⟨sa, sc, us, rfl, hsu⟩
    have HNE := Lib.hid (show ∀ (g o b o' : Nat), a5 = some ⟨g, o, none⟩ → sa = some ⟨b, o', none⟩ → g ≠ b from fun g o b o' h1 h2 => by
      subst h1 h2
      have q1 := (HZ.out.mid.lt g rfl).2
      have q2 := (hsu.mid.lt b rfl).1
      omega)
    have hsu2 := hsu.rebase HZ.out.bel
    replace HSB := Lib.hid ((hsu.bel.block sb (lt_of_block HSB.out)).trans HSB.out)
    replace HZ := Lib.hid (HZ.out.call hsu.bel)
    have HSU := Lib.hid (show VB w (sumsOf ms z0) sa mn sc us w3 from hsu2)
    clear hsu hsu2 s0 s1 HTM
    have s5 := cell_of_block (j := 5) HSB.out rfl
    have hln := (HS.out w3 HZ.out.bel).l.lenI
    go_wp2_with fail
    clear s5
    go_loopw [35] (fun iv wr => ∃ (k : Nat) (Z : List Rat) (zs : List Rv), k ≤ mn ∧ iv = .int .i64 k ∧ liftAt (liftM ms) D 0 ls z0 = liftAt (liftM ms) D k (ls.drop k) Z ∧ VB w Z a5 cols c5 zs wr ∧ VB w (sumsOf ms z0) sa mn sc us wr ∧ wr.heap[sb]? = some (.cells #[.slice ma mn mc, .int .i64 cols, .slice ba mn bc, .slice ca cols cc, .int .i64 own, .slice la mn lc] 59 (0, 0))) (fun iv _ => mn - (intOf iv).toNat)
    case atStart => exact ⟨0, z0, zs0, Nat.zero_le _, rfl, rfl, HZ.out, HSU.out, HSB.out⟩
    case round =>
      obtain ⟨k, Z, zs, hk, rfl, hle, hz, hsu, hsb⟩ := hrel
      by_cases hlt : k < mn
      · have hstd := HS.out wr hz.bel
        have hkl : k < ls.length := by rw [HLL.out]; exact hlt
        obtain ⟨b, o, e1, _, y⟩ := int_get hstd.l k hkl hlt
        obtain ⟨x, hx⟩ : ∃ x, ls[k] = x := ⟨_, rfl⟩
        rw [hx] at y
        have hxe : ls[k]? = some x := by rw [List.getElem?_eq_getElem hkl, hx]
        have hlx := HLS.out x (List.mem_of_getElem? hxe)
        have hd := List.drop_eq_getElem_cons hkl
        rw [hx] at hd
        rw [hd, liftAt_cons] at hle
        have i0 : (0 : Int) ≤ (k : Int) := by omega
        have i1 : (k : Int) < (mn : Int) := by omega
        subst e1
        replace HZ := Lib.hid hz
        replace HSU := Lib.hid hsu
        replace HSB := Lib.hid hsb
        rcases hlx with rfl | ⟨hx1, hx2⟩
        · rw [if_neg (by omega)] at hle
          have HLE := Lib.hid hle
          clear hle hz hsu hsb hstd hxe hx hd hkl
          go_wp2_with fail
          go_roundw
          case rel => exact ⟨k + 1, Z, zs, by omega, by go_num, HLE.out, HZ.out, HSU.out, HSB.out⟩
          case measure => simp [intOf]; omega
        · obtain ⟨B, rfl⟩ : ∃ B : Nat, x = (B : Int) := ⟨x.toNat, by omega⟩
          rw [if_pos hx1, Int.toNat_natCast] at hle
          have hBl : B < cols := by omega
          obtain ⟨b1, o1, u, rfl, eu, hb1l, u0, u1, u2, uok⟩ := hstd.b.get k hlt
          obtain ⟨_, _, _, hbx, _, hb1w, _⟩ := (HS.out w (Below.refl _ _)).b.get k hlt
          cases hbx
          obtain ⟨b2, o2, t, rfl, et, _, t0, t1, t2, tok⟩ := hsu.vec.get k hlt
          obtain ⟨g, o5, _, rfl, _, _, _⟩ := hz.vec.get B hBl
          have hsq : (sumsOf ms z0)[k]? = some t.q := by rw [← hsu.q]; exact qs_get et
          have hDk : D k = u.q - t.q := by
            rw [← HD.out]
            show (qs bs).getD k 0 - (sumsOf ms z0).getD k 0 = _
            rw [getD_q eu, List.getD_eq_getElem?_getD, hsq]; rfl
          rw [hDk] at hle
          have HLE := Lib.hid hle
          have HCAN := Lib.hid (fun (mr : MRow) (v : Rv) (em : ms[k]? = some mr) (ev : mr.vs[B]? = some v) => HCAN0.out k B u t.q mr v hxe eu hsq em ev)
          have HST := Lib.hid hstd
          have HUO := Lib.hid uok
          have HTO := Lib.hid tok
          have HCL := Lib.hid (show cols ≤ 9223372036854775807 by omega)
          have HKL := Lib.hid hlt
          have HBL := Lib.hid hBl
          have hgl := (hz.mid.lt g rfl).1
          have HNS1 := Lib.hid (show g ≠ b1 by omega)
          have HNS2 := Lib.hid (HNE.out g o5 b2 o2 rfl rfl)
          obtain ⟨zc, hzc⟩ := hz.mid.typed rfl
          have HNS0 := Lib.hid (show g ≠ sb from typed_ne hzc hsb (by decide))
          have s0 := cell_of_block (j := 0) hsb rfl
          have s1 := cell_of_block (j := 1) hsb rfl
          have s2 := cell_of_block (j := 2) hsb rfl
          have j0 : (0 : Int) ≤ (B : Int) := by omega
          have j1 : (B : Int) < (cols : Int) := by omega
          clear hle hz hsu hsb hstd hxe hx hd hkl uok tok eu et hsq hDk hb1l hb1w hgl hzc
          go_upto_region 9 with fail
          replace HST := Lib.hid (HST.out.below (show Below wr.heap.size wr wr.drew from Below.drawn wr 1))
          replace HZ := Lib.hid (HZ.out.call (show Below wr.heap.size wr wr.drew from Below.drawn wr 1))
          replace HSU := Lib.hid (HSU.out.call (show Below wr.heap.size wr wr.drew from Below.drawn wr 1))
          replace HUO := Lib.hid (HUO.out.below (show Below wr.heap.size wr wr.drew from Below.drawn wr 1))
          replace HTO := Lib.hid (HTO.out.below (show Below wr.heap.size wr wr.drew from Below.drawn wr 1))
          replace HSB := Lib.hid (((show Below wr.heap.size wr wr.drew from Below.drawn wr 1).block sb (lt_of_block HSB.out)).trans HSB.out)
          refine wp_region_held_drew (S := fun W => W.cell? ⟨sb, 0, none⟩ = some (.slice ma mn mc) ∧ W.cell? ⟨sb, 1, none⟩ = some (.int .i64 cols) ∧ W.cell? ⟨sb, 2, none⟩ = some (.slice (some ⟨b1, o1, none⟩) mn bc) ∧ W.cell? ⟨b1, o1 + k * 3, none⟩ = some (.bool u.s) ∧ W.cell? ⟨b1, o1 + k * 3 + 1, none⟩ = some (.slice u.a u.l u.c) ∧ W.cell? ⟨b1, o1 + k * 3 + 2, none⟩ = some (.slice u.b u.m u.d) ∧ W.cell? ⟨b2, o2 + k * 3, none⟩ = some (.bool t.s) ∧ W.cell? ⟨b2, o2 + k * 3 + 1, none⟩ = some (.slice t.a t.l t.c) ∧ W.cell? ⟨b2, o2 + k * 3 + 2, none⟩ = some (.slice t.b t.m t.d)) (by kernel_rfl) (⟨s0, s1, s2, u0, u1, u2, t0, t1, t2⟩) (fun hHeld => ?_)
          generalize wr.drew = wd at HST HZ HSU HUO HTO HSB hHeld ⊢
          refine tk 0 (some 42) (v := ?_) rfl rfl ?_ ?_
          rotate_left
          · (intro w _; go_simp; (try with_reducible rfl))
          simp only [Act.put, stB, stZ, stS]
          refine tk 1 (some 43) (v := ?_) rfl rfl ?_ ?_
          rotate_left
          · (intro w _; go_simp; (try with_reducible rfl))
          simp only [Act.put, stB, stZ, stS]
          refine tk 2 (some 44) (v := ?_) rfl rfl ?_ ?_
          rotate_left
          · (intro w _; go_simp; (try with_reducible rfl))
          simp only [Act.put, stB, stZ, stS]
          refine tk 3 (some 45) (v := ?_) rfl rfl ?_ ?_
          rotate_left
          · (intro w hSw; (try dsimp only at hSw); ((try obtain ⟨hS0, hS1, hS2, hS3, hS4, hS5, hS6, hS7, hS8⟩ := hSw); go_simp); (try with_reducible rfl))
          simp only [Act.put, stB, stZ, stS]
          refine tk 4 (some 46) (v := ?_) rfl rfl ?_ ?_
          rotate_left
          · (intro w _; go_simp; (try with_reducible rfl))
          simp only [Act.put, stB, stZ, stS]
          refine tk 5 (some 47) (v := ?_) rfl rfl ?_ ?_
          rotate_left
          · (intro w _; go_simp; (try with_reducible rfl))
          simp only [Act.put, stB, stZ, stS]
          refine tk 7 (some 49) (v := ?_) rfl rfl ?_ ?_
          rotate_left
          · (intro w _; go_simp; (try with_reducible rfl))
          simp only [Act.put, stB, stZ, stS]
          refine tk 8 (some 50) (v := ?_) rfl rfl ?_ ?_
          rotate_left
          · (intro w hSw; (try dsimp only at hSw); ((try obtain ⟨hS0, hS1, hS2, hS3, hS4, hS5, hS6, hS7, hS8⟩ := hSw); go_simp); (try with_reducible rfl))
          simp only [Act.put, stB, stZ, stS]
          refine tk 9 (some 51) (v := ?_) rfl rfl ?_ ?_
          rotate_left
          · (intro w _; go_simp; (try with_reducible rfl))
          simp only [Act.put, stB, stZ, stS]
          refine tk 10 (some 52) (v := ?_) rfl rfl ?_ ?_
          rotate_left
          · (intro w hSw; (try dsimp only at hSw); ((try obtain ⟨hS0, hS1, hS2, hS3, hS4, hS5, hS6, hS7, hS8⟩ := hSw); go_simp); (try with_reducible rfl))
          simp only [Act.put, stB, stZ, stS]
          refine tk 11 (some 53) (v := ?_) rfl rfl ?_ ?_
          rotate_left
          · (intro w hSw; (try dsimp only at hSw); ((try obtain ⟨hS0, hS1, hS2, hS3, hS4, hS5, hS6, hS7, hS8⟩ := hSw); go_simp); (try with_reducible rfl))
          simp only [Act.put, stB, stZ, stS]
          refine tk 12 (some 54) (v := ?_) rfl rfl ?_ ?_
          rotate_left
          · (intro w _; go_simp; (try with_reducible rfl))
          simp only [Act.put, stB, stZ, stS]
          refine tk 13 (some 55) (v := ?_) rfl rfl ?_ ?_
          rotate_left
          · (intro w _; go_simp; (try with_reducible rfl))
          simp only [Act.put, stB, stZ, stS]
          refine tk 14 (some 56) (v := ?_) rfl rfl ?_ ?_
          rotate_left
          · (intro w hSw; (try dsimp only at hSw); ((try obtain ⟨hS0, hS1, hS2, hS3, hS4, hS5, hS6, hS7, hS8⟩ := hSw); go_simp); (try with_reducible rfl))
          simp only [Act.put, stB, stZ, stS]
          refine tk 15 (some 57) (v := ?_) rfl rfl ?_ ?_
          rotate_left
          · (intro w hSw; (try dsimp only at hSw); ((try obtain ⟨hS0, hS1, hS2, hS3, hS4, hS5, hS6, hS7, hS8⟩ := hSw); go_simp); (try with_reducible rfl))
          simp only [Act.put, stB, stZ, stS]
          refine wpAnyH_ready (rs := [6]) (by kernel_rfl) (by simp) ?_
          refine (AllReadyH.cons (o := { dst := some 48, op := Op.call { callee := Callee.value (Operand.func 31), args := #[Operand.tmp 45, Operand.tmp 46, Operand.tmp 47], argTypes := #[56, 3, 3] }, type := 40, pos := "prob.go:145", after := #[{ on := 3, ground := Ground.data }, { on := 4, ground := Ground.data }, { on := 5, ground := Ground.data }], guard := none }) rfl (fun K hK => ?_) AllReadyH.nil)
          go_simp
          refine (at_in ma mn mc cols ms k B _ HST.out.mat HCL.out HKL.out HBL.out).mono ?_
          rintro e V1 ⟨mr, v, em, ev, rfl, ho, hb⟩
          unfold Rv.val
          have HVO := Lib.hid ho
          have HC := Lib.hid (HCAN.out mr v em ev)
          have HMV := Lib.hid (show liftM ms k B = v.q from liftM_get em ev)
          replace HST := Lib.hid (HST.out.below hb)
          replace HZ := Lib.hid (HZ.out.call hb)
          replace HSU := Lib.hid (HSU.out.call hb)
          replace HUO := Lib.hid (HUO.out.below hb)
          replace HTO := Lib.hid (HTO.out.below hb)
          replace HSB := Lib.hid ((hb.block sb (lt_of_block HSB.out)).trans HSB.out)
          have hKK := And.intro (hu hb (hHeld.1)) <| And.intro (hu hb (hHeld.2.1)) <| And.intro (hu hb (hHeld.2.2.1)) <| And.intro (hu hb (hHeld.2.2.2.1)) <| And.intro (hu hb (hHeld.2.2.2.2.1)) <| And.intro (hu hb (hHeld.2.2.2.2.2.1)) <| And.intro (hu hb (hHeld.2.2.2.2.2.2.1)) <| And.intro (hu hb (hHeld.2.2.2.2.2.2.2.1)) <| hu hb (hHeld.2.2.2.2.2.2.2.2)
          clear hb ho em ev
          refine hK.out _ _ (hKK) (fun hHeld2 => ?_)
          clear hK K hHeld
          rename _ => hHeld
          try simp only [Act.put, stB, stZ, stS]
          refine wpAnyH_ready (rs := [16]) (by kernel_rfl) (by simp) ?_
          refine (AllReadyH.cons (o := { dst := some 58, op := Op.call { callee := Callee.value (Operand.func 37), args := #[Operand.tmp 53, Operand.tmp 57], argTypes := #[40, 40] }, type := 40, pos := "prob.go:145", after := #[{ on := 11, ground := Ground.data }, { on := 15, ground := Ground.data }, { on := 6, ground := Ground.chain }], guard := none }) rfl (fun K hK => ?_) AllReadyH.nil)
          go_simp
          refine (canSub HC.out.1 u t _ HUO.out HTO.out rfl rfl).mono ?_
          rintro e V2 ⟨p, rfl, ho, hq, hb⟩
          unfold Rv.val
          have HPO := Lib.hid ho
          have HPQ := Lib.hid hq
          replace HVO := Lib.hid (HVO.out.below hb)
          replace HST := Lib.hid (HST.out.below hb)
          replace HZ := Lib.hid (HZ.out.call hb)
          replace HSU := Lib.hid (HSU.out.call hb)
          replace HUO := Lib.hid (HUO.out.below hb)
          replace HTO := Lib.hid (HTO.out.below hb)
          replace HSB := Lib.hid ((hb.block sb (lt_of_block HSB.out)).trans HSB.out)
          have hKK := And.intro (hu hb (hHeld.1)) <| And.intro (hu hb (hHeld.2.1)) <| And.intro (hu hb (hHeld.2.2.1)) <| And.intro (hu hb (hHeld.2.2.2.1)) <| And.intro (hu hb (hHeld.2.2.2.2.1)) <| And.intro (hu hb (hHeld.2.2.2.2.2.1)) <| And.intro (hu hb (hHeld.2.2.2.2.2.2.1)) <| And.intro (hu hb (hHeld.2.2.2.2.2.2.2.1)) <| hu hb (hHeld.2.2.2.2.2.2.2.2)
          clear hb ho hq
          refine hK.out _ _ (hKK) (fun hHeld2 => ?_)
          clear hK K hHeld
          rename _ => hHeld
          try simp only [Act.put, stB, stZ, stS]
          refine wpAnyH_ready (rs := [17]) (by kernel_rfl) (by simp) ?_
          refine (AllReadyH.cons (o := { dst := some 59, op := Op.call { callee := Callee.value (Operand.func 44), args := #[Operand.tmp 48, Operand.tmp 58], argTypes := #[40, 40] }, type := 40, pos := "prob.go:145", after := #[{ on := 6, ground := Ground.data }, { on := 16, ground := Ground.data }, { on := 16, ground := Ground.chain }], guard := none }) rfl (fun K hK => ?_) AllReadyH.nil)
          go_simp
          refine (HC.out.2 v p _ HVO.out HPO.out rfl HPQ.out).mono ?_
          rintro e V3 ⟨y, rfl, ho, hq, hb⟩
          unfold Rv.val
          have HYO := Lib.hid ho
          have HYQ := Lib.hid hq
          replace HST := Lib.hid (HST.out.below hb)
          replace HZ := Lib.hid (HZ.out.call hb)
          replace HSU := Lib.hid (HSU.out.call hb)
          replace HUO := Lib.hid (HUO.out.below hb)
          replace HTO := Lib.hid (HTO.out.below hb)
          replace HSB := Lib.hid ((hb.block sb (lt_of_block HSB.out)).trans HSB.out)
          have hKK := And.intro (hu hb (hHeld.1)) <| And.intro (hu hb (hHeld.2.1)) <| And.intro (hu hb (hHeld.2.2.1)) <| And.intro (hu hb (hHeld.2.2.2.1)) <| And.intro (hu hb (hHeld.2.2.2.2.1)) <| And.intro (hu hb (hHeld.2.2.2.2.2.1)) <| And.intro (hu hb (hHeld.2.2.2.2.2.2.1)) <| And.intro (hu hb (hHeld.2.2.2.2.2.2.2.1)) <| hu hb (hHeld.2.2.2.2.2.2.2.2)
          clear hb ho hq
          refine hK.out _ _ (hKK) (fun hHeld2 => ?_)
          clear hK K hHeld
          rename _ => hHeld
          try simp only [Act.put, stB, stZ, stS]
          refine tk 18 (some 60) (v := ?_) rfl rfl ?_ ?_
          rotate_left
          · (intro w hSw; (try dsimp only at hSw); ((try obtain ⟨hS0, hS1, hS2, hS3, hS4, hS5, hS6, hS7, hS8⟩ := hSw); go_simp); (try with_reducible rfl))
          simp only [Act.put, stB, stZ, stS]
          refine wpAnyH_ready (rs := [19]) (by kernel_rfl) (by simp) ?_
          refine (AllReadyH.cons (o := { dst := none, op := Op.store 40 (Operand.tmp 60) (Operand.tmp 59), type := 0, pos := "prob.go:145", after := #[{ on := 18, ground := Ground.data }, { on := 17, ground := Ground.data }, { on := 17, ground := Ground.chain }, { on := 0, ground := Ground.phase }, { on := 1, ground := Ground.phase }, { on := 2, ground := Ground.phase }, { on := 3, ground := Ground.phase }, { on := 4, ground := Ground.phase }, { on := 5, ground := Ground.phase }, { on := 6, ground := Ground.phase }, { on := 7, ground := Ground.phase }, { on := 8, ground := Ground.phase }, { on := 9, ground := Ground.phase }, { on := 10, ground := Ground.phase }, { on := 11, ground := Ground.phase }, { on := 12, ground := Ground.phase }, { on := 13, ground := Ground.phase }, { on := 14, ground := Ground.phase }, { on := 15, ground := Ground.phase }, { on := 16, ground := Ground.phase }, { on := 17, ground := Ground.phase }], guard := none }) rfl (fun K hK => ?_) AllReadyH.nil)
          obtain ⟨z0, z1, z2⟩ := HZ.out.cell HBL.out
          obtain ⟨y0, z0⟩ := Option.isSome_iff_exists.1 z0
          obtain ⟨y1, z1⟩ := Option.isSome_iff_exists.1 z1
          obtain ⟨y2, z2⟩ := Option.isSome_iff_exists.1 z2
          have f0 := HZ.out.mid.frozen (o5 + B * 3)
          have f1 := HZ.out.mid.frozen (o5 + B * 3 + 1)
          have f2 := HZ.out.mid.frozen (o5 + B * 3 + 2)
          go_simp
          clear z0 z1 z2 f0 f1 f2
          have HZN := Lib.hid (HZ.out.set HBL.out HYO.out)
          have hkp : Keeps V3 (((V3.setCell ⟨g, o5 + B * 3, none⟩ (.bool y.s)).setCell ⟨g, o5 + B * 3 + 1, none⟩ (.slice y.a y.l y.c)).setCell ⟨g, o5 + B * 3 + 2, none⟩ (.slice y.b y.m y.d)) (fun z => z = g) :=
            ((Keeps.setCell _ _ _ (S := fun z => z = g) rfl).trans (Keeps.setCell _ _ _ (S := fun z => z = g) rfl) fun _ _ h => h).trans (Keeps.setCell _ _ _ (S := fun z => z = g) rfl) fun _ _ h => h
          have HSUN := Lib.hid (HSU.out.apart hkp (fun z hz e => HNS2.out (e.symm.trans (Option.some.inj (show some b2 = some z from hz)).symm)) (HZ.out.mid.noWord (by decide)) (HZ.out.mid.lt g rfl).1)
          have HSBN := Lib.hid ((hkp.block sb (lt_of_block HSB.out) (fun e => HNS0.out e.symm)).trans HSB.out)
          clear hkp
          refine hK.out _ _ (And.intro (set3_farK HNS0.out (hHeld.1)) <| And.intro (set3_farK HNS0.out (hHeld.2.1)) <| And.intro (set3_farK HNS0.out (hHeld.2.2.1)) <| And.intro (set3_farK HNS1.out (hHeld.2.2.2.1)) <| And.intro (set3_farK HNS1.out (hHeld.2.2.2.2.1)) <| And.intro (set3_farK HNS1.out (hHeld.2.2.2.2.2.1)) <| And.intro (set3_farK HNS2.out (hHeld.2.2.2.2.2.2.1)) <| And.intro (set3_farK HNS2.out (hHeld.2.2.2.2.2.2.2.1)) <| set3_farK HNS2.out (hHeld.2.2.2.2.2.2.2.2)) (fun hHeld2 => ?_)
          clear hK K hHeld
          rename _ => hHeld
          try simp only [Act.put, stB, stZ, stS]
          refine wpAnyH_done (by kernel_rfl) ?_ _
          (try simp only [Exit.inBlock, Exit.then])
          clear hHeld
          go_wp2_with fail
          go_roundw
          case rel => exact ⟨k + 1, Z.set B y.q, zs.set B y, by omega, by go_num, by rw [HLE.out, HMV.out, ← HYQ.out], HZN.out, HSUN.out, HSBN.out⟩
          case measure => simp [intOf]; omega
      · obtain rfl : k = mn := by omega
        rw [List.drop_of_length_le (by rw [HLL.out]; exact Nat.le_refl _)] at hle
        have HLE := Lib.hid hle
        replace HZ := Lib.hid hz
        clear hle hz hsu hsb
        go_wp2_with fail
        go_ret2
        exact ⟨a5, c5, zs, rfl, by rw [HLE.out]; exact HZ.out⟩
end Go.Proofs.Ytndndfobkbeolaa
namespace Go.Proofs.Ytndndfobkbeolaa
open Go.RowKit
instance (x : Int) : Decidable (I64 x) := inferInstanceAs (Decidable (_ ∧ _))
def AllW (B : Nat) (l : List Rat) : Prop := ∀ q, q ∈ l → Whole B q
theorem AllW.get {B : Nat} {l : List Rat} (h : AllW B l) {k : Nat} {q : Rat} (hk : l[k]? = some q) : Whole B q := h q (List.mem_of_getElem? hk)
theorem AllW.take {B : Nat} {l : List Rat} (h : AllW B l) (k : Nat) : AllW B (l.take k) := fun q hq => h q (List.mem_of_mem_take hq)
theorem AllW.append {B : Nat} {l m : List Rat} (h : AllW B l) (h2 : AllW B m) : AllW B (l ++ m) := fun q hq => (List.mem_append.1 hq).elim (h q) (h2 q)
theorem allW_zeros (B n : Nat) : AllW B (List.replicate n 0) := fun q hq => by rw [List.eq_of_mem_replicate hq]; exact Whole.zero.mono (Nat.zero_le _)
theorem allW_ofI {B : Nat} {l : List Int} (h : ∀ x, x ∈ l → x.natAbs ≤ B) : AllW B (ofI l) := fun q hq => by
  obtain ⟨x, hx, rfl⟩ := List.mem_map.1 hq
  exact ⟨x, rfl, h x hx⟩
theorem dot_whole {B C : Nat} : ∀ (us vs : List Rat), AllW B us → AllW C vs → Whole (us.length * (B * C)) (dotQ us vs)
  | [], vs, _, _ => by rw [dotQ_nil]; exact Whole.zero.mono (Nat.zero_le _)
  | u :: us, [], _, _ => Whole.zero.mono (Nat.zero_le _)
  | u :: us, v :: vs, h1, h2 => by
    have h3 := dot_whole us vs (fun q hq => h1 q (List.mem_cons_of_mem _ hq)) (fun q hq => h2 q (List.mem_cons_of_mem _ hq))
    have h4 := ((h1 u List.mem_cons_self).mul (h2 v List.mem_cons_self)).add h3
    refine h4.mono ?_
    rw [List.length_cons, Nat.succ_mul]; omega
theorem canDot_whole {B C n : Nat} {us vs : List Rat} (h1 : AllW B us) (h2 : AllW C vs) (hn : us.length ≤ n) (hB : B < W64) (hC : C < W64) (hM : n * (B * C) < W64) (hBC : B * C < W64) : CanDot us vs := fun k p q hp hq _ _ => by
  refine ⟨canMul_whole (h1.get hp) (h2.get hq) hB hC, ?_⟩
  refine canAdd_whole (dot_whole _ _ (h1.take k) (h2.take k)) ((h1.get hp).mul (h2.get hq)) (Nat.lt_of_le_of_lt ?_ hM) hBC
  rw [List.length_take]
  exact Nat.mul_le_mul_right _ (by omega)
theorem canDot_k {us vs : List Rat} (h1 : AllW 1000 us) (h2 : AllW 1000 vs) (hn : us.length ≤ 1000) : CanDot us vs := canDot_whole h1 h2 hn (by unfold W64; omega) (by unfold W64; omega) (by unfold W64; omega) (by unfold W64; omega)
theorem dot_k {us vs : List Rat} (h1 : AllW 1000 us) (h2 : AllW 1000 vs) (hn : us.length ≤ 1000) : Whole 1000000000 (dotQ us vs) := (dot_whole us vs h1 h2).mono (Nat.le_trans (Nat.mul_le_mul_right _ hn) (by omega))
theorem canOver_k {r : PRow} {xs : List Rv} (h1 : AllW 1000 (qs r.coef)) (h2 : AllW 1000 (qs xs)) (hn : r.coef.length ≤ 1000) (hr : Whole 1000 r.rhs.q) : CanOver r xs :=
  ⟨canDot_k h1 h2 (by rw [qs_len]; exact hn), canAdd_whole (dot_k h1 h2 (by rw [qs_len]; exact hn)) hr.neg (by unfold W64; omega) (by unfold W64; omega)⟩
theorem Whole.sub {B C : Nat} {p q : Rat} (h1 : Whole B p) (h2 : Whole C q) : Whole (B + C) (p - q) := by rw [Rat.sub_eq_add_neg]; exact h1.add h2.neg
theorem canLift_k {ms : List MRow} {bs : List Rv} {z : List Rat} {ls : List Int} (hm : ∀ r, r ∈ ms → AllW 1000 (qs r.vs) ∧ r.vs.length ≤ 1000) (hb : AllW 1000 (qs bs)) (hz : AllW 1000 z) : CanLift ms bs (sumsOf ms z) ls := fun k B u t mr v _ hu ht hmr hv => by
  have h1 := hm mr (List.mem_of_getElem? hmr)
  have hu2 := hb.get (qs_get hu)
  have hv2 := h1.1.get (qs_get hv)
  have ht2 : Whole 1000000000 t := by
    unfold sumsOf at ht
    rw [List.getElem?_map] at ht
    cases hx : ms[k]? with
    | none => rw [hx] at ht; cases ht
    | some y =>
      rw [hx] at ht
      cases ht
      have h2 := hm y (List.mem_of_getElem? hx)
      exact dot_k h2.1 hz (by rw [qs_len]; exact h2.2)
  exact ⟨canAdd_whole hu2 ht2.neg (by unfold W64; omega) (by unfold W64; omega), canMul_whole hv2 (hu2.sub ht2) (by unfold W64; omega) (by unfold W64; omega)⟩
theorem canSame_whole {B : Nat} {p : Rat} (h : Whole B p) (hB : B < W64) : CanSame p p := canSame_few (h.few hB) (h.few hB)
theorem canCmpV_whole {B : Nat} {us vs : List Rv} (h1 : AllW B (qs us)) (h2 : AllW B (qs vs)) (hB : B < W64) : CanCmpV us vs := fun k u v hu hv => canCmp_few ((h1.get (qs_get hu)).few hB) ((h2.get (qs_get hv)).few hB)
def liftN (M : List (List Rat)) (b : List Rat) (ls : List Int) (z : List Rat) : List Rat := liftAt (fun k j => (M.getD k []).getD j 0) (fun k => b.getD k 0 - (M.map fun r => dotQ r z).getD k 0) 0 ls z
theorem liftQ_eq (ms : List MRow) (bs : List Rv) (ls : List Int) (z : List Rat) : liftQ ms bs ls z = liftN (ms.map fun r => qs r.vs) (qs bs) ls z := by
  unfold liftQ liftN sumsOf liftM
  rw [List.map_map]; rfl
theorem vof_fix (a : Option Addr) (n c : Nat) (l : List Int) (w : World) (h : Sl w 1 (.slice a n c) n (l.map IV)) (hl : l.length = n) (hI : ∀ x, x ∈ l → I64 x) (hn : n ≤ 1000000) : Calls Try.prog 40 #[.slice a n c] w fun e w' => ∃ a' c' vs, e = .returned (.slice a' n c') ∧ VB w (ofI l) a' n c' vs w' :=
  (vof_any a n c l w h hl hI hn).mono fun e w' ⟨a', n', c', vs, he, hv⟩ => by
    have := hv.qlen
    rw [ofI_len, hl] at this
    subst this
    exact ⟨a', c', vs, he, hv⟩
end Go.Proofs.Ytndndfobkbeolaa
namespace Go.Proofs.Ytndndfobkbeolaa
open Go.RowKit Go.Extern.Stop Go.Stop Go.Extern
set_option maxRecDepth 100000 in
set_option maxHeartbeats 16000000 in
theorem awake_any (w : World) : Calls Try.prog 8 #[] w fun e w' => e = .returned (.bool true) ∧ Below w.heap.size w w' := by
  go_enter Try.func8, Try.ntmps8
  go_wp2_with fail
  refine (vof_fix (some ⟨w.heap.size, 0, none⟩) 2 2 [1, 1] (w.alloc (.cells #[.int .i64 1, .int .i64 1] 3)) (Sl.lit w 3 1 2 [IV 1, IV 1] (by unfold maxLen; omega) rfl) rfl (by decide) (by omega)).mono ?_
  rintro e w1 ⟨a1, c1, v1, rfl, h1⟩
  have HB1 := Lib.hid (bthen (belowBox w _) h1.bel)
  have HV1 := Lib.hid h1.vec
  have HQ1 := Lib.hid h1.q
  clear h1
  go_wp2_with fail
  refine (vof_fix (some ⟨w1.heap.size, 0, none⟩) 2 2 [1, 2] (w1.alloc (.cells #[.int .i64 1, .int .i64 2] 3)) (Sl.lit w1 3 1 2 [IV 1, IV 2] (by unfold maxLen; omega) rfl) rfl (by decide) (by omega)).mono ?_
  rintro e w2 ⟨a2, c2, v2, rfl, h2⟩
  have HB2 := Lib.hid (bthen (belowBox w1 _) h2.bel)
  have HV2 := Lib.hid h2.vec
  have HQ2 := Lib.hid h2.q
  clear h2
  go_wp2_with fail
  refine (vint_any 4 _ (by unfold I64; omega)).mono ?_
  rintro e w3 ⟨v3, rfl, ho, hq, hb⟩
  unfold Rv.val
  have HB3 := Lib.hid hb
  have HO3 := Lib.hid ho
  have HQ3 := Lib.hid hq
  clear ho hq hb
  go_wp2_with fail
  refine (vof_fix (some ⟨w3.heap.size, 0, none⟩) 2 2 [3, 1] (w3.alloc (.cells #[.int .i64 3, .int .i64 1] 3)) (Sl.lit w3 3 1 2 [IV 3, IV 1] (by unfold maxLen; omega) rfl) rfl (by decide) (by omega)).mono ?_
  rintro e w4 ⟨a4, c4, v4, rfl, h4⟩
  have HB4 := Lib.hid (bthen (belowBox w3 _) h4.bel)
  have HV4 := Lib.hid h4.vec
  have HQ4 := Lib.hid h4.q
  clear h4
  go_wp2_with fail
  refine (vint_any 9 _ (by unfold I64; omega)).mono ?_
  rintro e w5 ⟨v5, rfl, ho, hq, hb⟩
  unfold Rv.val
  have HB5 := Lib.hid hb
  have HO5 := Lib.hid ho
  have HQ5 := Lib.hid hq
  clear ho hq hb
  go_upto_region 2 with fail
  have b56 := belowBox2 w5 (.cells #[.slice a2 2 c2, .int .i64 2, .bool v3.s, .slice v3.a v3.l v3.c, .slice v3.b v3.m v3.d, .slice a4 2 c4, .int .i64 1, .bool v5.s, .slice v5.a v5.l v5.c, .slice v5.b v5.m v5.d] 45) (.cells #[.slice a1 2 c1, .slice (some ⟨w5.heap.size, 0, none⟩) 2 2] 31)
  have b46 := bthen HB5.out b56
  have b36 := bthen HB4.out b46
  have b26 := bthen HB3.out b36
  have b16 := bthen HB2.out b26
  have b06 := bthen HB1.out b16
  have hrw := (heap2 w5 (.cells #[.slice a2 2 c2, .int .i64 2, .bool v3.s, .slice v3.a v3.l v3.c, .slice v3.b v3.m v3.d, .slice a4 2 c4, .int .i64 1, .bool v5.s, .slice v5.a v5.l v5.c, .slice v5.b v5.m v5.d] 45) (.cells #[.slice a1 2 c1, .slice (some ⟨w5.heap.size, 0, none⟩) 2 2] 31)).1
  have hpb := (heap2 w5 (.cells #[.slice a2 2 c2, .int .i64 2, .bool v3.s, .slice v3.a v3.l v3.c, .slice v3.b v3.m v3.d, .slice a4 2 c4, .int .i64 1, .bool v5.s, .slice v5.a v5.l v5.c, .slice v5.b v5.m v5.d] 45) (.cells #[.slice a1 2 c1, .slice (some ⟨w5.heap.size, 0, none⟩) 2 2] 31)).2
  have HPR := Lib.hid (show PrW ((w5.alloc (.cells #[.slice a2 2 c2, .int .i64 2, .bool v3.s, .slice v3.a v3.l v3.c, .slice v3.b v3.m v3.d, .slice a4 2 c4, .int .i64 1, .bool v5.s, .slice v5.a v5.l v5.c, .slice v5.b v5.m v5.d] 45)).alloc (.cells #[.slice a1 2 c1, .slice (some ⟨w5.heap.size, 0, none⟩) 2 2] 31)) a1 2 c1 (some ⟨w5.heap.size, 0, none⟩) 2 2 v1 [⟨a2, 2, c2, v2, 2, v3⟩, ⟨a4, 2, c4, v4, 1, v5⟩] from
    ⟨HV1.out.below b16, rfl, (Sl.lit w5 45 5 2 [.slice a2 2 c2, .int .i64 2, .bool v3.s, .slice v3.a v3.l v3.c, .slice v3.b v3.m v3.d, .slice a4 2 c4, .int .i64 1, .bool v5.s, .slice v5.a v5.l v5.c, .slice v5.b v5.m v5.d] (by unfold maxLen; omega) rfl).below (belowBox _ _), fun r hr => by
      rcases List.mem_cons.1 hr with rfl | hr
      · exact ⟨HV2.out.below b26, HO3.out.below b36, (by decide : I64 2)⟩
      · rw [List.mem_singleton.1 hr]
        exact ⟨HV4.out.below b46, HO5.out.below b56, (by decide : I64 1)⟩⟩)
  have HB6 := Lib.hid b06
  clear b56 b46 b36 b26 b16 b06 HV1 HV2 HV4 HO3 HO5 HB1 HB2 HB3 HB4 HB5
  generalize w5.heap.size + 1 = pb at hpb ⊢
  generalize w5.heap.size = rb at hrw hpb HPR HB6 ⊢
  generalize (w5.alloc (.cells #[.slice a2 2 c2, .int .i64 2, .bool v3.s, .slice v3.a v3.l v3.c, .slice v3.b v3.m v3.d, .slice a4 2 c4, .int .i64 1, .bool v5.s, .slice v5.a v5.l v5.c, .slice v5.b v5.m v5.d] 45)).alloc (.cells #[.slice a1 2 c1, .slice (some ⟨rb, 0, none⟩) 2 2] 31) = w6 at hrw hpb HPR HB6 ⊢
  have p0 := cell_of_block (j := 0) hpb rfl
  have p1 := cell_of_block (j := 1) hpb rfl
  have x0 := cell_of_block (j := 0) hrw rfl
  have x1 := cell_of_block (j := 1) hrw rfl
  have x2 := cell_of_block (j := 2) hrw rfl
  have x3 := cell_of_block (j := 3) hrw rfl
  have x4 := cell_of_block (j := 4) hrw rfl
  have HLT := Lib.hid (And.intro (lt_of_block hrw) (lt_of_block hpb))
  have HPB := Lib.hid hpb
  have HR0 := Lib.hid (fun (W : World) (hb : Below w6.heap.size w6 W) => (HPR.out.ok _ List.mem_cons_self).below hb)
  have HCO := Lib.hid (fun (v6 : List Rv) (h : qs v6 = ofI [1, 1]) => show CanDot (qs v2) (qs v6) ∧ CanAdd (dotQ (qs v2) (qs v6)) (-v3.q) by
    have h2 : AllW 1000 (qs v2) := by rw [HQ2.out]; exact allW_ofI (by decide)
    have h6 : AllW 1000 (qs v6) := by rw [h]; exact allW_ofI (by decide)
    have hl : (qs v2).length ≤ 1000 := by rw [HQ2.out]; decide
    exact ⟨canDot_k h2 h6 hl, canAdd_whole (dot_k h2 h6 hl) (show Whole 1000 (-v3.q) by rw [HQ3.out]; exact (show Whole 1000 ((4 : Int) : Rat) from ⟨4, rfl, by decide⟩).neg) (by unfold W64; omega) (by unfold W64; omega)⟩)
  clear hrw hpb p0
  go_cut [2, 3] (fun vo v3 wx => ∃ (ob : Nat) (o : Rv), vo = .pointer (some ⟨ob, 0, none⟩) ∧ v3 = .bool true ∧ wx.heap[ob]? = some (.cells #[.bool o.s, .slice o.a o.l o.c, .slice o.b o.m o.d] 40 (0, 0)) ∧ o.ok wx ∧ o.q = -1 ∧ Below w6.heap.size w6 wx)
  case first =>
    have HBD := Lib.hid (show Below w6.heap.size w6 w6.drew from Below.drawn w6 1)
    refine wp_region_held_drew (S := fun W => W.cell? ⟨pb, 1, none⟩ = some (.slice (some ⟨rb, 0, none⟩) 2 2) ∧ W.cell? ⟨rb, 0, none⟩ = some (.slice a2 2 c2) ∧ W.cell? ⟨rb, 1, none⟩ = some (.int .i64 2) ∧ W.cell? ⟨rb, 2, none⟩ = some (.bool v3.s) ∧ W.cell? ⟨rb, 3, none⟩ = some (.slice v3.a v3.l v3.c) ∧ W.cell? ⟨rb, 4, none⟩ = some (.slice v3.b v3.m v3.d)) (by kernel_rfl) (⟨p1, x0, x1, x2, x3, x4⟩) (fun hHeld => ?_)
    generalize w6.drew = wd at HBD hHeld ⊢
    refine tk 0 (some 21) (v := ?_) rfl rfl ?_ ?_
    rotate_left
    · (intro w _; go_simp; (try with_reducible rfl))
    simp only [Act.put, stB, stZ, stS]
    refine tk 1 (some 22) (v := ?_) rfl rfl ?_ ?_
    rotate_left
    · (intro w hSw; (try dsimp only at hSw); ((try obtain ⟨hS0, hS1, hS2, hS3, hS4, hS5⟩ := hSw); go_simp); (try with_reducible rfl))
    simp only [Act.put, stB, stZ, stS]
    refine tk 2 (some 23) (v := ?_) rfl rfl ?_ ?_
    rotate_left
    · (intro w hSw; (try dsimp only at hSw); ((try obtain ⟨hS0, hS1, hS2, hS3, hS4, hS5⟩ := hSw); go_simp); (try with_reducible rfl))
    simp only [Act.put, stB, stZ, stS]
    refine tk 3 (some 24) (v := ?_) rfl rfl ?_ ?_
    rotate_left
    · (intro w hSw; (try dsimp only at hSw); ((try obtain ⟨hS0, hS1, hS2, hS3, hS4, hS5⟩ := hSw); go_simp); (try with_reducible rfl))
    simp only [Act.put, stB, stZ, stS]
    refine wpAnyH_ready (rs := [4, 10]) (by kernel_rfl) (by simp) ?_
    refine (AllReadyH.cons (o := { dst := some 25, op := Op.buildSlice 57 2 #[(0, Operand.const (Value.int IntKind.i64 1)), (1, Operand.const (Value.int IntKind.i64 1))], type := 57, pos := "law.go:37", after := #[], guard := none }) rfl (fun K hK => ?_) (AllReadyH.cons (o := { dst := some 2, op := Op.alloc 40, type := 0, pos := "law.go:37", after := #[], guard := none }) rfl (fun K hK => ?_) AllReadyH.nil))
    · skip
      go_simp
      have hb := belowBox wd (.cells #[.int .i64 1, .int .i64 1] 3)
      have HSL := Lib.hid (show Sl (wd.alloc (.cells #[.int .i64 1, .int .i64 1] 3)) 1 (.slice (some ⟨wd.heap.size, 0, none⟩) 2 2) 2 ([1, 1].map IV) from Sl.lit wd 3 1 2 [IV 1, IV 1] (by unfold maxLen; omega) rfl)
      replace HBD := Lib.hid (bthen HBD.out hb)
      have hKK := And.intro (hu hb (hHeld.1)) <| And.intro (hu hb (hHeld.2.1)) <| And.intro (hu hb (hHeld.2.2.1)) <| And.intro (hu hb (hHeld.2.2.2.1)) <| And.intro (hu hb (hHeld.2.2.2.2.1)) <| hu hb (hHeld.2.2.2.2.2)
      clear hb
      generalize wd.heap.size = g6 at HSL ⊢
      generalize wd.alloc (.cells #[.int .i64 1, .int .i64 1] 3) = X1 at HBD HSL hKK ⊢
      refine hK.out _ _ (hKK) (fun hHeld2 => ?_)
      clear hK K hHeld
      rename _ => hHeld
      try simp only [Act.put, stB, stZ, stS]
      refine wpAnyH_ready (rs := [5, 10]) (by kernel_rfl) (by simp) ?_
      refine (AllReadyH.cons (o := { dst := some 26, op := Op.call { callee := Callee.value (Operand.func 40), args := #[Operand.tmp 25], argTypes := #[57] }, type := 28, pos := "law.go:37", after := #[{ on := 4, ground := Ground.data }], guard := none }) rfl (fun K hK => ?_) (AllReadyH.cons (o := { dst := some 2, op := Op.alloc 40, type := 0, pos := "law.go:37", after := #[], guard := none }) rfl (fun K hK => ?_) AllReadyH.nil))
      · skip
        go_simp
        refine (vof_fix _ 2 2 [1, 1] _ HSL.out rfl (by decide) (by omega)).mono ?_
        rintro e X2 ⟨a6, c6, v6, rfl, h6⟩
        have hb := h6.bel
        have HV6 := Lib.hid h6.vec
        have HQ6 := Lib.hid h6.q
        clear h6
        replace HBD := Lib.hid (bthen HBD.out hb)
        have hKK := And.intro (hu hb (hHeld.1)) <| And.intro (hu hb (hHeld.2.1)) <| And.intro (hu hb (hHeld.2.2.1)) <| And.intro (hu hb (hHeld.2.2.2.1)) <| And.intro (hu hb (hHeld.2.2.2.2.1)) <| hu hb (hHeld.2.2.2.2.2)
        clear hb HSL
        refine hK.out _ _ (hKK) (fun hHeld2 => ?_)
        clear hK K hHeld
        rename _ => hHeld
        try simp only [Act.put, stB, stZ, stS]
        refine wpAnyH_ready (rs := [6, 10]) (by kernel_rfl) (by simp) ?_
        refine (AllReadyH.cons (o := { dst := some 27, op := Op.call { callee := Callee.value (Operand.func 13), args := #[Operand.tmp 24, Operand.tmp 26], argTypes := #[45, 28] }, type := 41, pos := "law.go:37", after := #[{ on := 3, ground := Ground.data }, { on := 5, ground := Ground.data }, { on := 5, ground := Ground.chain }], guard := none }) rfl (fun K hK => ?_) (AllReadyH.cons (o := { dst := some 2, op := Op.alloc 40, type := 0, pos := "law.go:37", after := #[], guard := none }) rfl (fun K hK => ?_) AllReadyH.nil))
        · skip
          go_simp
          have hr0 := HR0.out X2 HBD.out
          refine (over_eq a2 2 c2 2 v3 v2 a6 c6 v6 X2 hr0.vec hr0.rhs HV6.out (HCO.out v6 HQ6.out).1 (HCO.out v6 HQ6.out).2).mono ?_
          rintro e X3 ⟨o, rfl, ho, hq, hb⟩
          unfold Rv.val
          have HOO := Lib.hid ho
          have HOQ := Lib.hid (show o.q = -1 by rw [hq, HQ6.out, HQ2.out, HQ3.out]; decide +kernel)
          clear ho hq hr0
          replace HBD := Lib.hid (bthen HBD.out hb)
          replace HV6 := Lib.hid (HV6.out.below hb)
          have hKK := And.intro (hu hb (hHeld.1)) <| And.intro (hu hb (hHeld.2.1)) <| And.intro (hu hb (hHeld.2.2.1)) <| And.intro (hu hb (hHeld.2.2.2.1)) <| And.intro (hu hb (hHeld.2.2.2.2.1)) <| hu hb (hHeld.2.2.2.2.2)
          clear hb
          refine hK.out _ _ (hKK) (fun hHeld2 => ?_)
          clear hK K hHeld
          rename _ => hHeld
          try simp only [Act.put, stB, stZ, stS]
          refine tk 7 (some 20) (v := ?_) rfl rfl ?_ ?_
          rotate_left
          · (intro w _; go_simp; (try with_reducible rfl))
          simp only [Act.put, stB, stZ, stS]
          refine tk 8 (some 28) (v := ?_) rfl rfl ?_ ?_
          rotate_left
          · (intro w _; go_simp; (try with_reducible rfl))
          simp only [Act.put, stB, stZ, stS]
          refine tk 9 (some 29) (v := ?_) rfl rfl ?_ ?_
          rotate_left
          · (intro w _; go_simp; (try with_reducible rfl))
          simp only [Act.put, stB, stZ, stS]
          refine wpAnyH_ready (rs := [10]) (by kernel_rfl) (by simp) ?_
          refine (AllReadyH.cons (o := { dst := some 2, op := Op.alloc 40, type := 0, pos := "law.go:37", after := #[], guard := none }) rfl (fun K hK => ?_) AllReadyH.nil)
          go_simp
          have hb := belowBox X3 (.cells #[.bool false, .slice none 0 0, .slice none 0 0] 40)
          have HOB := Lib.hid (heap_alloc_new X3 (.cells #[.bool false, .slice none 0 0, .slice none 0 0] 40))
          have HOG := Lib.hid (show w6.heap.size ≤ X3.heap.size from HBD.out.size)
          replace HBD := Lib.hid (bthen HBD.out hb)
          replace HV6 := Lib.hid (HV6.out.below hb)
          replace HOO := Lib.hid (HOO.out.below hb)
          have hKK := And.intro (hu hb (hHeld.1)) <| And.intro (hu hb (hHeld.2.1)) <| And.intro (hu hb (hHeld.2.2.1)) <| And.intro (hu hb (hHeld.2.2.2.1)) <| And.intro (hu hb (hHeld.2.2.2.2.1)) <| hu hb (hHeld.2.2.2.2.2)
          clear hb
          generalize X3.heap.size = ob at HOB HOG ⊢
          generalize X3.alloc (.cells #[.bool false, .slice none 0 0, .slice none 0 0] 40) = X4 at HBD HV6 HOO HOB hKK ⊢
          refine hK.out _ _ (hKK) (fun hHeld2 => ?_)
          clear hK K hHeld
          rename _ => hHeld
          try simp only [Act.put, stB, stZ, stS]
          refine wpAnyH_ready (rs := [11]) (by kernel_rfl) (by simp) ?_
          refine (AllReadyH.cons (o := { dst := none, op := Op.store 40 (Operand.tmp 2) (Operand.tmp 28), type := 0, pos := "law.go:37", after := #[{ on := 10, ground := Ground.data }, { on := 8, ground := Ground.data }, { on := 6, ground := Ground.chain }, { on := 0, ground := Ground.phase }, { on := 1, ground := Ground.phase }, { on := 2, ground := Ground.phase }, { on := 3, ground := Ground.phase }, { on := 4, ground := Ground.phase }, { on := 5, ground := Ground.phase }, { on := 6, ground := Ground.phase }, { on := 7, ground := Ground.phase }, { on := 8, ground := Ground.phase }, { on := 9, ground := Ground.textOnly Departure.lateStores }, { on := 10, ground := Ground.phase }], guard := none }) rfl (fun K hK => ?_) AllReadyH.nil)
          have k0 := cell_of_block (j := 0) HOB.out rfl
          have k1 := cell_of_block (j := 1) HOB.out rfl
          have k2 := cell_of_block (j := 2) HOB.out rfl
          have f0 : X4.frozen? ⟨ob, 0, none⟩ = false := free_of_block HOB.out
          have f1 : X4.frozen? ⟨ob, 1, none⟩ = false := free_of_block HOB.out
          have f2 : X4.frozen? ⟨ob, 2, none⟩ = false := free_of_block HOB.out
          go_simp
          clear k0 k1 k2 f0 f1 f2
          have HOS := Lib.hid (set3_heap X4 ob _ _ _ (.bool o.s) (.slice o.a o.l o.c) (.slice o.b o.m o.d) _ HOB.out)
          have HOK := Lib.hid (HOO.out.keeps (set3k X4 ob (.bool o.s) (.slice o.a o.l o.c) (.slice o.b o.m o.d)) fun z hz => by rw [hz]; exact noWord_of HOB.out (by decide))
          have HBE := Lib.hid (show Below w6.heap.size w6 (((X4.setCell ⟨ob, 0, none⟩ (.bool o.s)).setCell ⟨ob, 1, none⟩ (.slice o.a o.l o.c)).setCell ⟨ob, 2, none⟩ (.slice o.b o.m o.d)) from ((HBD.out.setCell HOG.out _).setCell HOG.out _).setCell HOG.out _)
          refine hK.out _ _ (And.intro (set3_far (show ob ≠ pb by have h1 := HLT.out; have h2 := HOG.out; omega) (hHeld.1)) <| And.intro (set3_far (show ob ≠ rb by have h1 := HLT.out; have h2 := HOG.out; omega) (hHeld.2.1)) <| And.intro (set3_far (show ob ≠ rb by have h1 := HLT.out; have h2 := HOG.out; omega) (hHeld.2.2.1)) <| And.intro (set3_far (show ob ≠ rb by have h1 := HLT.out; have h2 := HOG.out; omega) (hHeld.2.2.2.1)) <| And.intro (set3_far (show ob ≠ rb by have h1 := HLT.out; have h2 := HOG.out; omega) (hHeld.2.2.2.2.1)) <| set3_far (show ob ≠ rb by have h1 := HLT.out; have h2 := HOG.out; omega) (hHeld.2.2.2.2.2)) (fun hHeld2 => ?_)
          clear hK K hHeld
          rename _ => hHeld
          try simp only [Act.put, stB, stZ, stS]
          refine tk 12 (some 3) (v := ?_) rfl rfl ?_ ?_
          rotate_left
          · (intro w _; go_simp; (try with_reducible rfl))
          simp only [Act.put, stB, stZ, stS]
          refine wpAnyH_done (by kernel_rfl) ?_ _
          (try simp only [Exit.inBlock, Exit.then])
          clear hHeld
          go_wp2_with fail
          go_meet
          exact ⟨ob, o, rfl, rfl, HOS.out, HOK.out, HOQ.out, HBE.out⟩
        · skip
          go_simp
          have hb := belowBox X2 (.cells #[.bool false, .slice none 0 0, .slice none 0 0] 40)
          have HOB := Lib.hid (heap_alloc_new X2 (.cells #[.bool false, .slice none 0 0, .slice none 0 0] 40))
          have HOG := Lib.hid (show w6.heap.size ≤ X2.heap.size from HBD.out.size)
          replace HBD := Lib.hid (bthen HBD.out hb)
          replace HV6 := Lib.hid (HV6.out.below hb)
          have hKK := And.intro (hu hb (hHeld.1)) <| And.intro (hu hb (hHeld.2.1)) <| And.intro (hu hb (hHeld.2.2.1)) <| And.intro (hu hb (hHeld.2.2.2.1)) <| And.intro (hu hb (hHeld.2.2.2.2.1)) <| hu hb (hHeld.2.2.2.2.2)
          clear hb
          generalize X2.heap.size = ob at HOB HOG ⊢
          generalize X2.alloc (.cells #[.bool false, .slice none 0 0, .slice none 0 0] 40) = X3 at HBD HV6 HOB hKK ⊢
          refine hK.out _ _ (hKK) (fun hHeld2 => ?_)
          clear hK K hHeld
          rename _ => hHeld
          try simp only [Act.put, stB, stZ, stS]
          refine wpAnyH_ready (rs := [6]) (by kernel_rfl) (by simp) ?_
          refine (AllReadyH.cons (o := { dst := some 27, op := Op.call { callee := Callee.value (Operand.func 13), args := #[Operand.tmp 24, Operand.tmp 26], argTypes := #[45, 28] }, type := 41, pos := "law.go:37", after := #[{ on := 3, ground := Ground.data }, { on := 5, ground := Ground.data }, { on := 5, ground := Ground.chain }], guard := none }) rfl (fun K hK => ?_) AllReadyH.nil)
          go_simp
          have hr0 := HR0.out X3 HBD.out
          refine (over_eq a2 2 c2 2 v3 v2 a6 c6 v6 X3 hr0.vec hr0.rhs HV6.out (HCO.out v6 HQ6.out).1 (HCO.out v6 HQ6.out).2).mono ?_
          rintro e X4 ⟨o, rfl, ho, hq, hb⟩
          unfold Rv.val
          have HOO := Lib.hid ho
          have HOQ := Lib.hid (show o.q = -1 by rw [hq, HQ6.out, HQ2.out, HQ3.out]; decide +kernel)
          clear ho hq hr0
          replace HBD := Lib.hid (bthen HBD.out hb)
          replace HOB := Lib.hid ((hb.block _ (lt_of_block HOB.out)).trans HOB.out)
          replace HV6 := Lib.hid (HV6.out.below hb)
          have hKK := And.intro (hu hb (hHeld.1)) <| And.intro (hu hb (hHeld.2.1)) <| And.intro (hu hb (hHeld.2.2.1)) <| And.intro (hu hb (hHeld.2.2.2.1)) <| And.intro (hu hb (hHeld.2.2.2.2.1)) <| hu hb (hHeld.2.2.2.2.2)
          clear hb
          refine hK.out _ _ (hKK) (fun hHeld2 => ?_)
          clear hK K hHeld
          rename _ => hHeld
          try simp only [Act.put, stB, stZ, stS]
          refine tk 7 (some 20) (v := ?_) rfl rfl ?_ ?_
          rotate_left
          · (intro w _; go_simp; (try with_reducible rfl))
          simp only [Act.put, stB, stZ, stS]
          refine tk 8 (some 28) (v := ?_) rfl rfl ?_ ?_
          rotate_left
          · (intro w _; go_simp; (try with_reducible rfl))
          simp only [Act.put, stB, stZ, stS]
          refine tk 9 (some 29) (v := ?_) rfl rfl ?_ ?_
          rotate_left
          · (intro w _; go_simp; (try with_reducible rfl))
          simp only [Act.put, stB, stZ, stS]
          refine wpAnyH_ready (rs := [11]) (by kernel_rfl) (by simp) ?_
          refine (AllReadyH.cons (o := { dst := none, op := Op.store 40 (Operand.tmp 2) (Operand.tmp 28), type := 0, pos := "law.go:37", after := #[{ on := 10, ground := Ground.data }, { on := 8, ground := Ground.data }, { on := 6, ground := Ground.chain }, { on := 0, ground := Ground.phase }, { on := 1, ground := Ground.phase }, { on := 2, ground := Ground.phase }, { on := 3, ground := Ground.phase }, { on := 4, ground := Ground.phase }, { on := 5, ground := Ground.phase }, { on := 6, ground := Ground.phase }, { on := 7, ground := Ground.phase }, { on := 8, ground := Ground.phase }, { on := 9, ground := Ground.textOnly Departure.lateStores }, { on := 10, ground := Ground.phase }], guard := none }) rfl (fun K hK => ?_) AllReadyH.nil)
          have k0 := cell_of_block (j := 0) HOB.out rfl
          have k1 := cell_of_block (j := 1) HOB.out rfl
          have k2 := cell_of_block (j := 2) HOB.out rfl
          have f0 : X4.frozen? ⟨ob, 0, none⟩ = false := free_of_block HOB.out
          have f1 : X4.frozen? ⟨ob, 1, none⟩ = false := free_of_block HOB.out
          have f2 : X4.frozen? ⟨ob, 2, none⟩ = false := free_of_block HOB.out
          go_simp
          clear k0 k1 k2 f0 f1 f2
          have HOS := Lib.hid (set3_heap X4 ob _ _ _ (.bool o.s) (.slice o.a o.l o.c) (.slice o.b o.m o.d) _ HOB.out)
          have HOK := Lib.hid (HOO.out.keeps (set3k X4 ob (.bool o.s) (.slice o.a o.l o.c) (.slice o.b o.m o.d)) fun z hz => by rw [hz]; exact noWord_of HOB.out (by decide))
          have HBE := Lib.hid (show Below w6.heap.size w6 (((X4.setCell ⟨ob, 0, none⟩ (.bool o.s)).setCell ⟨ob, 1, none⟩ (.slice o.a o.l o.c)).setCell ⟨ob, 2, none⟩ (.slice o.b o.m o.d)) from ((HBD.out.setCell HOG.out _).setCell HOG.out _).setCell HOG.out _)
          refine hK.out _ _ (And.intro (set3_far (show ob ≠ pb by have h1 := HLT.out; have h2 := HOG.out; omega) (hHeld.1)) <| And.intro (set3_far (show ob ≠ rb by have h1 := HLT.out; have h2 := HOG.out; omega) (hHeld.2.1)) <| And.intro (set3_far (show ob ≠ rb by have h1 := HLT.out; have h2 := HOG.out; omega) (hHeld.2.2.1)) <| And.intro (set3_far (show ob ≠ rb by have h1 := HLT.out; have h2 := HOG.out; omega) (hHeld.2.2.2.1)) <| And.intro (set3_far (show ob ≠ rb by have h1 := HLT.out; have h2 := HOG.out; omega) (hHeld.2.2.2.2.1)) <| set3_far (show ob ≠ rb by have h1 := HLT.out; have h2 := HOG.out; omega) (hHeld.2.2.2.2.2)) (fun hHeld2 => ?_)
          clear hK K hHeld
          rename _ => hHeld
          try simp only [Act.put, stB, stZ, stS]
          refine tk 12 (some 3) (v := ?_) rfl rfl ?_ ?_
          rotate_left
          · (intro w _; go_simp; (try with_reducible rfl))
          simp only [Act.put, stB, stZ, stS]
          refine wpAnyH_done (by kernel_rfl) ?_ _
          (try simp only [Exit.inBlock, Exit.then])
          clear hHeld
          go_wp2_with fail
          go_meet
          exact ⟨ob, o, rfl, rfl, HOS.out, HOK.out, HOQ.out, HBE.out⟩
      · skip
        go_simp
        have hb := belowBox X1 (.cells #[.bool false, .slice none 0 0, .slice none 0 0] 40)
        have HOB := Lib.hid (heap_alloc_new X1 (.cells #[.bool false, .slice none 0 0, .slice none 0 0] 40))
        have HOG := Lib.hid (show w6.heap.size ≤ X1.heap.size from HBD.out.size)
        replace HBD := Lib.hid (bthen HBD.out hb)
        replace HSL := Lib.hid (HSL.out.below hb)
        have hKK := And.intro (hu hb (hHeld.1)) <| And.intro (hu hb (hHeld.2.1)) <| And.intro (hu hb (hHeld.2.2.1)) <| And.intro (hu hb (hHeld.2.2.2.1)) <| And.intro (hu hb (hHeld.2.2.2.2.1)) <| hu hb (hHeld.2.2.2.2.2)
        clear hb
        generalize X1.heap.size = ob at HOB HOG ⊢
        generalize X1.alloc (.cells #[.bool false, .slice none 0 0, .slice none 0 0] 40) = X2 at HBD HSL HOB hKK ⊢
        refine hK.out _ _ (hKK) (fun hHeld2 => ?_)
        clear hK K hHeld
        rename _ => hHeld
        try simp only [Act.put, stB, stZ, stS]
        refine wpAnyH_ready (rs := [5]) (by kernel_rfl) (by simp) ?_
        refine (AllReadyH.cons (o := { dst := some 26, op := Op.call { callee := Callee.value (Operand.func 40), args := #[Operand.tmp 25], argTypes := #[57] }, type := 28, pos := "law.go:37", after := #[{ on := 4, ground := Ground.data }], guard := none }) rfl (fun K hK => ?_) AllReadyH.nil)
        go_simp
        refine (vof_fix _ 2 2 [1, 1] _ HSL.out rfl (by decide) (by omega)).mono ?_
        rintro e X3 ⟨a6, c6, v6, rfl, h6⟩
        have hb := h6.bel
        have HV6 := Lib.hid h6.vec
        have HQ6 := Lib.hid h6.q
        clear h6
        replace HBD := Lib.hid (bthen HBD.out hb)
        replace HOB := Lib.hid ((hb.block _ (lt_of_block HOB.out)).trans HOB.out)
        have hKK := And.intro (hu hb (hHeld.1)) <| And.intro (hu hb (hHeld.2.1)) <| And.intro (hu hb (hHeld.2.2.1)) <| And.intro (hu hb (hHeld.2.2.2.1)) <| And.intro (hu hb (hHeld.2.2.2.2.1)) <| hu hb (hHeld.2.2.2.2.2)
        clear hb HSL
        refine hK.out _ _ (hKK) (fun hHeld2 => ?_)
        clear hK K hHeld
        rename _ => hHeld
        try simp only [Act.put, stB, stZ, stS]
        refine wpAnyH_ready (rs := [6]) (by kernel_rfl) (by simp) ?_
        refine (AllReadyH.cons (o := { dst := some 27, op := Op.call { callee := Callee.value (Operand.func 13), args := #[Operand.tmp 24, Operand.tmp 26], argTypes := #[45, 28] }, type := 41, pos := "law.go:37", after := #[{ on := 3, ground := Ground.data }, { on := 5, ground := Ground.data }, { on := 5, ground := Ground.chain }], guard := none }) rfl (fun K hK => ?_) AllReadyH.nil)
        go_simp
        have hr0 := HR0.out X3 HBD.out
        refine (over_eq a2 2 c2 2 v3 v2 a6 c6 v6 X3 hr0.vec hr0.rhs HV6.out (HCO.out v6 HQ6.out).1 (HCO.out v6 HQ6.out).2).mono ?_
        rintro e X4 ⟨o, rfl, ho, hq, hb⟩
        unfold Rv.val
        have HOO := Lib.hid ho
        have HOQ := Lib.hid (show o.q = -1 by rw [hq, HQ6.out, HQ2.out, HQ3.out]; decide +kernel)
        clear ho hq hr0
        replace HBD := Lib.hid (bthen HBD.out hb)
        replace HOB := Lib.hid ((hb.block _ (lt_of_block HOB.out)).trans HOB.out)
        replace HV6 := Lib.hid (HV6.out.below hb)
        have hKK := And.intro (hu hb (hHeld.1)) <| And.intro (hu hb (hHeld.2.1)) <| And.intro (hu hb (hHeld.2.2.1)) <| And.intro (hu hb (hHeld.2.2.2.1)) <| And.intro (hu hb (hHeld.2.2.2.2.1)) <| hu hb (hHeld.2.2.2.2.2)
        clear hb
        refine hK.out _ _ (hKK) (fun hHeld2 => ?_)
        clear hK K hHeld
        rename _ => hHeld
        try simp only [Act.put, stB, stZ, stS]
        refine tk 7 (some 20) (v := ?_) rfl rfl ?_ ?_
        rotate_left
        · (intro w _; go_simp; (try with_reducible rfl))
        simp only [Act.put, stB, stZ, stS]
        refine tk 8 (some 28) (v := ?_) rfl rfl ?_ ?_
        rotate_left
        · (intro w _; go_simp; (try with_reducible rfl))
        simp only [Act.put, stB, stZ, stS]
        refine tk 9 (some 29) (v := ?_) rfl rfl ?_ ?_
        rotate_left
        · (intro w _; go_simp; (try with_reducible rfl))
        simp only [Act.put, stB, stZ, stS]
        refine wpAnyH_ready (rs := [11]) (by kernel_rfl) (by simp) ?_
        refine (AllReadyH.cons (o := { dst := none, op := Op.store 40 (Operand.tmp 2) (Operand.tmp 28), type := 0, pos := "law.go:37", after := #[{ on := 10, ground := Ground.data }, { on := 8, ground := Ground.data }, { on := 6, ground := Ground.chain }, { on := 0, ground := Ground.phase }, { on := 1, ground := Ground.phase }, { on := 2, ground := Ground.phase }, { on := 3, ground := Ground.phase }, { on := 4, ground := Ground.phase }, { on := 5, ground := Ground.phase }, { on := 6, ground := Ground.phase }, { on := 7, ground := Ground.phase }, { on := 8, ground := Ground.phase }, { on := 9, ground := Ground.textOnly Departure.lateStores }, { on := 10, ground := Ground.phase }], guard := none }) rfl (fun K hK => ?_) AllReadyH.nil)
        have k0 := cell_of_block (j := 0) HOB.out rfl
        have k1 := cell_of_block (j := 1) HOB.out rfl
        have k2 := cell_of_block (j := 2) HOB.out rfl
        have f0 : X4.frozen? ⟨ob, 0, none⟩ = false := free_of_block HOB.out
        have f1 : X4.frozen? ⟨ob, 1, none⟩ = false := free_of_block HOB.out
        have f2 : X4.frozen? ⟨ob, 2, none⟩ = false := free_of_block HOB.out
        go_simp
        clear k0 k1 k2 f0 f1 f2
        have HOS := Lib.hid (set3_heap X4 ob _ _ _ (.bool o.s) (.slice o.a o.l o.c) (.slice o.b o.m o.d) _ HOB.out)
        have HOK := Lib.hid (HOO.out.keeps (set3k X4 ob (.bool o.s) (.slice o.a o.l o.c) (.slice o.b o.m o.d)) fun z hz => by rw [hz]; exact noWord_of HOB.out (by decide))
        have HBE := Lib.hid (show Below w6.heap.size w6 (((X4.setCell ⟨ob, 0, none⟩ (.bool o.s)).setCell ⟨ob, 1, none⟩ (.slice o.a o.l o.c)).setCell ⟨ob, 2, none⟩ (.slice o.b o.m o.d)) from ((HBD.out.setCell HOG.out _).setCell HOG.out _).setCell HOG.out _)
        refine hK.out _ _ (And.intro (set3_far (show ob ≠ pb by have h1 := HLT.out; have h2 := HOG.out; omega) (hHeld.1)) <| And.intro (set3_far (show ob ≠ rb by have h1 := HLT.out; have h2 := HOG.out; omega) (hHeld.2.1)) <| And.intro (set3_far (show ob ≠ rb by have h1 := HLT.out; have h2 := HOG.out; omega) (hHeld.2.2.1)) <| And.intro (set3_far (show ob ≠ rb by have h1 := HLT.out; have h2 := HOG.out; omega) (hHeld.2.2.2.1)) <| And.intro (set3_far (show ob ≠ rb by have h1 := HLT.out; have h2 := HOG.out; omega) (hHeld.2.2.2.2.1)) <| set3_far (show ob ≠ rb by have h1 := HLT.out; have h2 := HOG.out; omega) (hHeld.2.2.2.2.2)) (fun hHeld2 => ?_)
        clear hK K hHeld
        rename _ => hHeld
        try simp only [Act.put, stB, stZ, stS]
        refine tk 12 (some 3) (v := ?_) rfl rfl ?_ ?_
        rotate_left
        · (intro w _; go_simp; (try with_reducible rfl))
        simp only [Act.put, stB, stZ, stS]
        refine wpAnyH_done (by kernel_rfl) ?_ _
        (try simp only [Exit.inBlock, Exit.then])
        clear hHeld
        go_wp2_with fail
        go_meet
        exact ⟨ob, o, rfl, rfl, HOS.out, HOK.out, HOQ.out, HBE.out⟩
    · skip
      go_simp
      have hb := belowBox wd (.cells #[.bool false, .slice none 0 0, .slice none 0 0] 40)
      have HOB := Lib.hid (heap_alloc_new wd (.cells #[.bool false, .slice none 0 0, .slice none 0 0] 40))
      have HOG := Lib.hid (show w6.heap.size ≤ wd.heap.size from HBD.out.size)
      replace HBD := Lib.hid (bthen HBD.out hb)
      have hKK := And.intro (hu hb (hHeld.1)) <| And.intro (hu hb (hHeld.2.1)) <| And.intro (hu hb (hHeld.2.2.1)) <| And.intro (hu hb (hHeld.2.2.2.1)) <| And.intro (hu hb (hHeld.2.2.2.2.1)) <| hu hb (hHeld.2.2.2.2.2)
      clear hb
      generalize wd.heap.size = ob at HOB HOG ⊢
      generalize wd.alloc (.cells #[.bool false, .slice none 0 0, .slice none 0 0] 40) = X1 at HBD HOB hKK ⊢
      refine hK.out _ _ (hKK) (fun hHeld2 => ?_)
      clear hK K hHeld
      rename _ => hHeld
      try simp only [Act.put, stB, stZ, stS]
      refine wpAnyH_ready (rs := [4]) (by kernel_rfl) (by simp) ?_
      refine (AllReadyH.cons (o := { dst := some 25, op := Op.buildSlice 57 2 #[(0, Operand.const (Value.int IntKind.i64 1)), (1, Operand.const (Value.int IntKind.i64 1))], type := 57, pos := "law.go:37", after := #[], guard := none }) rfl (fun K hK => ?_) AllReadyH.nil)
      go_simp
      have hb := belowBox X1 (.cells #[.int .i64 1, .int .i64 1] 3)
      have HSL := Lib.hid (show Sl (X1.alloc (.cells #[.int .i64 1, .int .i64 1] 3)) 1 (.slice (some ⟨X1.heap.size, 0, none⟩) 2 2) 2 ([1, 1].map IV) from Sl.lit X1 3 1 2 [IV 1, IV 1] (by unfold maxLen; omega) rfl)
      replace HBD := Lib.hid (bthen HBD.out hb)
      replace HOB := Lib.hid ((hb.block _ (lt_of_block HOB.out)).trans HOB.out)
      have hKK := And.intro (hu hb (hHeld.1)) <| And.intro (hu hb (hHeld.2.1)) <| And.intro (hu hb (hHeld.2.2.1)) <| And.intro (hu hb (hHeld.2.2.2.1)) <| And.intro (hu hb (hHeld.2.2.2.2.1)) <| hu hb (hHeld.2.2.2.2.2)
      clear hb
      generalize X1.heap.size = g6 at HSL ⊢
      generalize X1.alloc (.cells #[.int .i64 1, .int .i64 1] 3) = X2 at HBD HOB HSL hKK ⊢
      refine hK.out _ _ (hKK) (fun hHeld2 => ?_)
      clear hK K hHeld
      rename _ => hHeld
      try simp only [Act.put, stB, stZ, stS]
      refine wpAnyH_ready (rs := [5]) (by kernel_rfl) (by simp) ?_
      refine (AllReadyH.cons (o := { dst := some 26, op := Op.call { callee := Callee.value (Operand.func 40), args := #[Operand.tmp 25], argTypes := #[57] }, type := 28, pos := "law.go:37", after := #[{ on := 4, ground := Ground.data }], guard := none }) rfl (fun K hK => ?_) AllReadyH.nil)
      go_simp
      refine (vof_fix _ 2 2 [1, 1] _ HSL.out rfl (by decide) (by omega)).mono ?_
      rintro e X3 ⟨a6, c6, v6, rfl, h6⟩
      have hb := h6.bel
      have HV6 := Lib.hid h6.vec
      have HQ6 := Lib.hid h6.q
      clear h6
      replace HBD := Lib.hid (bthen HBD.out hb)
      replace HOB := Lib.hid ((hb.block _ (lt_of_block HOB.out)).trans HOB.out)
      have hKK := And.intro (hu hb (hHeld.1)) <| And.intro (hu hb (hHeld.2.1)) <| And.intro (hu hb (hHeld.2.2.1)) <| And.intro (hu hb (hHeld.2.2.2.1)) <| And.intro (hu hb (hHeld.2.2.2.2.1)) <| hu hb (hHeld.2.2.2.2.2)
      clear hb HSL
      refine hK.out _ _ (hKK) (fun hHeld2 => ?_)
      clear hK K hHeld
      rename _ => hHeld
      try simp only [Act.put, stB, stZ, stS]
      refine wpAnyH_ready (rs := [6]) (by kernel_rfl) (by simp) ?_
      refine (AllReadyH.cons (o := { dst := some 27, op := Op.call { callee := Callee.value (Operand.func 13), args := #[Operand.tmp 24, Operand.tmp 26], argTypes := #[45, 28] }, type := 41, pos := "law.go:37", after := #[{ on := 3, ground := Ground.data }, { on := 5, ground := Ground.data }, { on := 5, ground := Ground.chain }], guard := none }) rfl (fun K hK => ?_) AllReadyH.nil)
      go_simp
      have hr0 := HR0.out X3 HBD.out
      refine (over_eq a2 2 c2 2 v3 v2 a6 c6 v6 X3 hr0.vec hr0.rhs HV6.out (HCO.out v6 HQ6.out).1 (HCO.out v6 HQ6.out).2).mono ?_
      rintro e X4 ⟨o, rfl, ho, hq, hb⟩
      unfold Rv.val
      have HOO := Lib.hid ho
      have HOQ := Lib.hid (show o.q = -1 by rw [hq, HQ6.out, HQ2.out, HQ3.out]; decide +kernel)
      clear ho hq hr0
      replace HBD := Lib.hid (bthen HBD.out hb)
      replace HOB := Lib.hid ((hb.block _ (lt_of_block HOB.out)).trans HOB.out)
      replace HV6 := Lib.hid (HV6.out.below hb)
      have hKK := And.intro (hu hb (hHeld.1)) <| And.intro (hu hb (hHeld.2.1)) <| And.intro (hu hb (hHeld.2.2.1)) <| And.intro (hu hb (hHeld.2.2.2.1)) <| And.intro (hu hb (hHeld.2.2.2.2.1)) <| hu hb (hHeld.2.2.2.2.2)
      clear hb
      refine hK.out _ _ (hKK) (fun hHeld2 => ?_)
      clear hK K hHeld
      rename _ => hHeld
      try simp only [Act.put, stB, stZ, stS]
      refine tk 7 (some 20) (v := ?_) rfl rfl ?_ ?_
      rotate_left
      · (intro w _; go_simp; (try with_reducible rfl))
      simp only [Act.put, stB, stZ, stS]
      refine tk 8 (some 28) (v := ?_) rfl rfl ?_ ?_
      rotate_left
      · (intro w _; go_simp; (try with_reducible rfl))
      simp only [Act.put, stB, stZ, stS]
      refine tk 9 (some 29) (v := ?_) rfl rfl ?_ ?_
      rotate_left
      · (intro w _; go_simp; (try with_reducible rfl))
      simp only [Act.put, stB, stZ, stS]
      refine wpAnyH_ready (rs := [11]) (by kernel_rfl) (by simp) ?_
      refine (AllReadyH.cons (o := { dst := none, op := Op.store 40 (Operand.tmp 2) (Operand.tmp 28), type := 0, pos := "law.go:37", after := #[{ on := 10, ground := Ground.data }, { on := 8, ground := Ground.data }, { on := 6, ground := Ground.chain }, { on := 0, ground := Ground.phase }, { on := 1, ground := Ground.phase }, { on := 2, ground := Ground.phase }, { on := 3, ground := Ground.phase }, { on := 4, ground := Ground.phase }, { on := 5, ground := Ground.phase }, { on := 6, ground := Ground.phase }, { on := 7, ground := Ground.phase }, { on := 8, ground := Ground.phase }, { on := 9, ground := Ground.textOnly Departure.lateStores }, { on := 10, ground := Ground.phase }], guard := none }) rfl (fun K hK => ?_) AllReadyH.nil)
      have k0 := cell_of_block (j := 0) HOB.out rfl
      have k1 := cell_of_block (j := 1) HOB.out rfl
      have k2 := cell_of_block (j := 2) HOB.out rfl
      have f0 : X4.frozen? ⟨ob, 0, none⟩ = false := free_of_block HOB.out
      have f1 : X4.frozen? ⟨ob, 1, none⟩ = false := free_of_block HOB.out
      have f2 : X4.frozen? ⟨ob, 2, none⟩ = false := free_of_block HOB.out
      go_simp
      clear k0 k1 k2 f0 f1 f2
      have HOS := Lib.hid (set3_heap X4 ob _ _ _ (.bool o.s) (.slice o.a o.l o.c) (.slice o.b o.m o.d) _ HOB.out)
      have HOK := Lib.hid (HOO.out.keeps (set3k X4 ob (.bool o.s) (.slice o.a o.l o.c) (.slice o.b o.m o.d)) fun z hz => by rw [hz]; exact noWord_of HOB.out (by decide))
      have HBE := Lib.hid (show Below w6.heap.size w6 (((X4.setCell ⟨ob, 0, none⟩ (.bool o.s)).setCell ⟨ob, 1, none⟩ (.slice o.a o.l o.c)).setCell ⟨ob, 2, none⟩ (.slice o.b o.m o.d)) from ((HBD.out.setCell HOG.out _).setCell HOG.out _).setCell HOG.out _)
      refine hK.out _ _ (And.intro (set3_far (show ob ≠ pb by have h1 := HLT.out; have h2 := HOG.out; omega) (hHeld.1)) <| And.intro (set3_far (show ob ≠ rb by have h1 := HLT.out; have h2 := HOG.out; omega) (hHeld.2.1)) <| And.intro (set3_far (show ob ≠ rb by have h1 := HLT.out; have h2 := HOG.out; omega) (hHeld.2.2.1)) <| And.intro (set3_far (show ob ≠ rb by have h1 := HLT.out; have h2 := HOG.out; omega) (hHeld.2.2.2.1)) <| And.intro (set3_far (show ob ≠ rb by have h1 := HLT.out; have h2 := HOG.out; omega) (hHeld.2.2.2.2.1)) <| set3_far (show ob ≠ rb by have h1 := HLT.out; have h2 := HOG.out; omega) (hHeld.2.2.2.2.2)) (fun hHeld2 => ?_)
      clear hK K hHeld
      rename _ => hHeld
      try simp only [Act.put, stB, stZ, stS]
      refine tk 12 (some 3) (v := ?_) rfl rfl ?_ ?_
      rotate_left
      · (intro w _; go_simp; (try with_reducible rfl))
      simp only [Act.put, stB, stZ, stS]
      refine wpAnyH_done (by kernel_rfl) ?_ _
      (try simp only [Exit.inBlock, Exit.then])
      clear hHeld
      go_wp2_with fail
      go_meet
      exact ⟨ob, o, rfl, rfl, HOS.out, HOK.out, HOQ.out, HBE.out⟩
  case rest =>
    obtain ⟨w7, rfl⟩ : ∃ w7 : World, w7 = wc := ⟨_, rfl⟩
    obtain ⟨ob, o, rfl, rfl, hos, hoo, hoq, hb7⟩ := hcut
    have HOB := Lib.hid hos
    have HOO := Lib.hid hoo
    have HOQ := Lib.hid hoq
    replace HPR := Lib.hid (HPR.out.below hb7)
    replace HPB := Lib.hid ((hb7.block pb (lt_of_block HPB.out)).trans HPB.out)
    have HB7 := Lib.hid (bthen HB6.out hb7)
    clear hos hoo hoq hb7 p1 x0 x1 x2 x3 x4 HR0 HCO HLT
    have p0 := cell_of_block (j := 0) HPB.out rfl
    have p1 := cell_of_block (j := 1) HPB.out rfl
    go_wp2_with fail
    clear p0 p1
    refine (standard_ok a1 2 c1 (some ⟨rb, 0, none⟩) 2 2 v1 [⟨a2, 2, c2, v2, 2, v3⟩, ⟨a4, 2, c4, v4, 1, v5⟩] w7 HPR.out (by rfl)).mono ?_
    rintro e w8 ⟨ma, mc, cols, ba, bc, ca, cc, la, lc, ms, bs, cs, ls, rfl, hstd, his, hb8⟩
    have hc4 : cols = 4 := his.cols
    subst hc4
    have HL := Lib.hid (show ls = [2, 3] from his.l)
    have HBQ := Lib.hid (show qs bs = ofI [4, 9] from his.b.trans (by show [v3.q, v5.q] = _; rw [HQ3.out, HQ5.out]; rfl))
    have HM := Lib.hid (show ms.map (fun r => qs r.vs) = [ofI [1, 2, -1, 0], ofI [3, 1, 0, 1]] from his.m.trans (by
      rw [HL.out]
      show [stdRow (qs v2) 2 2 2, stdRow (qs v4) 2 3 1] = _
      rw [HQ2.out, HQ4.out]; decide +kernel))
    have hall : ∀ r, r ∈ ms → AllW 1000 (qs r.vs) ∧ r.vs.length ≤ 1000 := fun r hr => by
      have h1 : qs r.vs ∈ ms.map (fun r => qs r.vs) := List.mem_map_of_mem hr
      rw [HM.out] at h1
      have h2 : qs r.vs = ofI [1, 2, -1, 0] ∨ qs r.vs = ofI [3, 1, 0, 1] := by
        rcases List.mem_cons.1 h1 with h1 | h1
        · exact .inl h1
        · exact .inr (List.mem_singleton.1 h1)
      rw [← qs_len]
      rcases h2 with h2 | h2 <;> rw [h2] <;> exact ⟨allW_ofI (by decide), by decide⟩
    have HCL := Lib.hid (fun (v10 : List Rv) (h : qs v10 = ofI [0, 2]) => show (∀ r, r ∈ ms → CanDot (qs r.vs) (qs v10 ++ List.replicate 2 0)) ∧ CanLift ms bs (sumsOf ms (qs v10 ++ List.replicate 2 0)) ls by
      have hz : AllW 1000 (qs v10 ++ List.replicate 2 0) := by
        refine AllW.append ?_ (allW_zeros _ _)
        rw [h]; exact allW_ofI (by decide)
      exact ⟨fun r hr => canDot_k (hall r hr).1 hz (by rw [qs_len]; exact (hall r hr).2), canLift_k hall (by rw [HBQ.out]; exact allW_ofI (by decide)) hz⟩)
    have HLS := Lib.hid (show ∀ x, x ∈ ls → x = -1 ∨ (0 ≤ x ∧ x < ((4 : Nat) : Int)) by rw [HL.out]; decide)
    have hal := belowBox w8 (.cells #[.slice ma 2 mc, .int .i64 4, .slice ba 2 bc, .slice ca 4 cc, .int .i64 2, .slice la 2 lc] 59)
    have HSB := Lib.hid (heap_alloc_new w8 (.cells #[.slice ma 2 mc, .int .i64 4, .slice ba 2 bc, .slice ca 4 cc, .int .i64 2, .slice la 2 lc] 59))
    have HSTD := Lib.hid (hstd.below hal)
    replace HPR := Lib.hid ((HPR.out.below hb8).below hal)
    replace HPB := Lib.hid ((hal.block pb (lt_of_block ((hb8.block pb (lt_of_block HPB.out)).trans HPB.out))).trans ((hb8.block pb (lt_of_block HPB.out)).trans HPB.out))
    replace HOB := Lib.hid ((hal.block ob (lt_of_block ((hb8.block ob (lt_of_block HOB.out)).trans HOB.out))).trans ((hb8.block ob (lt_of_block HOB.out)).trans HOB.out))
    replace HOO := Lib.hid ((HOO.out.below hb8).below hal)
    have HB9 := Lib.hid (bthen HB7.out (bthen hb8 hal))
    clear hstd his hb8 hal hall HB6 HB7
    unfold StdV
    go_upto_region 4 with fail
    generalize w8.heap.size = sb at HSB ⊢
    generalize w8.alloc (.cells #[.slice ma 2 mc, .int .i64 4, .slice ba 2 bc, .slice ca 4 cc, .int .i64 2, .slice la 2 lc] 59) = w9 at HSB HSTD HPR HPB HOB HOO HB9 ⊢
    have s0 := cell_of_block (j := 0) HSB.out rfl
    have s1 := cell_of_block (j := 1) HSB.out rfl
    have s2 := cell_of_block (j := 2) HSB.out rfl
    have s3 := cell_of_block (j := 3) HSB.out rfl
    have s4 := cell_of_block (j := 4) HSB.out rfl
    have s5 := cell_of_block (j := 5) HSB.out rfl
    have HSTD0 := HSTD
    go_cut [6, 7] (fun z v7 wx => ∃ (a11 : Option Addr) (c11 : Nat) (v11 : List Rv), z = .slice a11 4 c11 ∧ v7 = .bool true ∧ VecW wx a11 4 c11 v11 ∧ qs v11 = ofI [0, 2, 0, 7] ∧ Below w9.heap.size w9 wx)
    case first =>
      have HBD := Lib.hid (show Below w9.heap.size w9 w9.drew from Below.drawn w9 1)
      replace HSTD := Lib.hid (HSTD.out.below (show Below w9.heap.size w9 w9.drew from Below.drawn w9 1))
      refine wp_region_held_drew (S := fun W => W.cell? ⟨sb, 0, none⟩ = some (.slice ma 2 mc) ∧ W.cell? ⟨sb, 1, none⟩ = some (.int .i64 4) ∧ W.cell? ⟨sb, 2, none⟩ = some (.slice ba 2 bc) ∧ W.cell? ⟨sb, 3, none⟩ = some (.slice ca 4 cc) ∧ W.cell? ⟨sb, 4, none⟩ = some (.int .i64 2) ∧ W.cell? ⟨sb, 5, none⟩ = some (.slice la 2 lc)) (by kernel_rfl) (⟨s0, s1, s2, s3, s4, s5⟩) (fun hHeld => ?_)
      generalize w9.drew = wd at HBD HSTD hHeld ⊢
      refine tk 0 (some 36) (v := ?_) rfl rfl ?_ ?_
      rotate_left
      · (intro w hSw; (try dsimp only at hSw); ((try obtain ⟨hS0, hS1, hS2, hS3, hS4, hS5⟩ := hSw); go_simp); (try with_reducible rfl))
      simp only [Act.put, stB, stZ, stS]
      refine wpAnyH_ready (rs := [1]) (by kernel_rfl) (by simp) ?_
      refine (AllReadyH.cons (o := { dst := some 37, op := Op.buildSlice 57 2 #[(0, Operand.const (Value.int IntKind.i64 0)), (1, Operand.const (Value.int IntKind.i64 2))], type := 57, pos := "law.go:39", after := #[], guard := none }) rfl (fun K hK => ?_) AllReadyH.nil)
      go_simp
      have hb := belowBox wd (.cells #[.int .i64 0, .int .i64 2] 3)
      have HSL := Lib.hid (show Sl (wd.alloc (.cells #[.int .i64 0, .int .i64 2] 3)) 1 (.slice (some ⟨wd.heap.size, 0, none⟩) 2 2) 2 ([0, 2].map IV) from Sl.lit wd 3 1 2 [IV 0, IV 2] (by unfold maxLen; omega) rfl)
      replace HBD := Lib.hid (bthen HBD.out hb)
      replace HSTD := Lib.hid (HSTD.out.below hb)
      have hKK := And.intro (hu hb (hHeld.1)) <| And.intro (hu hb (hHeld.2.1)) <| And.intro (hu hb (hHeld.2.2.1)) <| And.intro (hu hb (hHeld.2.2.2.1)) <| And.intro (hu hb (hHeld.2.2.2.2.1)) <| hu hb (hHeld.2.2.2.2.2)
      clear hb
      generalize wd.heap.size = g10 at HSL ⊢
      generalize wd.alloc (.cells #[.int .i64 0, .int .i64 2] 3) = X1 at HBD HSTD HSL hKK ⊢
      refine hK.out _ _ (hKK) (fun hHeld2 => ?_)
      clear hK K hHeld
      rename _ => hHeld
      try simp only [Act.put, stB, stZ, stS]
      refine wpAnyH_ready (rs := [2]) (by kernel_rfl) (by simp) ?_
      refine (AllReadyH.cons (o := { dst := some 38, op := Op.call { callee := Callee.value (Operand.func 40), args := #[Operand.tmp 37], argTypes := #[57] }, type := 28, pos := "law.go:39", after := #[{ on := 1, ground := Ground.data }], guard := none }) rfl (fun K hK => ?_) AllReadyH.nil)
      go_simp
      refine (vof_fix _ 2 2 [0, 2] _ HSL.out rfl (by decide) (by omega)).mono ?_
      rintro e X2 ⟨a10, c10, v10, rfl, hv⟩
      have hb := hv.bel
      have HV10 := Lib.hid hv.vec
      have HQ10 := Lib.hid hv.q
      clear hv
      replace HBD := Lib.hid (bthen HBD.out hb)
      replace HSTD := Lib.hid (HSTD.out.below hb)
      have hKK := And.intro (hu hb (hHeld.1)) <| And.intro (hu hb (hHeld.2.1)) <| And.intro (hu hb (hHeld.2.2.1)) <| And.intro (hu hb (hHeld.2.2.2.1)) <| And.intro (hu hb (hHeld.2.2.2.2.1)) <| hu hb (hHeld.2.2.2.2.2)
      clear hb HSL
      refine hK.out _ _ (hKK) (fun hHeld2 => ?_)
      clear hK K hHeld
      rename _ => hHeld
      try simp only [Act.put, stB, stZ, stS]
      refine wpAnyH_ready (rs := [3]) (by kernel_rfl) (by simp) ?_
      refine (AllReadyH.cons (o := { dst := some 39, op := Op.call { callee := Callee.value (Operand.func 22), args := #[Operand.tmp 36, Operand.tmp 38], argTypes := #[59, 28] }, type := 64, pos := "law.go:39", after := #[{ on := 0, ground := Ground.data }, { on := 2, ground := Ground.data }, { on := 2, ground := Ground.chain }], guard := none }) rfl (fun K hK => ?_) AllReadyH.nil)
      go_simp
      refine (lift_any ma 2 mc 4 ba bc ca cc 2 la lc ms bs cs ls 2 a10 c10 v10 X2 HSTD.out HV10.out rfl (by omega) (by omega) HLS.out (HCL.out v10 HQ10.out).1 (HCL.out v10 HQ10.out).2).mono ?_
      rintro e X3 ⟨a11, c11, v11, rfl, hz⟩
      have HV11 := Lib.hid hz.vec
      have HQ11 := Lib.hid (show qs v11 = ofI [0, 2, 0, 7] from hz.q.trans (by rw [liftQ_eq, HM.out, HBQ.out, HL.out, HQ10.out]; decide +kernel))
      have hb := hz.bel
      clear hz
      replace HBD := Lib.hid (bthen HBD.out hb)
      replace HSTD := Lib.hid (HSTD.out.below hb)
      replace HV10 := Lib.hid (HV10.out.below hb)
      have hKK := And.intro (hu hb (hHeld.1)) <| And.intro (hu hb (hHeld.2.1)) <| And.intro (hu hb (hHeld.2.2.1)) <| And.intro (hu hb (hHeld.2.2.2.1)) <| And.intro (hu hb (hHeld.2.2.2.2.1)) <| hu hb (hHeld.2.2.2.2.2)
      clear hb
      refine hK.out _ _ (hKK) (fun hHeld2 => ?_)
      clear hK K hHeld
      rename _ => hHeld
      try simp only [Act.put, stB, stZ, stS]
      refine tk 4 (some 35) (v := ?_) rfl rfl ?_ ?_
      rotate_left
      · (intro w _; go_simp; (try with_reducible rfl))
      simp only [Act.put, stB, stZ, stS]
      refine tk 5 (some 40) (v := ?_) rfl rfl ?_ ?_
      rotate_left
      · (intro w _; go_simp; (try with_reducible rfl))
      simp only [Act.put, stB, stZ, stS]
      refine tk 6 (some 41) (v := ?_) rfl rfl ?_ ?_
      rotate_left
      · (intro w _; go_simp; (try with_reducible rfl))
      simp only [Act.put, stB, stZ, stS]
      refine tk 7 (some 6) (v := ?_) rfl rfl ?_ ?_
      rotate_left
      · (intro w _; go_simp; (try with_reducible rfl))
      simp only [Act.put, stB, stZ, stS]
      refine tk 8 (some 7) (v := ?_) rfl rfl ?_ ?_
      rotate_left
      · (intro w _; go_simp; (try with_reducible rfl))
      simp only [Act.put, stB, stZ, stS]
      refine wpAnyH_done (by kernel_rfl) ?_ _
      (try simp only [Exit.inBlock, Exit.then])
      clear hHeld
      go_wp2_with fail
      go_meet
      exact ⟨a11, c11, v11, rfl, rfl, HV11.out, HQ11.out, HBD.out⟩
    case rest =>
      obtain ⟨w12, rfl⟩ : ∃ w12 : World, w12 = wc := ⟨_, rfl⟩
      obtain ⟨a11, c11, v11, rfl, rfl, hv11, hq11, hb12⟩ := hcut
      have HV11 := Lib.hid hv11
      have HQ11 := Lib.hid hq11
      replace HSTD := Lib.hid (HSTD.out.below hb12)
      replace HPR := Lib.hid (HPR.out.below hb12)
      replace HPB := Lib.hid ((hb12.block pb (lt_of_block HPB.out)).trans HPB.out)
      replace HOB := Lib.hid ((hb12.block ob (lt_of_block HOB.out)).trans HOB.out)
      replace HSB := Lib.hid ((hb12.block sb (lt_of_block HSB.out)).trans HSB.out)
      replace HOO := Lib.hid (HOO.out.below hb12)
      have HB12 := Lib.hid (bthen HB9.out hb12)
      have HCF := Lib.hid (fun (v13 : List Rv) (h : qs v13 = ofI [0, 2]) => show ∀ r, r ∈ ([⟨a2, 2, c2, v2, 2, v3⟩, ⟨a4, 2, c4, v4, 1, v5⟩] : List PRow) → r.n = 2 → 2 = 2 → CanOver r v13 from fun r hr _ _ => by
        have h13 : AllW 1000 (qs v13) := by rw [h]; exact allW_ofI (by decide)
        rcases List.mem_cons.1 hr with rfl | hr
        · exact canOver_k (by rw [HQ2.out]; exact allW_ofI (by decide)) h13 (by rw [← qs_len, HQ2.out]; decide) (by rw [HQ3.out]; exact ⟨4, rfl, by decide⟩)
        · rw [List.mem_singleton.1 hr]
          exact canOver_k (by rw [HQ4.out]; exact allW_ofI (by decide)) h13 (by rw [← qs_len, HQ4.out]; decide) (by rw [HQ5.out]; exact ⟨9, rfl, by decide⟩))
      have HFT := Lib.hid (fun (v13 : List Rv) (h : qs v13 = ofI [0, 2]) => show fitsQ 2 [⟨a2, 2, c2, v2, 2, v3⟩, ⟨a4, 2, c4, v4, 1, v5⟩] v13 2 = true by
        show (decide ((2 : Nat) = 2) && !belowQ (qs v13) && ((decide ((2 : Nat) = 2) && holdsQ 2 (dotQ (qs v2) (qs v13) - v3.q)) && ((decide ((2 : Nat) = 2) && holdsQ 1 (dotQ (qs v4) (qs v13) - v5.q)) && true))) = true
        rw [h, HQ2.out, HQ3.out, HQ4.out, HQ5.out]; decide +kernel)
      clear hv11 hq11 hb12 s0 s1 s2 s3 s4 s5 HB9 HSTD0 HCL HLS
      obtain ⟨lb, lo, el, _, y1⟩ := int_get HSTD.out.l 1 (by rw [HL.out]; decide) (by omega)
      have hl1 : ls[1]'(by rw [HL.out]; decide) = 3 := by
        have h1 : ls[1]? = some 3 := by rw [HL.out]; rfl
        exact (List.getElem?_eq_some_iff.1 h1).2
      rw [hl1] at y1
      subst el
      have p0 := cell_of_block (j := 0) HPB.out rfl
      have p1 := cell_of_block (j := 1) HPB.out rfl
      have o0 := cell_of_block (j := 0) HOB.out rfl
      have o1 := cell_of_block (j := 1) HOB.out rfl
      have o2 := cell_of_block (j := 2) HOB.out rfl
      have s0 := cell_of_block (j := 0) HSB.out rfl
      have s1 := cell_of_block (j := 1) HSB.out rfl
      have s5 := cell_of_block (j := 5) HSB.out rfl
      clear hl1
      go_upto_region 5 with fail
      have HBD := Lib.hid (show Below w12.heap.size w12 w12.drew from Below.drawn w12 1)
      replace HPR := Lib.hid (HPR.out.below (show Below w12.heap.size w12 w12.drew from Below.drawn w12 1))
      replace HOO := Lib.hid (HOO.out.below (show Below w12.heap.size w12 w12.drew from Below.drawn w12 1))
      replace HSTD := Lib.hid (HSTD.out.below (show Below w12.heap.size w12 w12.drew from Below.drawn w12 1))
      replace HV11 := Lib.hid (HV11.out.below (show Below w12.heap.size w12 w12.drew from Below.drawn w12 1))
      refine wp_region_held_drew (S := fun W => W.cell? ⟨pb, 0, none⟩ = some (.slice a1 2 c1) ∧ W.cell? ⟨pb, 1, none⟩ = some (.slice (some ⟨rb, 0, none⟩) 2 2) ∧ W.cell? ⟨ob, 0, none⟩ = some (.bool o.s) ∧ W.cell? ⟨ob, 1, none⟩ = some (.slice o.a o.l o.c) ∧ W.cell? ⟨ob, 2, none⟩ = some (.slice o.b o.m o.d) ∧ W.cell? ⟨sb, 0, none⟩ = some (.slice ma 2 mc) ∧ W.cell? ⟨sb, 1, none⟩ = some (.int .i64 4) ∧ W.cell? ⟨sb, 5, none⟩ = some (.slice (some ⟨lb, lo, none⟩) 2 lc) ∧ W.cell? ⟨lb, lo + 1, none⟩ = some (.int .i64 3)) (by kernel_rfl) (⟨p0, p1, o0, o1, o2, s0, s1, s5, y1⟩) (fun hHeld => ?_)
      generalize w12.drew = wd at HBD HPR HOO HSTD HV11 hHeld ⊢
      refine tk 0 (some 42) (v := ?_) rfl rfl ?_ ?_
      rotate_left
      · (intro w hSw; (try dsimp only at hSw); ((try obtain ⟨hS0, hS1, hS2, hS3, hS4, hS5, hS6, hS7, hS8⟩ := hSw); go_simp); (try with_reducible rfl))
      simp only [Act.put, stB, stZ, stS]
      refine wpAnyH_ready (rs := [1]) (by kernel_rfl) (by simp) ?_
      refine (AllReadyH.cons (o := { dst := some 43, op := Op.buildSlice 57 2 #[(0, Operand.const (Value.int IntKind.i64 0)), (1, Operand.const (Value.int IntKind.i64 2))], type := 57, pos := "law.go:40", after := #[], guard := none }) rfl (fun K hK => ?_) AllReadyH.nil)
      go_simp
      have hb := belowBox wd (.cells #[.int .i64 0, .int .i64 2] 3)
      have HSL := Lib.hid (show Sl (wd.alloc (.cells #[.int .i64 0, .int .i64 2] 3)) 1 (.slice (some ⟨wd.heap.size, 0, none⟩) 2 2) 2 ([0, 2].map IV) from Sl.lit wd 3 1 2 [IV 0, IV 2] (by unfold maxLen; omega) rfl)
      replace HBD := Lib.hid (bthen HBD.out hb)
      replace HPR := Lib.hid (HPR.out.below hb)
      replace HOO := Lib.hid (HOO.out.below hb)
      replace HSTD := Lib.hid (HSTD.out.below hb)
      replace HV11 := Lib.hid (HV11.out.below hb)
      have hKK := And.intro (hu hb (hHeld.1)) <| And.intro (hu hb (hHeld.2.1)) <| And.intro (hu hb (hHeld.2.2.1)) <| And.intro (hu hb (hHeld.2.2.2.1)) <| And.intro (hu hb (hHeld.2.2.2.2.1)) <| And.intro (hu hb (hHeld.2.2.2.2.2.1)) <| And.intro (hu hb (hHeld.2.2.2.2.2.2.1)) <| And.intro (hu hb (hHeld.2.2.2.2.2.2.2.1)) <| hu hb (hHeld.2.2.2.2.2.2.2.2)
      clear hb
      generalize wd.heap.size = g13 at HSL ⊢
      generalize wd.alloc (.cells #[.int .i64 0, .int .i64 2] 3) = X1 at HBD HPR HOO HSTD HV11 HSL hKK ⊢
      refine hK.out _ _ (hKK) (fun hHeld2 => ?_)
      clear hK K hHeld
      rename _ => hHeld
      try simp only [Act.put, stB, stZ, stS]
      refine wpAnyH_ready (rs := [2]) (by kernel_rfl) (by simp) ?_
      refine (AllReadyH.cons (o := { dst := some 44, op := Op.call { callee := Callee.value (Operand.func 40), args := #[Operand.tmp 43], argTypes := #[57] }, type := 28, pos := "law.go:40", after := #[{ on := 1, ground := Ground.data }], guard := none }) rfl (fun K hK => ?_) AllReadyH.nil)
      go_simp
      refine (vof_fix _ 2 2 [0, 2] _ HSL.out rfl (by decide) (by omega)).mono ?_
      rintro e X2 ⟨a13, c13, v13, rfl, hv⟩
      have hb := hv.bel
      have HV13 := Lib.hid hv.vec
      have HQ13 := Lib.hid hv.q
      clear hv
      replace HBD := Lib.hid (bthen HBD.out hb)
      replace HPR := Lib.hid (HPR.out.below hb)
      replace HOO := Lib.hid (HOO.out.below hb)
      replace HSTD := Lib.hid (HSTD.out.below hb)
      replace HV11 := Lib.hid (HV11.out.below hb)
      have hKK := And.intro (hu hb (hHeld.1)) <| And.intro (hu hb (hHeld.2.1)) <| And.intro (hu hb (hHeld.2.2.1)) <| And.intro (hu hb (hHeld.2.2.2.1)) <| And.intro (hu hb (hHeld.2.2.2.2.1)) <| And.intro (hu hb (hHeld.2.2.2.2.2.1)) <| And.intro (hu hb (hHeld.2.2.2.2.2.2.1)) <| And.intro (hu hb (hHeld.2.2.2.2.2.2.2.1)) <| hu hb (hHeld.2.2.2.2.2.2.2.2)
      clear hb HSL
      refine hK.out _ _ (hKK) (fun hHeld2 => ?_)
      clear hK K hHeld
      rename _ => hHeld
      try simp only [Act.put, stB, stZ, stS]
      refine wpAnyH_ready (rs := [3]) (by kernel_rfl) (by simp) ?_
      refine (AllReadyH.cons (o := { dst := some 45, op := Op.call { callee := Callee.value (Operand.func 19), args := #[Operand.tmp 42, Operand.tmp 44], argTypes := #[31, 28] }, type := 4, pos := "law.go:40", after := #[{ on := 0, ground := Ground.data }, { on := 2, ground := Ground.data }, { on := 2, ground := Ground.chain }], guard := none }) rfl (fun K hK => ?_) AllReadyH.nil)
      go_simp
      refine (fits_any a1 2 c1 (some ⟨rb, 0, none⟩) 2 2 v1 [⟨a2, 2, c2, v2, 2, v3⟩, ⟨a4, 2, c4, v4, 1, v5⟩] X2 HPR.out a13 2 c13 v13 HV13.out (HCF.out v13 HQ13.out)).mono ?_
      rintro e X3 ⟨rfl, hb⟩
      rw [HFT.out v13 HQ13.out]
      replace HBD := Lib.hid (bthen HBD.out hb)
      replace HPR := Lib.hid (HPR.out.below hb)
      replace HOO := Lib.hid (HOO.out.below hb)
      replace HSTD := Lib.hid (HSTD.out.below hb)
      replace HV11 := Lib.hid (HV11.out.below hb)
      have hKK := And.intro (hu hb (hHeld.1)) <| And.intro (hu hb (hHeld.2.1)) <| And.intro (hu hb (hHeld.2.2.1)) <| And.intro (hu hb (hHeld.2.2.2.1)) <| And.intro (hu hb (hHeld.2.2.2.2.1)) <| And.intro (hu hb (hHeld.2.2.2.2.2.1)) <| And.intro (hu hb (hHeld.2.2.2.2.2.2.1)) <| And.intro (hu hb (hHeld.2.2.2.2.2.2.2.1)) <| hu hb (hHeld.2.2.2.2.2.2.2.2)
      clear hb HV13
      refine hK.out _ _ (hKK) (fun hHeld2 => ?_)
      clear hK K hHeld
      rename _ => hHeld
      try simp only [Act.put, stB, stZ, stS]
      refine tk 4 (some 46) (v := ?_) rfl rfl ?_ ?_
      rotate_left
      · (intro w _; go_simp; (try with_reducible rfl))
      simp only [Act.put, stB, stZ, stS]
      refine tk 5 (some 47) (v := ?_) rfl rfl ?_ ?_
      rotate_left
      · (intro w _; go_simp; (try with_reducible rfl))
      simp only [Act.put, stB, stZ, stS]
      refine tk 6 (some 48) (v := ?_) rfl rfl ?_ ?_
      rotate_left
      · (intro w _; go_simp; (try with_reducible rfl))
      simp only [Act.put, stB, stZ, stS]
      refine tk 7 (some 49) (v := ?_) rfl rfl ?_ ?_
      rotate_left
      · (intro w _; go_simp; (try with_reducible rfl))
      simp only [Act.put, stB, stZ, stS]
      refine tk 8 (some 50) (v := ?_) rfl rfl ?_ ?_
      rotate_left
      · (intro w hSw; (try dsimp only at hSw); ((try obtain ⟨hS0, hS1, hS2, hS3, hS4, hS5, hS6, hS7, hS8⟩ := hSw); go_simp); (try with_reducible rfl))
      simp only [Act.put, stB, stZ, stS]
      refine wpAnyH_ready (rs := [9]) (by kernel_rfl) (by simp) ?_
      refine (AllReadyH.cons (o := { dst := some 51, op := Op.call { callee := Callee.value (Operand.func 30), args := #[Operand.tmp 50, Operand.const (Value.int IntKind.i64 (-1)), Operand.const (Value.int IntKind.i64 1)], argTypes := #[40, 3, 3] }, type := 4, pos := "law.go:40", after := #[{ on := 8, ground := Ground.data }, { on := 7, ground := Ground.chain }, { on := 7, ground := Ground.guard }], guard := some (7, true) }) rfl (fun K hK => ?_) AllReadyH.nil)
      go_simp
      refine (is_yes o (-1) 1 X3 HOO.out (by decide) (by decide) (by decide) (by rw [HOQ.out]; decide +kernel) (by rw [HOQ.out]; exact canSame_whole (show Whole 1 (-1 : Rat) from ⟨-1, by decide +kernel, by decide⟩) (by unfold W64; omega))).mono ?_
      rintro e X4 ⟨rfl, hb⟩
      replace HBD := Lib.hid (bthen HBD.out hb)
      replace HPR := Lib.hid (HPR.out.below hb)
      replace HOO := Lib.hid (HOO.out.below hb)
      replace HSTD := Lib.hid (HSTD.out.below hb)
      replace HV11 := Lib.hid (HV11.out.below hb)
      have hKK := And.intro (hu hb (hHeld.1)) <| And.intro (hu hb (hHeld.2.1)) <| And.intro (hu hb (hHeld.2.2.1)) <| And.intro (hu hb (hHeld.2.2.2.1)) <| And.intro (hu hb (hHeld.2.2.2.2.1)) <| And.intro (hu hb (hHeld.2.2.2.2.2.1)) <| And.intro (hu hb (hHeld.2.2.2.2.2.2.1)) <| And.intro (hu hb (hHeld.2.2.2.2.2.2.2.1)) <| hu hb (hHeld.2.2.2.2.2.2.2.2)
      clear hb
      refine hK.out _ _ (hKK) (fun hHeld2 => ?_)
      clear hK K hHeld
      rename _ => hHeld
      try simp only [Act.put, stB, stZ, stS]
      refine tk 10 (some 52) (v := ?_) rfl rfl ?_ ?_
      rotate_left
      · (intro w _; go_simp; (try with_reducible rfl))
      simp only [Act.put, stB, stZ, stS]
      refine tk 11 (some 53) (v := ?_) rfl rfl ?_ ?_
      rotate_left
      · (intro w _; go_simp; (try with_reducible rfl))
      simp only [Act.put, stB, stZ, stS]
      refine tk 12 (some 54) (v := ?_) rfl rfl ?_ ?_
      rotate_left
      · (intro w _; go_simp; (try with_reducible rfl))
      simp only [Act.put, stB, stZ, stS]
      refine tk 13 (some 55) (v := ?_) rfl rfl ?_ ?_
      rotate_left
      · (intro w _; go_simp; (try with_reducible rfl))
      simp only [Act.put, stB, stZ, stS]
      refine tk 14 (some 56) (v := ?_) rfl rfl ?_ ?_
      rotate_left
      · (intro w _; go_simp; (try with_reducible rfl))
      simp only [Act.put, stB, stZ, stS]
      refine tk 15 (some 57) (v := ?_) rfl rfl ?_ ?_
      rotate_left
      · (intro w _; go_simp; (try with_reducible rfl))
      simp only [Act.put, stB, stZ, stS]
      refine tk 16 (some 58) (v := ?_) rfl rfl ?_ ?_
      rotate_left
      · (intro w _; go_simp; (try with_reducible rfl))
      simp only [Act.put, stB, stZ, stS]
      refine tk 17 (some 59) (v := ?_) rfl rfl ?_ ?_
      rotate_left
      · (intro w hSw; (try dsimp only at hSw); ((try obtain ⟨hS0, hS1, hS2, hS3, hS4, hS5, hS6, hS7, hS8⟩ := hSw); go_simp); (try with_reducible rfl))
      simp only [Act.put, stB, stZ, stS]
      refine tk 18 (some 60) (v := ?_) rfl rfl ?_ ?_
      rotate_left
      · (intro w _; go_simp; (try with_reducible rfl))
      simp only [Act.put, stB, stZ, stS]
      refine tk 19 (some 61) (v := ?_) rfl rfl ?_ ?_
      rotate_left
      · (intro w _; go_simp; (try with_reducible rfl))
      simp only [Act.put, stB, stZ, stS]
      refine tk 20 (some 62) (v := ?_) rfl rfl ?_ ?_
      rotate_left
      · (intro w _; go_simp; (try with_reducible rfl))
      simp only [Act.put, stB, stZ, stS]
      refine tk 21 (some 63) (v := ?_) rfl rfl ?_ ?_
      rotate_left
      · (intro w _; go_simp; (try with_reducible rfl))
      simp only [Act.put, stB, stZ, stS]
      refine tk 22 (some 64) (v := ?_) rfl rfl ?_ ?_
      rotate_left
      · (intro w _; go_simp; (try with_reducible rfl))
      simp only [Act.put, stB, stZ, stS]
      refine tk 23 (some 65) (v := ?_) rfl rfl ?_ ?_
      rotate_left
      · (intro w hSw; (try dsimp only at hSw); ((try obtain ⟨hS0, hS1, hS2, hS3, hS4, hS5, hS6, hS7, hS8⟩ := hSw); go_simp); (try with_reducible rfl))
      simp only [Act.put, stB, stZ, stS]
      refine tk 24 (some 66) (v := ?_) rfl rfl ?_ ?_
      rotate_left
      · (intro w hSw; (try dsimp only at hSw); ((try obtain ⟨hS0, hS1, hS2, hS3, hS4, hS5, hS6, hS7, hS8⟩ := hSw); go_simp); (try with_reducible rfl))
      simp only [Act.put, stB, stZ, stS]
      refine tk 25 (some 67) (v := ?_) rfl rfl ?_ ?_
      rotate_left
      · (intro w hSw; (try dsimp only at hSw); ((try obtain ⟨hS0, hS1, hS2, hS3, hS4, hS5, hS6, hS7, hS8⟩ := hSw); go_simp); (try with_reducible rfl))
      simp only [Act.put, stB, stZ, stS]
      refine tk 26 (some 68) (v := ?_) rfl rfl ?_ ?_
      rotate_left
      · (intro w _; go_simp; (try with_reducible rfl))
      simp only [Act.put, stB, stZ, stS]
      refine tk 27 (some 69) (v := ?_) rfl rfl ?_ ?_
      rotate_left
      · (intro w _; go_simp; (try with_reducible rfl))
      simp only [Act.put, stB, stZ, stS]
      refine tk 28 (some 70) (v := ?_) rfl rfl ?_ ?_
      rotate_left
      · (intro w _; go_simp; (try with_reducible rfl))
      simp only [Act.put, stB, stZ, stS]
      refine tk 29 (some 71) (v := ?_) rfl rfl ?_ ?_
      rotate_left
      · (intro w _; go_simp; (try with_reducible rfl))
      simp only [Act.put, stB, stZ, stS]
      refine tk 30 (some 72) (v := ?_) rfl rfl ?_ ?_
      rotate_left
      · (intro w hSw; (try dsimp only at hSw); ((try obtain ⟨hS0, hS1, hS2, hS3, hS4, hS5, hS6, hS7, hS8⟩ := hSw); go_simp); (try with_reducible rfl))
      simp only [Act.put, stB, stZ, stS]
      refine wpAnyH_ready (rs := [31]) (by kernel_rfl) (by simp) ?_
      refine (AllReadyH.cons (o := { dst := some 73, op := Op.call { callee := Callee.value (Operand.func 31), args := #[Operand.tmp 72, Operand.const (Value.int IntKind.i64 0), Operand.const (Value.int IntKind.i64 2)], argTypes := #[56, 3, 3] }, type := 40, pos := "law.go:40", after := #[{ on := 30, ground := Ground.data }, { on := 28, ground := Ground.chain }, { on := 28, ground := Ground.guard }], guard := some (28, true) }) rfl (fun K hK => ?_) AllReadyH.nil)
      go_simp
      refine (at_in ma 2 mc 4 ms 0 2 X4 HSTD.out.mat (by omega) (by omega) (by omega)).mono ?_
      rintro e X5 ⟨mr, v, em, ev, rfl, ho, hb⟩
      unfold Rv.val
      have HVA := Lib.hid ho
      have HVQ := Lib.hid (show v.q = -1 by
        have h1 := liftM_get em ev
        unfold liftM at h1
        rw [HM.out] at h1
        rw [← h1]; decide +kernel)
      clear ho em ev
      replace HBD := Lib.hid (bthen HBD.out hb)
      replace HPR := Lib.hid (HPR.out.below hb)
      replace HOO := Lib.hid (HOO.out.below hb)
      replace HSTD := Lib.hid (HSTD.out.below hb)
      replace HV11 := Lib.hid (HV11.out.below hb)
      have hKK := And.intro (hu hb (hHeld.1)) <| And.intro (hu hb (hHeld.2.1)) <| And.intro (hu hb (hHeld.2.2.1)) <| And.intro (hu hb (hHeld.2.2.2.1)) <| And.intro (hu hb (hHeld.2.2.2.2.1)) <| And.intro (hu hb (hHeld.2.2.2.2.2.1)) <| And.intro (hu hb (hHeld.2.2.2.2.2.2.1)) <| And.intro (hu hb (hHeld.2.2.2.2.2.2.2.1)) <| hu hb (hHeld.2.2.2.2.2.2.2.2)
      clear hb
      refine hK.out _ _ (hKK) (fun hHeld2 => ?_)
      clear hK K hHeld
      rename _ => hHeld
      try simp only [Act.put, stB, stZ, stS]
      refine wpAnyH_ready (rs := [32]) (by kernel_rfl) (by simp) ?_
      refine (AllReadyH.cons (o := { dst := some 74, op := Op.call { callee := Callee.value (Operand.func 30), args := #[Operand.tmp 73, Operand.const (Value.int IntKind.i64 (-1)), Operand.const (Value.int IntKind.i64 1)], argTypes := #[40, 3, 3] }, type := 4, pos := "law.go:40", after := #[{ on := 31, ground := Ground.data }, { on := 31, ground := Ground.chain }, { on := 28, ground := Ground.guard }], guard := some (28, true) }) rfl (fun K hK => ?_) AllReadyH.nil)
      go_simp
      refine (is_yes v (-1) 1 X5 HVA.out (by decide) (by decide) (by decide) (by rw [HVQ.out]; decide +kernel) (by rw [HVQ.out]; exact canSame_whole (show Whole 1 (-1 : Rat) from ⟨-1, by decide +kernel, by decide⟩) (by unfold W64; omega))).mono ?_
      rintro e X6 ⟨rfl, hb⟩
      replace HBD := Lib.hid (bthen HBD.out hb)
      replace HPR := Lib.hid (HPR.out.below hb)
      replace HOO := Lib.hid (HOO.out.below hb)
      replace HSTD := Lib.hid (HSTD.out.below hb)
      replace HV11 := Lib.hid (HV11.out.below hb)
      have hKK := And.intro (hu hb (hHeld.1)) <| And.intro (hu hb (hHeld.2.1)) <| And.intro (hu hb (hHeld.2.2.1)) <| And.intro (hu hb (hHeld.2.2.2.1)) <| And.intro (hu hb (hHeld.2.2.2.2.1)) <| And.intro (hu hb (hHeld.2.2.2.2.2.1)) <| And.intro (hu hb (hHeld.2.2.2.2.2.2.1)) <| And.intro (hu hb (hHeld.2.2.2.2.2.2.2.1)) <| hu hb (hHeld.2.2.2.2.2.2.2.2)
      clear hb HVA
      refine hK.out _ _ (hKK) (fun hHeld2 => ?_)
      clear hK K hHeld
      rename _ => hHeld
      try simp only [Act.put, stB, stZ, stS]
      refine tk 33 (some 75) (v := ?_) rfl rfl ?_ ?_
      rotate_left
      · (intro w _; go_simp; (try with_reducible rfl))
      simp only [Act.put, stB, stZ, stS]
      refine tk 34 (some 76) (v := ?_) rfl rfl ?_ ?_
      rotate_left
      · (intro w _; go_simp; (try with_reducible rfl))
      simp only [Act.put, stB, stZ, stS]
      refine tk 35 (some 77) (v := ?_) rfl rfl ?_ ?_
      rotate_left
      · (intro w _; go_simp; (try with_reducible rfl))
      simp only [Act.put, stB, stZ, stS]
      refine tk 36 (some 78) (v := ?_) rfl rfl ?_ ?_
      rotate_left
      · (intro w _; go_simp; (try with_reducible rfl))
      simp only [Act.put, stB, stZ, stS]
      refine tk 37 (some 79) (v := ?_) rfl rfl ?_ ?_
      rotate_left
      · (intro w _; go_simp; (try with_reducible rfl))
      simp only [Act.put, stB, stZ, stS]
      refine tk 38 (some 80) (v := ?_) rfl rfl ?_ ?_
      rotate_left
      · (intro w _; go_simp; (try with_reducible rfl))
      simp only [Act.put, stB, stZ, stS]
      refine wpAnyH_ready (rs := [39]) (by kernel_rfl) (by simp) ?_
      refine (AllReadyH.cons (o := { dst := some 81, op := Op.buildSlice 57 4 #[(0, Operand.const (Value.int IntKind.i64 0)), (1, Operand.const (Value.int IntKind.i64 2)), (2, Operand.const (Value.int IntKind.i64 0)), (3, Operand.const (Value.int IntKind.i64 7))], type := 57, pos := "law.go:40", after := #[{ on := 37, ground := Ground.guard }], guard := some (37, true) }) rfl (fun K hK => ?_) AllReadyH.nil)
      go_simp
      have hb := belowBox X6 (.cells #[.int .i64 0, .int .i64 2, .int .i64 0, .int .i64 7] 3)
      have HSL2 := Lib.hid (show Sl (X6.alloc (.cells #[.int .i64 0, .int .i64 2, .int .i64 0, .int .i64 7] 3)) 1 (.slice (some ⟨X6.heap.size, 0, none⟩) 4 4) 4 ([0, 2, 0, 7].map IV) from Sl.lit X6 3 1 4 [IV 0, IV 2, IV 0, IV 7] (by unfold maxLen; omega) rfl)
      replace HBD := Lib.hid (bthen HBD.out hb)
      replace HPR := Lib.hid (HPR.out.below hb)
      replace HOO := Lib.hid (HOO.out.below hb)
      replace HSTD := Lib.hid (HSTD.out.below hb)
      replace HV11 := Lib.hid (HV11.out.below hb)
      have hKK := And.intro (hu hb (hHeld.1)) <| And.intro (hu hb (hHeld.2.1)) <| And.intro (hu hb (hHeld.2.2.1)) <| And.intro (hu hb (hHeld.2.2.2.1)) <| And.intro (hu hb (hHeld.2.2.2.2.1)) <| And.intro (hu hb (hHeld.2.2.2.2.2.1)) <| And.intro (hu hb (hHeld.2.2.2.2.2.2.1)) <| And.intro (hu hb (hHeld.2.2.2.2.2.2.2.1)) <| hu hb (hHeld.2.2.2.2.2.2.2.2)
      clear hb
      generalize X6.heap.size = g14 at HSL2 ⊢
      generalize X6.alloc (.cells #[.int .i64 0, .int .i64 2, .int .i64 0, .int .i64 7] 3) = X7 at HBD HPR HOO HSTD HV11 HSL2 hKK ⊢
      refine hK.out _ _ (hKK) (fun hHeld2 => ?_)
      clear hK K hHeld
      rename _ => hHeld
      try simp only [Act.put, stB, stZ, stS]
      refine wpAnyH_ready (rs := [40]) (by kernel_rfl) (by simp) ?_
      refine (AllReadyH.cons (o := { dst := some 82, op := Op.call { callee := Callee.value (Operand.func 40), args := #[Operand.tmp 81], argTypes := #[57] }, type := 28, pos := "law.go:40", after := #[{ on := 39, ground := Ground.data }, { on := 37, ground := Ground.chain }, { on := 37, ground := Ground.guard }], guard := some (37, true) }) rfl (fun K hK => ?_) AllReadyH.nil)
      go_simp
      refine (vof_fix _ 4 4 [0, 2, 0, 7] _ HSL2.out rfl (by decide) (by omega)).mono ?_
      rintro e X8 ⟨a14, c14, v14, rfl, hv⟩
      have hb := hv.bel
      have HV14 := Lib.hid hv.vec
      have HQ14 := Lib.hid hv.q
      clear hv
      replace HBD := Lib.hid (bthen HBD.out hb)
      replace HPR := Lib.hid (HPR.out.below hb)
      replace HOO := Lib.hid (HOO.out.below hb)
      replace HSTD := Lib.hid (HSTD.out.below hb)
      replace HV11 := Lib.hid (HV11.out.below hb)
      have hKK := And.intro (hu hb (hHeld.1)) <| And.intro (hu hb (hHeld.2.1)) <| And.intro (hu hb (hHeld.2.2.1)) <| And.intro (hu hb (hHeld.2.2.2.1)) <| And.intro (hu hb (hHeld.2.2.2.2.1)) <| And.intro (hu hb (hHeld.2.2.2.2.2.1)) <| And.intro (hu hb (hHeld.2.2.2.2.2.2.1)) <| And.intro (hu hb (hHeld.2.2.2.2.2.2.2.1)) <| hu hb (hHeld.2.2.2.2.2.2.2.2)
      clear hb HSL2
      refine hK.out _ _ (hKK) (fun hHeld2 => ?_)
      clear hK K hHeld
      rename _ => hHeld
      try simp only [Act.put, stB, stZ, stS]
      refine wpAnyH_ready (rs := [41]) (by kernel_rfl) (by simp) ?_
      refine (AllReadyH.cons (o := { dst := some 83, op := Op.call { callee := Callee.value (Operand.func 24), args := #[Operand.tmp 80, Operand.tmp 82], argTypes := #[28, 28] }, type := 4, pos := "law.go:40", after := #[{ on := 38, ground := Ground.data }, { on := 40, ground := Ground.data }, { on := 40, ground := Ground.chain }, { on := 37, ground := Ground.guard }], guard := some (37, true) }) rfl (fun K hK => ?_) AllReadyH.nil)
      go_simp
      refine (vsame_any a11 a14 4 4 c11 c14 v11 v14 X8 HV11.out HV14.out (canCmpV_whole (B := 1000) (by rw [HQ11.out]; exact allW_ofI (by decide)) (by rw [HQ14.out]; exact allW_ofI (by decide)) (by unfold W64; omega))).mono ?_
      rintro e X9 ⟨rfl, hb⟩
      rw [decide_eq_true (show sameQ v11 v14 from HQ11.out.trans HQ14.out.symm)]
      replace HBD := Lib.hid (bthen HBD.out hb)
      replace HPR := Lib.hid (HPR.out.below hb)
      replace HOO := Lib.hid (HOO.out.below hb)
      replace HSTD := Lib.hid (HSTD.out.below hb)
      replace HV11 := Lib.hid (HV11.out.below hb)
      replace HV14 := Lib.hid (HV14.out.below hb)
      have hKK := And.intro (hu hb (hHeld.1)) <| And.intro (hu hb (hHeld.2.1)) <| And.intro (hu hb (hHeld.2.2.1)) <| And.intro (hu hb (hHeld.2.2.2.1)) <| And.intro (hu hb (hHeld.2.2.2.2.1)) <| And.intro (hu hb (hHeld.2.2.2.2.2.1)) <| And.intro (hu hb (hHeld.2.2.2.2.2.2.1)) <| And.intro (hu hb (hHeld.2.2.2.2.2.2.2.1)) <| hu hb (hHeld.2.2.2.2.2.2.2.2)
      clear hb
      refine hK.out _ _ (hKK) (fun hHeld2 => ?_)
      clear hK K hHeld
      rename _ => hHeld
      try simp only [Act.put, stB, stZ, stS]
      refine tk 42 (some 84) (v := ?_) rfl rfl ?_ ?_
      rotate_left
      · (intro w _; go_simp; (try with_reducible rfl))
      simp only [Act.put, stB, stZ, stS]
      refine tk 43 (some 0) (v := ?_) rfl rfl ?_ ?_
      rotate_left
      · (intro w _; go_simp; (try with_reducible rfl))
      simp only [Act.put, stB, stZ, stS]
      refine wpAnyH_done (by kernel_rfl) ?_ _
      (try simp only [Exit.inBlock, Exit.then])
      clear hHeld
      go_wp2_with fail
      go_ret
      exact ⟨rfl, bthen HB12.out HBD.out⟩
end Go.Proofs.Ytndndfobkbeolaa
