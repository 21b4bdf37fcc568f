/-
  The walk of StoreBack: it answers true; the conditions: what errors.errorType holds, how long the script is.
  Printed by a program of this repository (wip/law9.py).
-/
import Derived.Test.YtaehklhbokocbaaGreatDoorZM
set_option linter.unusedVariables false
set_option linter.unusedSimpArgs false
namespace Go.Proofs.YtaehklhbokocbaaGreatDoor
open Go.RowKit Go.Extern.Stop Go.Stop Go.Extern
set_option maxRecDepth 100000 in
set_option maxHeartbeats 32000000 in
theorem storeBack_any (a : Option Addr) (c : Nat) (zs : List ZA) (x : XA) (ea : Option Addr) (ec : Nat) (w : World) (hg : Hg w) (hs : Scr w (.slice a zs.length c) zs) (hB : load (acts zs) ≤ 1048576) (hx : XOk x) (he : Sl w 3 (.slice ea x.es.length ec) x.es.length (x.es.flatMap enCells)) (hel : x.es.length ≤ 1048576) :
    Calls Tryz.prog 8 #[.slice a zs.length c, actV x ea ec] w fun e w' => e = .returned (.bool true) ∧ Below w.heap.size w w' := by
  unfold actV
  have hlen := he.lenI
  obtain ⟨w1, hw1⟩ : ∃ w1, w.alloc (.cells #[.int .i64 x.d, .int .i64 x.row, .int .i64 x.col, .int .i64 x.kind, .int .i64 x.v.1, .int .i64 x.v.2, .slice ea x.es.length ec] 39) = w1 := ⟨_, rfl⟩
  obtain ⟨xb, hxb⟩ : ∃ xb, w.heap.size = xb := ⟨_, rfl⟩
  have hb1 : Below w.heap.size w w1 := by rw [← hw1]; exact belowBox w (.cells #[.int .i64 x.d, .int .i64 x.row, .int .i64 x.col, .int .i64 x.kind, .int .i64 x.v.1, .int .i64 x.v.2, .slice ea x.es.length ec] 39)
  have hxl : xb < w1.heap.size := by rw [← hw1, ← hxb]; simp
  have hty : XT w1 xb := by rw [← hw1, ← hxb]; exact ⟨_, heap_alloc_new _ _⟩
  have x0 : w1.cell? ⟨xb, 0, none⟩ = some (.int .i64 x.d) := by rw [← hw1, ← hxb]; simp
  have x1 : w1.cell? ⟨xb, 1, none⟩ = some (.int .i64 x.row) := by rw [← hw1, ← hxb]; simp
  have x2 : w1.cell? ⟨xb, 2, none⟩ = some (.int .i64 x.col) := by rw [← hw1, ← hxb]; simp
  have x3 : w1.cell? ⟨xb, 3, none⟩ = some (.int .i64 x.kind) := by rw [← hw1, ← hxb]; simp
  have x4 : w1.cell? ⟨xb, 4, none⟩ = some (.int .i64 x.v.1) := by rw [← hw1, ← hxb]; simp
  have x5 : w1.cell? ⟨xb, 5, none⟩ = some (.int .i64 x.v.2) := by rw [← hw1, ← hxb]; simp
  have x6 : w1.cell? ⟨xb, 6, none⟩ = some (.slice ea x.es.length ec) := by rw [← hw1, ← hxb]; simp
  have xf : w1.frozen? ⟨xb, 0, none⟩ = false := by rw [← hw1, ← hxb]; simp
  have hbe := played_wf (acts zs)
  obtain ⟨S, hS⟩ : ∃ S, AS.new.run (acts zs) = S := ⟨_, rfl⟩
  rw [hS] at hbe
  have HWF := Lib.hid hbe.1
  have HLR := Lib.hid (show S.lr ≤ 1048576 ∧ S.lc ≤ 1048576 from ⟨by have := hbe.2.1; omega, by have := hbe.2.2; omega⟩)
  have HAW := Lib.hid (awake_any w1 (hg.below hb1 hg.lt))
  have HPL := Lib.hid (fun (W : World) (hb : Below w.heap.size w W) => played_any a c zs W (hs.below hb) (hg.below hb hg.lt) hB)
  rw [hS] at HPL
  have HX1 := Lib.hid (hx.d 1)
  have HX2 := Lib.hid (hx.d 2)
  have HE := Lib.hid he
  have HB1 := Lib.hid hb1
  have HW1 := Lib.hid hw1
  have HXB0 := Lib.hid hxb
  have HTY1 := Lib.hid hty
  clear hs hg hB hx he hw1 hxb hb1 hS hbe hty
  go_enter Tryz.func8, Tryz.ntmps8
  go_upto_region 1 with fail
  (try simp only [HW1.out, HXB0.out])
  clear HW1
  go_wp2_with fail
  refine HAW.out.mono ?_
  rintro e w2 ⟨rfl, hb2⟩
  have HB2 := Lib.hid (HB1.out.trans (hb2.mono HB1.out.size))
  have HBX := Lib.hid hb2
  clear hb2 HAW
  go_wp2_with fail
  refine (HPL.out _ HB2.out).mono ?_
  rintro e w3 ⟨sb, G, rfl, hsa, hG, hb3⟩
  have hl := LSt.of_fresh (K := fun k => k = xb) HB2.out hsa hG hb3 (fun k hk => by rw [hk]; exact Nat.lt_of_lt_of_le hxl HBX.out.size)
  have HL := Lib.hid hl
  have HB3 := Lib.hid (HBX.out.trans (hb3.mono HBX.out.size))
  clear hsa hG hb3 hl HPL
  go_wp2_with fail
  refine HL.out.prob HWF.out ?_
  intro F ca ra cc rc cs rows w4 hp hF hl hb4
  obtain ⟨w5, hw5⟩ : ∃ w5, w4.alloc (.cells #[.slice ca cs.length cc, .slice ra rows.length rc] 73) = w5 := ⟨_, rfl⟩
  obtain ⟨pb, hpb⟩ : ∃ pb, w4.heap.size = pb := ⟨_, rfl⟩
  have hb5 : Below w4.heap.size w4 w5 := by rw [← hw5]; exact belowBox w4 (.cells #[.slice ca cs.length cc, .slice ra rows.length rc] 73)
  have hpl : pb < w5.heap.size := by rw [← hw5, ← hpb]; simp
  have p0 : w5.cell? ⟨pb, 0, none⟩ = some (.slice ca cs.length cc) := by rw [← hw5, ← hpb]; simp
  have p1 : w5.cell? ⟨pb, 1, none⟩ = some (.slice ra rows.length rc) := by rw [← hw5, ← hpb]; simp
  obtain ⟨KK, hKK⟩ : ∃ KK : Nat → Prop, KK = fun k => k = xb ∨ (F k ∨ k = pb) := ⟨_, rfl⟩
  have hz4 := hb4.size
  have hl5 : LSt w w5 sb S KK := by
    rw [hKK]
    refine HL.out.more (bthen hb4 hb5) fun k hk => ?_
    rcases hk with hk | hk
    · exact ⟨hF k hk, Nat.lt_of_lt_of_le (hp.lt k hk) hb5.size⟩
    · subst hk; exact ⟨by omega, hpl⟩
  have hb35 := bthen hb4 hb5
  have hz3 := HB3.out.size
  have HP := Lib.hid (hp.below hb5)
  have HFX := Lib.hid (show ∀ k, F k → k ≠ xb from fun k hk e => by have := hF k hk; omega)
  have HPX := Lib.hid (show pb ≠ xb by omega)
  have HB5 := Lib.hid (HB3.out.trans (hb35.mono HB3.out.size))
  replace HL := Lib.hid hl5
  have HW5 := Lib.hid hw5
  have HPB := Lib.hid hpb
  have HXB := Lib.hid (show w.heap.size ≤ xb from Nat.le_of_eq HXB0.out)
  have hkx : Keeps w1 w5 (fun _ => False) := below_keeps HB5.out
  have y0 := (HB5.out.cell (p := ⟨xb, 0, none⟩) hxl).trans x0
  have y1 := (HB5.out.cell (p := ⟨xb, 1, none⟩) hxl).trans x1
  have y2 := (HB5.out.cell (p := ⟨xb, 2, none⟩) hxl).trans x2
  have y3 := (HB5.out.cell (p := ⟨xb, 3, none⟩) hxl).trans x3
  have y4 := (HB5.out.cell (p := ⟨xb, 4, none⟩) hxl).trans x4
  have y5 := (HB5.out.cell (p := ⟨xb, 5, none⟩) hxl).trans x5
  have y6 := (HB5.out.cell (p := ⟨xb, 6, none⟩) hxl).trans x6
  have yf := (HB5.out.frozen (p := ⟨xb, 0, none⟩) hxl).trans xf
  have HTY := Lib.hid (HTY1.out.frm (Frm.of_below (w0 := w) (K := fun _ => True) HB5.out) trivial)
  have HKX := Lib.hid (show KK xb by rw [hKK]; exact .inl rfl)
  have HKP := Lib.hid (show KK pb by rw [hKK]; exact .inr (.inr rfl))
  have HKF := Lib.hid (show ∀ k, F k → KK k by rw [hKK]; exact fun k h => .inr (.inl h))
  clear hp hF hl hb4 hb5 hw5 hpb hl5 hb35 x0 x1 x2 x3 x4 x5 x6 xf hkx hKK
  go_upto_region 7 with fail
  (try simp only [HW5.out, HPB.out])
  clear HW5 HPB
  go_upto_region 8 with fail
  have hpk := HL.out.poke HKX.out (XT.noW HTY.out) HXB.out 0 (.int .i64 1)
  replace HL := Lib.hid hpk.1
  replace HP := Lib.hid (HP.out.frm hpk.2 HFX.out)
  replace HTY := Lib.hid (HTY.out.set 0 (.int .i64 1))
  replace p0 := hpk.2.cell HPX.out p0
  replace p1 := hpk.2.cell HPX.out p1
  have z0 := World.cell?_setCell_same _ _ (.int .i64 1) y0
  have z1 := (World.cell?_setCell_other _ ⟨xb, 0, none⟩ ⟨xb, 1, none⟩ (.int .i64 1) (by simp)).trans y1
  have z2 := (World.cell?_setCell_other _ ⟨xb, 0, none⟩ ⟨xb, 2, none⟩ (.int .i64 1) (by simp)).trans y2
  have z3 := (World.cell?_setCell_other _ ⟨xb, 0, none⟩ ⟨xb, 3, none⟩ (.int .i64 1) (by simp)).trans y3
  have z4 := (World.cell?_setCell_other _ ⟨xb, 0, none⟩ ⟨xb, 4, none⟩ (.int .i64 1) (by simp)).trans y4
  have z5 := (World.cell?_setCell_other _ ⟨xb, 0, none⟩ ⟨xb, 5, none⟩ (.int .i64 1) (by simp)).trans y5
  have z6 := (World.cell?_setCell_other _ ⟨xb, 0, none⟩ ⟨xb, 6, none⟩ (.int .i64 1) (by simp)).trans y6
  clear y0 y1 y2 y3 y4 y5 y6 hpk
  generalize w5.setCell ⟨xb, 0, none⟩ (.int .i64 1) = w6 at HL HP HTY p0 p1 z0 z1 z2 z3 z4 z5 z6 ⊢
  obtain ⟨Gs, hsas, _⟩ := id HL.out
  have HSAS := Lib.hid hsas
  clear hsas
  go_wp2_with fail
  refine (as_copy HSAS.out HWF.out).mono ?_
  rintro e w7 ⟨cb, Gc, rfl, hsc, hGc, hb7⟩
  have hlc := LSt.of_fresh (w0 := w) (K := fun k => k < w6.heap.size) HL.out.bl hsc hGc hb7 (fun k h => h)
  have HLC := Lib.hid hlc
  have HB7 := Lib.hid hb7
  obtain ⟨⟨⟨n1, f1⟩, S1⟩, hS1⟩ : ∃ r, S.addRow x.kind (fracQ x.v) (x.es.map eQ) = r := ⟨_, rfl⟩
  have hcs := addRow_cases S x.kind (fracQ x.v) (x.es.map eQ)
  rw [hS1] at hcs
  have HACT := Lib.hid ((act1 S x).trans hS1)
  have HCS := Lib.hid hcs
  have u0 := (hb7.cell (p := ⟨xb, 0, none⟩) (World.block_lt_of_cell? _ _ z0)).trans z0
  have u1 := (hb7.cell (p := ⟨xb, 1, none⟩) (World.block_lt_of_cell? _ _ z1)).trans z1
  have u2 := (hb7.cell (p := ⟨xb, 2, none⟩) (World.block_lt_of_cell? _ _ z2)).trans z2
  have u3 := (hb7.cell (p := ⟨xb, 3, none⟩) (World.block_lt_of_cell? _ _ z3)).trans z3
  have u4 := (hb7.cell (p := ⟨xb, 4, none⟩) (World.block_lt_of_cell? _ _ z4)).trans z4
  have u5 := (hb7.cell (p := ⟨xb, 5, none⟩) (World.block_lt_of_cell? _ _ z5)).trans z5
  have u6 := (hb7.cell (p := ⟨xb, 6, none⟩) (World.block_lt_of_cell? _ _ z6)).trans z6
  clear hsc hGc hb7 hlc hS1 hcs
  go_wp2_with fail
  refine HLC.out.setR (s1 := S1) (fl := f1) (fun G hs => by
    have h := refused_any w _ cb G S ⟨1, x.row, x.col, x.kind, x.v, x.es⟩ ea ec hs HLC.out.bl HWF.out HX1.out HE.out hel (by have := HLR.out.1; omega) (by have := HLR.out.2; omega)
    rw [HACT.out] at h
    exact h) ?_
  intro ev w8 hev hlc hfr
  have hb8 : Below w6.heap.size w6 w8 := HB7.out.trans (hfr.under HB7.out.size)
  replace HL := Lib.hid (HL.out.below hb8)
  replace HP := Lib.hid (HP.out.below hb8)
  replace HTY := Lib.hid (HTY.out.frm (Frm.of_below (w0 := w) (K := fun _ => True) hb8) trivial)
  replace p0 := (hb8.cell (p := ⟨pb, 0, none⟩) (World.block_lt_of_cell? _ _ p0)).trans p0
  replace p1 := (hb8.cell (p := ⟨pb, 1, none⟩) (World.block_lt_of_cell? _ _ p1)).trans p1
  have y0 := (hb8.cell (p := ⟨xb, 0, none⟩) (World.block_lt_of_cell? _ _ z0)).trans z0
  have y1 := (hb8.cell (p := ⟨xb, 1, none⟩) (World.block_lt_of_cell? _ _ z1)).trans z1
  have y2 := (hb8.cell (p := ⟨xb, 2, none⟩) (World.block_lt_of_cell? _ _ z2)).trans z2
  have y3 := (hb8.cell (p := ⟨xb, 3, none⟩) (World.block_lt_of_cell? _ _ z3)).trans z3
  have y4 := (hb8.cell (p := ⟨xb, 4, none⟩) (World.block_lt_of_cell? _ _ z4)).trans z4
  have y5 := (hb8.cell (p := ⟨xb, 5, none⟩) (World.block_lt_of_cell? _ _ z5)).trans z5
  have y6 := (hb8.cell (p := ⟨xb, 6, none⟩) (World.block_lt_of_cell? _ _ z6)).trans z6
  have HEV := Lib.hid hev
  clear hb8 hfr hlc hev u0 u1 u2 u3 u4 u5 u6 z0 z1 z2 z3 z4 z5 z6 HLC HB7 HSAS
  by_cases hf1 : f1 = noF
  · subst hf1
    obtain rfl : ev = .nilIface := HEV.out.nil
    obtain ⟨vs, hS1⟩ : ∃ vs, S1 = ({ S with rows := S.rows ++ [⟨S.lr + 1, x.kind, fracQ x.v, vs⟩], lr := S.lr + 1 } : AS) := by
      rcases HCS.out with ⟨_, vs, h⟩ | ⟨h, _⟩
      · exact ⟨vs, h⟩
      · exact absurd rfl h
    have hwfa : WF ({ S with rows := S.rows ++ [⟨S.lr + 1, x.kind, fracQ x.v, vs⟩], lr := S.lr + 1 } : AS) := by
      have h := HWF.out.act ⟨1, x.row, x.col, x.kind, x.v, x.es⟩
      rw [HACT.out] at h
      rw [← hS1]
      exact h
    subst hS1
    have HWFA := Lib.hid hwfa
    have HWFB := Lib.hid (show WF ({ S with lr := S.lr + 1 } : AS) from WF.lr1 HWF.out)
    obtain ⟨M, hM⟩ : ∃ M, S.rows.length = M := ⟨_, rfl⟩
    have HCL := Lib.hid (show (({ S with rows := S.rows ++ [⟨S.lr + 1, x.kind, fracQ x.v, vs⟩], lr := S.lr + 1 } : AS)).rids.length = M + 1 by rw [← hM]; simp [AS.rids])
    have HLAST := Lib.hid (show ∀ h, (({ S with rows := S.rows ++ [⟨S.lr + 1, x.kind, fracQ x.v, vs⟩], lr := S.lr + 1 } : AS)).rids[M]'h = S.lr + 1 from fun h => by subst hM; simp [AS.rids])
    have hpos : ¬ (M : Int) + 1 = 0 := by omega
    have hi0 : (0 : Int) ≤ (M : Int) := by omega
    have hM20 : M ≤ 20 := by rw [← hM]; exact HWF.out.rl
    have hwM : IntKind.i64.wrap (M : Int) = (M : Int) := by rw [IntKind.wrap_i64]; omega
    have hi1 : (M : Int) < (M : Int) + 1 := by omega
    clear hM HCS HEV hwfa
    go_upto_region 10 with fail
    replace HL := Lib.hid (HL.out.below (Below.drawn w8 1))
    replace HP := Lib.hid (HP.out.below (Below.drawn w8 1))
    replace HTY := Lib.hid (HTY.out.frm (Frm.of_below (w0 := w) (K := fun _ => True) (Below.drawn w8 1)) trivial)
    refine wp_region_held_drew (S := fun W => W.cell? ⟨xb, 0, none⟩ = some (.int .i64 1) ∧ W.cell? ⟨xb, 1, none⟩ = some (.int .i64 x.row) ∧ W.cell? ⟨xb, 2, none⟩ = some (.int .i64 x.col) ∧ W.cell? ⟨xb, 3, none⟩ = some (.int .i64 x.kind) ∧ W.cell? ⟨xb, 4, none⟩ = some (.int .i64 x.v.1) ∧ W.cell? ⟨xb, 5, none⟩ = some (.int .i64 x.v.2) ∧ W.cell? ⟨xb, 6, none⟩ = some (.slice ea x.es.length ec) ∧ W.cell? ⟨pb, 0, none⟩ = some (.slice ca cs.length cc) ∧ W.cell? ⟨pb, 1, none⟩ = some (.slice ra rows.length rc)) (by kernel_rfl) (⟨y0, y1, y2, y3, y4, y5, y6, p0, p1⟩) (fun hHeld => ?_)
    refine tk 0 (some 27) (v := ?_) rfl rfl ?_ ?_
    rotate_left
    · (intro w _; go_simp; (try with_reducible rfl))
    simp only [Act.put, stB, stZ, stS]
    refine tk 1 (some 28) (v := ?_) rfl rfl ?_ ?_
    rotate_left
    · (intro w hSw; (try dsimp only at hSw); ((try obtain ⟨hSw0, hSw1, hSw2, hSw3, hSw4, hSw5, hSw6, hSw7, hSw8⟩ := hSw); go_simp); (try with_reducible rfl))
    simp only [Act.put, stB, stZ, stS]
    refine wpAnyH_ready (rs := [2]) (by kernel_rfl) (by simp) ?_
    refine (AllReadyH.cons (o := { dst := some 29, op := Op.call { callee := Callee.value (Operand.func 31), args := #[Operand.tmp 27, Operand.tmp 28], argTypes := #[24, 39] }, type := 42, pos := "law.go:287", after := #[{ on := 0, ground := Ground.data }, { on := 1, ground := Ground.data }], guard := none }) rfl (fun K hK => ?_) AllReadyH.nil)
    go_simp
    refine HL.out.setR (s1 := ({ S with rows := S.rows ++ [⟨S.lr + 1, x.kind, fracQ x.v, vs⟩], lr := S.lr + 1 } : AS)) (fl := noF) (fun G hs => by
      have h := refused_any w _ sb G S ⟨1, x.row, x.col, x.kind, x.v, x.es⟩ ea ec hs HL.out.bl HWF.out HX1.out HE.out hel (by have := HLR.out.1; omega) (by have := HLR.out.2; omega)
      rw [HACT.out] at h
      exact h) ?_
    intro ev V1 hev hl hfr
    obtain rfl : ev = .nilIface := hev.nil
    replace HL := Lib.hid hl
    clear hl hev
    replace HTY := Lib.hid (HTY.out.frm hfr HKX.out)
    replace HP := Lib.hid (HP.out.frm hfr HKF.out)
    have hKK := (And.intro (hfr.cell HKX.out hHeld.1) (And.intro (hfr.cell HKX.out hHeld.2.1) (And.intro (hfr.cell HKX.out hHeld.2.2.1) (And.intro (hfr.cell HKX.out hHeld.2.2.2.1) (And.intro (hfr.cell HKX.out hHeld.2.2.2.2.1) (And.intro (hfr.cell HKX.out hHeld.2.2.2.2.2.1) (And.intro (hfr.cell HKX.out hHeld.2.2.2.2.2.2.1) (And.intro (hfr.cell HKP.out hHeld.2.2.2.2.2.2.2.1) (hfr.cell HKP.out hHeld.2.2.2.2.2.2.2.2)))))))))
    clear hfr
    refine hK.out _ _ (hKK) (fun hHeld2 => ?_)
    clear hK K hHeld
    rename _ => hHeld
    try simp only [Act.put, stB, stZ, stS]
    refine tk 3 (some 30) (v := ?_) rfl rfl ?_ ?_
    rotate_left
    · (intro w _; go_simp; (try with_reducible rfl))
    simp only [Act.put, stB, stZ, stS]
    refine tk 4 (some 31) (v := ?_) rfl rfl ?_ ?_
    rotate_left
    · (intro w _; go_simp; (try with_reducible rfl))
    simp only [Act.put, stB, stZ, stS]
    refine tk 5 (some 32) (v := ?_) rfl rfl ?_ ?_
    rotate_left
    · (intro w _; go_simp; (try with_reducible rfl))
    simp only [Act.put, stB, stZ, stS]
    refine wpAnyH_ready (rs := [6]) (by kernel_rfl) (by simp) ?_
    refine (AllReadyH.cons (o := { dst := some 33, op := Op.call { callee := Callee.value (Operand.func 13), args := #[Operand.tmp 32], argTypes := #[24] }, type := 27, pos := "law.go:287", after := #[{ on := 5, ground := Ground.data }, { on := 4, ground := Ground.chain }, { on := 4, ground := Ground.guard }], guard := some (4, false) }) rfl (fun K hK => ?_) AllReadyH.nil)
    go_simp
    refine HL.out.rows HWFA.out ?_
    intro ra1 rc1 V2 hm hl hb
    rw [HCL.out] at hm ⊢
    replace HL := Lib.hid hl
    skip
    clear hl hm
    have hfr := Frm.of_below (w0 := w) (K := KK) hb
    replace HTY := Lib.hid (HTY.out.frm hfr HKX.out)
    replace HP := Lib.hid (HP.out.frm hfr HKF.out)
    have hKK := (And.intro (hfr.cell HKX.out hHeld.1) (And.intro (hfr.cell HKX.out hHeld.2.1) (And.intro (hfr.cell HKX.out hHeld.2.2.1) (And.intro (hfr.cell HKX.out hHeld.2.2.2.1) (And.intro (hfr.cell HKX.out hHeld.2.2.2.2.1) (And.intro (hfr.cell HKX.out hHeld.2.2.2.2.2.1) (And.intro (hfr.cell HKX.out hHeld.2.2.2.2.2.2.1) (And.intro (hfr.cell HKP.out hHeld.2.2.2.2.2.2.2.1) (hfr.cell HKP.out hHeld.2.2.2.2.2.2.2.2)))))))))
    clear hfr
    clear hb
    refine hK.out _ _ (hKK) (fun hHeld2 => ?_)
    clear hK K hHeld
    rename _ => hHeld
    try simp only [Act.put, stB, stZ, stS]
    refine tk 7 (some 34) (v := ?_) rfl rfl ?_ ?_
    rotate_left
    · (intro w _; go_simp; (try with_reducible rfl))
    simp only [Act.put, stB, stZ, stS]
    refine tk 8 (some 35) (v := ?_) rfl rfl ?_ ?_
    rotate_left
    · (intro w _; go_simp; (try with_reducible rfl))
    simp only [Act.put, stB, stZ, stS]
    refine tk 9 (some 36) (v := ?_) rfl rfl ?_ ?_
    rotate_left
    · (intro w _; go_simp; (try with_reducible rfl))
    simp only [Act.put, stB, stZ, stS]
    refine tk 10 (some 37) (v := ?_) rfl rfl ?_ ?_
    rotate_left
    · (intro w _; go_simp; (try with_reducible rfl))
    simp only [Act.put, stB, stZ, stS]
    refine tk 11 (some 38) (v := ?_) rfl rfl ?_ ?_
    rotate_left
    · (intro w _; go_simp; (try with_reducible rfl))
    simp only [Act.put, stB, stZ, stS]
    refine tk 12 (some 39) (v := ?_) rfl rfl ?_ ?_
    rotate_left
    · (intro w _; go_simp; (try with_reducible rfl))
    simp only [Act.put, stB, stZ, stS]
    refine tk 14 (some 41) (v := ?_) rfl rfl ?_ ?_
    rotate_left
    · (intro w _; go_simp; (try with_reducible rfl))
    simp only [Act.put, stB, stZ, stS]
    refine wpAnyH_ready (rs := [13]) (by kernel_rfl) (by simp) ?_
    refine (AllReadyH.cons (o := { dst := some 40, op := Op.call { callee := Callee.value (Operand.func 13), args := #[Operand.tmp 39], argTypes := #[24] }, type := 27, pos := "law.go:287", after := #[{ on := 12, ground := Ground.data }, { on := 10, ground := Ground.chain }, { on := 10, ground := Ground.guard }], guard := some (10, false) }) rfl (fun K hK => ?_) AllReadyH.nil)
    go_simp
    refine HL.out.rows HWFA.out ?_
    intro ra2 rc2 V3 hm hl hb
    rw [HCL.out] at hm ⊢
    replace HL := Lib.hid hl
    have hrl := (Sl.ofMid hm).lenI
    obtain ⟨eb, eo, ee, hel9, he9⟩ := int_get (Sl.ofMid hm) M (by rw [HCL.out]; omega) (by omega)
    subst ee
    rw [HLAST.out] at he9
    clear hl hm
    have hfr := Frm.of_below (w0 := w) (K := KK) hb
    replace HTY := Lib.hid (HTY.out.frm hfr HKX.out)
    replace HP := Lib.hid (HP.out.frm hfr HKF.out)
    have hKK := (And.intro (hfr.cell HKX.out hHeld.1) (And.intro (hfr.cell HKX.out hHeld.2.1) (And.intro (hfr.cell HKX.out hHeld.2.2.1) (And.intro (hfr.cell HKX.out hHeld.2.2.2.1) (And.intro (hfr.cell HKX.out hHeld.2.2.2.2.1) (And.intro (hfr.cell HKX.out hHeld.2.2.2.2.2.1) (And.intro (hfr.cell HKX.out hHeld.2.2.2.2.2.2.1) (And.intro (hfr.cell HKP.out hHeld.2.2.2.2.2.2.2.1) (hfr.cell HKP.out hHeld.2.2.2.2.2.2.2.2)))))))))
    clear hfr
    clear hb
    refine hK.out _ _ (hKK) (fun hHeld2 => ?_)
    clear hK K hHeld
    rename _ => hHeld
    try simp only [Act.put, stB, stZ, stS]
    refine wpAnyH_ready (rs := [15]) (by kernel_rfl) (by simp) ?_
    refine (AllReadyH.cons (o := { dst := some 42, op := Op.call { callee := Callee.value (Operand.func 13), args := #[Operand.tmp 41], argTypes := #[24] }, type := 27, pos := "law.go:287", after := #[{ on := 14, ground := Ground.data }, { on := 13, ground := Ground.chain }, { on := 10, ground := Ground.guard }], guard := some (10, false) }) rfl (fun K hK => ?_) AllReadyH.nil)
    go_simp
    refine HL.out.rows HWFA.out ?_
    intro ra3 rc3 V4 hm hl hb
    rw [HCL.out] at hm ⊢
    replace HL := Lib.hid hl
    replace he9 := (hb.cell (p := ⟨eb, eo + M, none⟩) hel9).trans he9
    replace hel9 := Nat.lt_of_lt_of_le hel9 hb.size
    skip
    clear hl hm
    have hfr := Frm.of_below (w0 := w) (K := KK) hb
    replace HTY := Lib.hid (HTY.out.frm hfr HKX.out)
    replace HP := Lib.hid (HP.out.frm hfr HKF.out)
    have hKK := (And.intro (hfr.cell HKX.out hHeld.1) (And.intro (hfr.cell HKX.out hHeld.2.1) (And.intro (hfr.cell HKX.out hHeld.2.2.1) (And.intro (hfr.cell HKX.out hHeld.2.2.2.1) (And.intro (hfr.cell HKX.out hHeld.2.2.2.2.1) (And.intro (hfr.cell HKX.out hHeld.2.2.2.2.2.1) (And.intro (hfr.cell HKX.out hHeld.2.2.2.2.2.2.1) (And.intro (hfr.cell HKP.out hHeld.2.2.2.2.2.2.2.1) (hfr.cell HKP.out hHeld.2.2.2.2.2.2.2.2)))))))))
    clear hfr
    clear hb
    refine hK.out _ _ (hKK) (fun hHeld2 => ?_)
    clear hK K hHeld
    rename _ => hHeld
    try simp only [Act.put, stB, stZ, stS]
    refine tk 16 (some 43) (v := ?_) rfl rfl ?_ ?_
    rotate_left
    · (intro w _; go_simp; (try with_reducible rfl))
    simp only [Act.put, stB, stZ, stS]
    refine tk 17 (some 44) (v := ?_) rfl rfl ?_ ?_
    rotate_left
    · (intro w _; go_simp; (try with_reducible rfl))
    simp only [Act.put, stB, stZ, stS]
    refine tk 18 (some 45) (v := ?_) rfl rfl ?_ ?_
    rotate_left
    · (intro w hSw; (try dsimp only at hSw); ((try obtain ⟨hSw0, hSw1, hSw2, hSw3, hSw4, hSw5, hSw6, hSw7, hSw8⟩ := hSw); go_simp); (try with_reducible rfl))
    simp only [Act.put, stB, stZ, stS]
    refine wpAnyH_ready (rs := [19]) (by kernel_rfl) (by simp) ?_
    refine (AllReadyH.cons (o := { dst := some 46, op := Op.load 3 (Operand.tmp 45), type := 3, pos := "law.go:287", after := #[{ on := 18, ground := Ground.data }, { on := 10, ground := Ground.guard }], guard := some (10, false) }) rfl (fun K hK => ?_) AllReadyH.nil)
    go_simp
    have hKK := hHeld
    clear he9 hel9
    refine hK.out _ _ (hKK) (fun hHeld2 => ?_)
    clear hK K hHeld
    rename _ => hHeld
    try simp only [Act.put, stB, stZ, stS]
    refine wpAnyH_ready (rs := [20]) (by kernel_rfl) (by simp) ?_
    refine (AllReadyH.cons (o := { dst := some 47, op := Op.call { callee := Callee.value (Operand.func 19), args := #[Operand.tmp 38, Operand.tmp 46], argTypes := #[24, 3] }, type := 42, pos := "law.go:287", after := #[{ on := 11, ground := Ground.data }, { on := 19, ground := Ground.data }, { on := 15, ground := Ground.chain }, { on := 10, ground := Ground.guard }], guard := some (10, false) }) rfl (fun K hK => ?_) AllReadyH.nil)
    go_simp
    refine HL.out.setR (s1 := ({ S with lr := S.lr + 1 } : AS)) (fl := noF) (fun G hs => by
      have h := as_dropRow hs HWFA.out (S.lr + 1)
      rw [dropRow_last HWF.out _ _ vs] at h
      exact h) ?_
    intro ev V5 hev hl hfr
    obtain rfl : ev = .nilIface := hev.nil
    replace HL := Lib.hid hl
    clear hl hev
    replace HTY := Lib.hid (HTY.out.frm hfr HKX.out)
    replace HP := Lib.hid (HP.out.frm hfr HKF.out)
    have hKK := (And.intro (hfr.cell HKX.out hHeld.1) (And.intro (hfr.cell HKX.out hHeld.2.1) (And.intro (hfr.cell HKX.out hHeld.2.2.1) (And.intro (hfr.cell HKX.out hHeld.2.2.2.1) (And.intro (hfr.cell HKX.out hHeld.2.2.2.2.1) (And.intro (hfr.cell HKX.out hHeld.2.2.2.2.2.1) (And.intro (hfr.cell HKX.out hHeld.2.2.2.2.2.2.1) (And.intro (hfr.cell HKP.out hHeld.2.2.2.2.2.2.2.1) (hfr.cell HKP.out hHeld.2.2.2.2.2.2.2.2)))))))))
    clear hfr
    refine hK.out _ _ (hKK) (fun hHeld2 => ?_)
    clear hK K hHeld
    rename _ => hHeld
    try simp only [Act.put, stB, stZ, stS]
    refine tk 21 (some 48) (v := ?_) rfl rfl ?_ ?_
    rotate_left
    · (intro w _; go_simp; (try with_reducible rfl))
    simp only [Act.put, stB, stZ, stS]
    refine tk 22 (some 49) (v := ?_) rfl rfl ?_ ?_
    rotate_left
    · (intro w _; go_simp; (try with_reducible rfl))
    simp only [Act.put, stB, stZ, stS]
    refine tk 23 (some 50) (v := ?_) rfl rfl ?_ ?_
    rotate_left
    · (intro w _; go_simp; (try with_reducible rfl))
    simp only [Act.put, stB, stZ, stS]
    refine tk 24 (some 51) (v := ?_) rfl rfl ?_ ?_
    rotate_left
    · (intro w _; go_simp; (try with_reducible rfl))
    simp only [Act.put, stB, stZ, stS]
    refine tk 26 (some 53) (v := ?_) rfl rfl ?_ ?_
    rotate_left
    · (intro w hSw; (try dsimp only at hSw); ((try obtain ⟨hSw0, hSw1, hSw2, hSw3, hSw4, hSw5, hSw6, hSw7, hSw8⟩ := hSw); go_simp); (try with_reducible rfl))
    simp only [Act.put, stB, stZ, stS]
    refine wpAnyH_ready (rs := [25]) (by kernel_rfl) (by simp) ?_
    refine (AllReadyH.cons (o := { dst := some 52, op := Op.call { callee := Callee.value (Operand.func 30), args := #[Operand.tmp 51], argTypes := #[24] }, type := 73, pos := "law.go:287", after := #[{ on := 24, ground := Ground.data }, { on := 23, ground := Ground.chain }, { on := 23, ground := Ground.guard }], guard := some (23, false) }) rfl (fun K hK => ?_) AllReadyH.nil)
    go_simp
    refine HL.out.prob HWFB.out ?_
    intro F2 ca2 ra2 cc2 rc2 cs2 rows2 V6 hp2 hF2 hl hb
    have HP2 := Lib.hid hp2
    replace HL := Lib.hid hl
    clear hl hp2 hF2
    have hfr := Frm.of_below (w0 := w) (K := KK) hb
    replace HTY := Lib.hid (HTY.out.frm hfr HKX.out)
    replace HP := Lib.hid (HP.out.frm hfr HKF.out)
    have hKK := (And.intro (hfr.cell HKX.out hHeld.1) (And.intro (hfr.cell HKX.out hHeld.2.1) (And.intro (hfr.cell HKX.out hHeld.2.2.1) (And.intro (hfr.cell HKX.out hHeld.2.2.2.1) (And.intro (hfr.cell HKX.out hHeld.2.2.2.2.1) (And.intro (hfr.cell HKX.out hHeld.2.2.2.2.2.1) (And.intro (hfr.cell HKX.out hHeld.2.2.2.2.2.2.1) (And.intro (hfr.cell HKP.out hHeld.2.2.2.2.2.2.2.1) (hfr.cell HKP.out hHeld.2.2.2.2.2.2.2.2)))))))))
    clear hfr
    clear hb
    refine hK.out _ _ (hKK) (fun hHeld2 => ?_)
    clear hK K hHeld
    rename _ => hHeld
    try simp only [Act.put, stB, stZ, stS]
    refine wpAnyH_ready (rs := [27]) (by kernel_rfl) (by simp) ?_
    refine (AllReadyH.cons (o := { dst := some 54, op := Op.call { callee := Callee.value (Operand.func 32), args := #[Operand.tmp 52, Operand.tmp 53], argTypes := #[73, 73] }, type := 4, pos := "law.go:287", after := #[{ on := 25, ground := Ground.data }, { on := 26, ground := Ground.data }, { on := 25, ground := Ground.chain }, { on := 23, ground := Ground.guard }], guard := some (23, false) }) rfl (fun K hK => ?_) AllReadyH.nil)
    go_simp
    refine (same_any _ _ _ ca2 ra2 ca ra cc2 rc2 cc rc cs2 cs rows2 rows _ _ HP2.out HP.out).mono ?_
    rintro e V7 ⟨rfl, hb⟩
    replace HL := Lib.hid (HL.out.below hb)
    have hfr := Frm.of_below (w0 := w) (K := KK) hb
    replace HTY := Lib.hid (HTY.out.frm hfr HKX.out)
    replace HP := Lib.hid (HP.out.frm hfr HKF.out)
    have hKK := (And.intro (hfr.cell HKX.out hHeld.1) (And.intro (hfr.cell HKX.out hHeld.2.1) (And.intro (hfr.cell HKX.out hHeld.2.2.1) (And.intro (hfr.cell HKX.out hHeld.2.2.2.1) (And.intro (hfr.cell HKX.out hHeld.2.2.2.2.1) (And.intro (hfr.cell HKX.out hHeld.2.2.2.2.2.1) (And.intro (hfr.cell HKX.out hHeld.2.2.2.2.2.2.1) (And.intro (hfr.cell HKP.out hHeld.2.2.2.2.2.2.2.1) (hfr.cell HKP.out hHeld.2.2.2.2.2.2.2.2)))))))))
    clear hfr
    clear hb
    refine hK.out _ _ (hKK) (fun hHeld2 => ?_)
    clear hK K hHeld
    rename _ => hHeld
    try simp only [Act.put, stB, stZ, stS]
    refine tk 28 (some 55) (v := ?_) rfl rfl ?_ ?_
    rotate_left
    · (intro w _; go_simp; (try with_reducible rfl))
    simp only [Act.put, stB, stZ, stS]
    refine tk 29 (some 56) (v := ?_) rfl rfl ?_ ?_
    rotate_left
    · (intro w _; go_simp; (try with_reducible rfl))
    simp only [Act.put, stB, stZ, stS]
    refine wpAnyH_done (by kernel_rfl) ?_ _
    (try simp only [Exit.inBlock, Exit.then])
    obtain ⟨y0, y1, y2, y3, y4, y5, y6, p0, p1⟩ := hHeld
    have xf := XT.free HTY.out
    clear HACT HCL HLAST hpos hi0 hi1 hwM hM20 HWFA
    have hpk := HL.out.poke HKX.out (XT.noW HTY.out) HXB.out 0 (.int .i64 2)
    replace HL := Lib.hid hpk.1
    replace HP := Lib.hid (HP.out.frm hpk.2 HFX.out)
    replace p0 := hpk.2.cell HPX.out p0
    replace p1 := hpk.2.cell HPX.out p1
    have hfz := xf
    have y0 := y0
    go_upto_region 13 with fail
    clear xf hfz
    have z0 := World.cell?_setCell_same _ _ (.int .i64 2) y0
    have z1 := (World.cell?_setCell_other _ ⟨xb, 0, none⟩ ⟨xb, 1, none⟩ (.int .i64 2) (by simp)).trans y1
    have z2 := (World.cell?_setCell_other _ ⟨xb, 0, none⟩ ⟨xb, 2, none⟩ (.int .i64 2) (by simp)).trans y2
    have z3 := (World.cell?_setCell_other _ ⟨xb, 0, none⟩ ⟨xb, 3, none⟩ (.int .i64 2) (by simp)).trans y3
    have z4 := (World.cell?_setCell_other _ ⟨xb, 0, none⟩ ⟨xb, 4, none⟩ (.int .i64 2) (by simp)).trans y4
    have z5 := (World.cell?_setCell_other _ ⟨xb, 0, none⟩ ⟨xb, 5, none⟩ (.int .i64 2) (by simp)).trans y5
    have z6 := (World.cell?_setCell_other _ ⟨xb, 0, none⟩ ⟨xb, 6, none⟩ (.int .i64 2) (by simp)).trans y6
    clear y0 y1 y2 y3 y4 y5 y6 hpk
    obtain ⟨⟨⟨n2, f2⟩, T1⟩, hT1⟩ : ∃ r, ({ S with lr := S.lr + 1 } : AS).addCol (fracQ x.v) (x.es.map eQ) = r := ⟨_, rfl⟩
    have hcs := addCol_cases ({ S with lr := S.lr + 1 } : AS) (fracQ x.v) (x.es.map eQ)
    rw [hT1] at hcs
    have HACT2 := Lib.hid ((act2 ({ S with lr := S.lr + 1 } : AS) x).trans hT1)
    have HCS := Lib.hid hcs
    clear hT1 hcs
    go_wp2_with fail
    refine HL.out.setR (s1 := T1) (fl := f2) (fun G hs => by
      have h := refused_any w _ sb G ({ S with lr := S.lr + 1 } : AS) ⟨2, x.row, x.col, x.kind, x.v, x.es⟩ ea ec hs HL.out.bl HWFB.out HX2.out HE.out hel (by have := HLR.out.1; show S.lr + 1 ≤ _; omega) (by have := HLR.out.2; show S.lc ≤ _; omega)
      rw [HACT2.out] at h
      exact h) ?_
    intro ev wt hev hl hfr
    replace HL := Lib.hid hl
    replace HP := Lib.hid (HP.out.frm hfr HKF.out)
    replace p0 := hfr.cell HKP.out p0
    replace p1 := hfr.cell HKP.out p1
    have HEV := Lib.hid hev
    clear hl hfr hev z0 z1 z2 z3 z4 z5 z6
    by_cases hf2 : f2 = noF
    · subst hf2
      obtain ⟨vs, hvl, hT1⟩ : ∃ vs : List Rat, vs.length = ({ S with lr := S.lr + 1 } : AS).rows.length ∧ T1 = ({ ({ S with lr := S.lr + 1 } : AS) with rows := addQ ({ S with lr := S.lr + 1 } : AS).rows vs, cols := ({ S with lr := S.lr + 1 } : AS).cols ++ [⟨({ S with lr := S.lr + 1 } : AS).lc + 1, fracQ x.v⟩], lc := ({ S with lr := S.lr + 1 } : AS).lc + 1 } : AS) := by
        rcases HCS.out with ⟨_, vs, h1, h2⟩ | ⟨h, _⟩
        · exact ⟨vs, h1, h2⟩
        · exact absurd rfl h
      have hwf2 : WF ({ ({ S with lr := S.lr + 1 } : AS) with rows := addQ ({ S with lr := S.lr + 1 } : AS).rows vs, cols := ({ S with lr := S.lr + 1 } : AS).cols ++ [⟨({ S with lr := S.lr + 1 } : AS).lc + 1, fracQ x.v⟩], lc := ({ S with lr := S.lr + 1 } : AS).lc + 1 } : AS) := by
        have h := HWFB.out.act ⟨2, x.row, x.col, x.kind, x.v, x.es⟩
        rw [HACT2.out] at h
        rw [← hT1]
        exact h
      subst hT1
      obtain rfl : ev = .nilIface := HEV.out.nil
      have HWF2 := Lib.hid hwf2
      have HWF3 := Lib.hid (show WF ({ ({ S with lr := S.lr + 1 } : AS) with lc := ({ S with lr := S.lr + 1 } : AS).lc + 1 } : AS) from WF.lc1 HWFB.out)
      obtain ⟨M, hM⟩ : ∃ M, ({ S with lr := S.lr + 1 } : AS).cols.length = M := ⟨_, rfl⟩
      have HCL := Lib.hid (show (({ ({ S with lr := S.lr + 1 } : AS) with rows := addQ ({ S with lr := S.lr + 1 } : AS).rows vs, cols := ({ S with lr := S.lr + 1 } : AS).cols ++ [⟨({ S with lr := S.lr + 1 } : AS).lc + 1, fracQ x.v⟩], lc := ({ S with lr := S.lr + 1 } : AS).lc + 1 } : AS)).cids.length = M + 1 by rw [← hM]; simp [AS.cids])
      have HLAST := Lib.hid (show ∀ h, (({ ({ S with lr := S.lr + 1 } : AS) with rows := addQ ({ S with lr := S.lr + 1 } : AS).rows vs, cols := ({ S with lr := S.lr + 1 } : AS).cols ++ [⟨({ S with lr := S.lr + 1 } : AS).lc + 1, fracQ x.v⟩], lc := ({ S with lr := S.lr + 1 } : AS).lc + 1 } : AS)).cids[M]'h = ({ S with lr := S.lr + 1 } : AS).lc + 1 from fun h => by subst hM; simp [AS.cids])
      have hpos : (0 : Int) < (M : Int) + 1 := by omega
      have hi0 : (0 : Int) ≤ (M : Int) := by omega
      have hM24 : M ≤ 24 := by rw [← hM]; exact (HWFB.out).cl
      have hwM : IntKind.i64.wrap (M : Int) = (M : Int) := by rw [IntKind.wrap_i64]; omega
      have hi1 : (M : Int) < (M : Int) + 1 := by omega
      clear hM
      have HVL := Lib.hid hvl
      clear HCS HEV hwf2 hvl
      go_upto_region 15 with fail
      replace HL := Lib.hid (HL.out.below (Below.drawn wt 1))
      replace HP := Lib.hid (HP.out.below (Below.drawn wt 1))
      refine wp_region_held_drew (S := fun W => W.cell? ⟨pb, 0, none⟩ = some (.slice ca cs.length cc) ∧ W.cell? ⟨pb, 1, none⟩ = some (.slice ra rows.length rc)) (by kernel_rfl) (⟨p0, p1⟩) (fun hHeld => ?_)
      refine tk 0 (some 66) (v := ?_) rfl rfl ?_ ?_
      rotate_left
      · (intro w _; go_simp; (try with_reducible rfl))
      simp only [Act.put, stB, stZ, stS]
      refine wpAnyH_ready (rs := [1]) (by kernel_rfl) (by simp) ?_
      refine (AllReadyH.cons (o := { dst := some 67, op := Op.call { callee := Callee.value (Operand.func 14), args := #[Operand.tmp 66], argTypes := #[24] }, type := 27, pos := "law.go:295", after := #[{ on := 0, ground := Ground.data }], guard := none }) rfl (fun K hK => ?_) AllReadyH.nil)
      go_simp
      refine HL.out.cols HWF2.out ?_
      intro ra0 rc0 V1 hm hl hb
      rw [HCL.out] at hm ⊢
      replace HL := Lib.hid hl
      skip
      clear hl hm
      have hfr := Frm.of_below (w0 := w) (K := KK) hb
      replace HP := Lib.hid (HP.out.frm hfr HKF.out)
      have hKK := (And.intro (hfr.cell HKP.out hHeld.1) (hfr.cell HKP.out hHeld.2))
      clear hfr
      clear hb
      refine hK.out _ _ (hKK) (fun hHeld2 => ?_)
      clear hK K hHeld
      rename _ => hHeld
      try simp only [Act.put, stB, stZ, stS]
      refine tk 2 (some 68) (v := ?_) rfl rfl ?_ ?_
      rotate_left
      · (intro w _; go_simp; (try with_reducible rfl))
      simp only [Act.put, stB, stZ, stS]
      refine tk 3 (some 69) (v := ?_) rfl rfl ?_ ?_
      rotate_left
      · (intro w _; go_simp; (try with_reducible rfl))
      simp only [Act.put, stB, stZ, stS]
      refine tk 4 (some 70) (v := ?_) rfl rfl ?_ ?_
      rotate_left
      · (intro w _; go_simp; (try with_reducible rfl))
      simp only [Act.put, stB, stZ, stS]
      refine tk 5 (some 71) (v := ?_) rfl rfl ?_ ?_
      rotate_left
      · (intro w _; go_simp; (try with_reducible rfl))
      simp only [Act.put, stB, stZ, stS]
      refine tk 6 (some 72) (v := ?_) rfl rfl ?_ ?_
      rotate_left
      · (intro w _; go_simp; (try with_reducible rfl))
      simp only [Act.put, stB, stZ, stS]
      refine tk 8 (some 74) (v := ?_) rfl rfl ?_ ?_
      rotate_left
      · (intro w _; go_simp; (try with_reducible rfl))
      simp only [Act.put, stB, stZ, stS]
      refine wpAnyH_ready (rs := [7]) (by kernel_rfl) (by simp) ?_
      refine (AllReadyH.cons (o := { dst := some 73, op := Op.call { callee := Callee.value (Operand.func 14), args := #[Operand.tmp 72], argTypes := #[24] }, type := 27, pos := "law.go:295", after := #[{ on := 6, ground := Ground.data }, { on := 4, ground := Ground.chain }, { on := 4, ground := Ground.guard }], guard := some (4, true) }) rfl (fun K hK => ?_) AllReadyH.nil)
      go_simp
      refine HL.out.cols HWF2.out ?_
      intro ra1 rc1 V2 hm hl hb
      rw [HCL.out] at hm ⊢
      replace HL := Lib.hid hl
      have hrl := (Sl.ofMid hm).lenI
      obtain ⟨eb, eo, ee, hel9, he9⟩ := int_get (Sl.ofMid hm) M (by rw [HCL.out]; omega) (by omega)
      subst ee
      rw [HLAST.out] at he9
      clear hl hm
      have hfr := Frm.of_below (w0 := w) (K := KK) hb
      replace HP := Lib.hid (HP.out.frm hfr HKF.out)
      have hKK := (And.intro (hfr.cell HKP.out hHeld.1) (hfr.cell HKP.out hHeld.2))
      clear hfr
      clear hb
      refine hK.out _ _ (hKK) (fun hHeld2 => ?_)
      clear hK K hHeld
      rename _ => hHeld
      try simp only [Act.put, stB, stZ, stS]
      refine wpAnyH_ready (rs := [9]) (by kernel_rfl) (by simp) ?_
      refine (AllReadyH.cons (o := { dst := some 75, op := Op.call { callee := Callee.value (Operand.func 14), args := #[Operand.tmp 74], argTypes := #[24] }, type := 27, pos := "law.go:295", after := #[{ on := 8, ground := Ground.data }, { on := 7, ground := Ground.chain }, { on := 4, ground := Ground.guard }], guard := some (4, true) }) rfl (fun K hK => ?_) AllReadyH.nil)
      go_simp
      refine HL.out.cols HWF2.out ?_
      intro ra2 rc2 V3 hm hl hb
      rw [HCL.out] at hm ⊢
      replace HL := Lib.hid hl
      replace he9 := (hb.cell (p := ⟨eb, eo + M, none⟩) hel9).trans he9
      replace hel9 := Nat.lt_of_lt_of_le hel9 hb.size
      skip
      clear hl hm
      have hfr := Frm.of_below (w0 := w) (K := KK) hb
      replace HP := Lib.hid (HP.out.frm hfr HKF.out)
      have hKK := (And.intro (hfr.cell HKP.out hHeld.1) (hfr.cell HKP.out hHeld.2))
      clear hfr
      clear hb
      refine hK.out _ _ (hKK) (fun hHeld2 => ?_)
      clear hK K hHeld
      rename _ => hHeld
      try simp only [Act.put, stB, stZ, stS]
      refine tk 10 (some 76) (v := ?_) rfl rfl ?_ ?_
      rotate_left
      · (intro w _; go_simp; (try with_reducible rfl))
      simp only [Act.put, stB, stZ, stS]
      refine tk 11 (some 77) (v := ?_) rfl rfl ?_ ?_
      rotate_left
      · (intro w _; go_simp; (try with_reducible rfl))
      simp only [Act.put, stB, stZ, stS]
      refine tk 12 (some 78) (v := ?_) rfl rfl ?_ ?_
      rotate_left
      · (intro w hSw; (try dsimp only at hSw); ((try obtain ⟨hSw0, hSw1⟩ := hSw); go_simp); (try with_reducible rfl))
      simp only [Act.put, stB, stZ, stS]
      refine wpAnyH_ready (rs := [13]) (by kernel_rfl) (by simp) ?_
      refine (AllReadyH.cons (o := { dst := some 79, op := Op.load 3 (Operand.tmp 78), type := 3, pos := "law.go:295", after := #[{ on := 12, ground := Ground.data }, { on := 4, ground := Ground.guard }], guard := some (4, true) }) rfl (fun K hK => ?_) AllReadyH.nil)
      go_simp
      have hKK := hHeld
      clear he9 hel9
      refine hK.out _ _ (hKK) (fun hHeld2 => ?_)
      clear hK K hHeld
      rename _ => hHeld
      try simp only [Act.put, stB, stZ, stS]
      refine wpAnyH_ready (rs := [14]) (by kernel_rfl) (by simp) ?_
      refine (AllReadyH.cons (o := { dst := some 80, op := Op.call { callee := Callee.value (Operand.func 20), args := #[Operand.tmp 71, Operand.tmp 79], argTypes := #[24, 3] }, type := 42, pos := "law.go:295", after := #[{ on := 5, ground := Ground.data }, { on := 13, ground := Ground.data }, { on := 9, ground := Ground.chain }, { on := 4, ground := Ground.guard }], guard := some (4, true) }) rfl (fun K hK => ?_) AllReadyH.nil)
      go_simp
      refine HL.out.setR (s1 := ({ ({ S with lr := S.lr + 1 } : AS) with lc := ({ S with lr := S.lr + 1 } : AS).lc + 1 } : AS)) (fl := noF) (fun G hs => by
        have h := as_dropCol hs HWF2.out (({ S with lr := S.lr + 1 } : AS).lc + 1)
        rw [dropCol_last HWFB.out _ vs HVL.out] at h
        exact h) ?_
      intro ev V4 hev hl hfr
      obtain rfl : ev = .nilIface := hev.nil
      replace HL := Lib.hid hl
      clear hl hev
      replace HP := Lib.hid (HP.out.frm hfr HKF.out)
      have hKK := (And.intro (hfr.cell HKP.out hHeld.1) (hfr.cell HKP.out hHeld.2))
      clear hfr
      refine hK.out _ _ (hKK) (fun hHeld2 => ?_)
      clear hK K hHeld
      rename _ => hHeld
      try simp only [Act.put, stB, stZ, stS]
      refine tk 15 (some 81) (v := ?_) rfl rfl ?_ ?_
      rotate_left
      · (intro w _; go_simp; (try with_reducible rfl))
      simp only [Act.put, stB, stZ, stS]
      refine tk 16 (some 82) (v := ?_) rfl rfl ?_ ?_
      rotate_left
      · (intro w _; go_simp; (try with_reducible rfl))
      simp only [Act.put, stB, stZ, stS]
      refine tk 17 (some 83) (v := ?_) rfl rfl ?_ ?_
      rotate_left
      · (intro w _; go_simp; (try with_reducible rfl))
      simp only [Act.put, stB, stZ, stS]
      refine tk 18 (some 84) (v := ?_) rfl rfl ?_ ?_
      rotate_left
      · (intro w _; go_simp; (try with_reducible rfl))
      simp only [Act.put, stB, stZ, stS]
      refine tk 20 (some 86) (v := ?_) rfl rfl ?_ ?_
      rotate_left
      · (intro w hSw; (try dsimp only at hSw); ((try obtain ⟨hSw0, hSw1⟩ := hSw); go_simp); (try with_reducible rfl))
      simp only [Act.put, stB, stZ, stS]
      refine wpAnyH_ready (rs := [19]) (by kernel_rfl) (by simp) ?_
      refine (AllReadyH.cons (o := { dst := some 85, op := Op.call { callee := Callee.value (Operand.func 30), args := #[Operand.tmp 84], argTypes := #[24] }, type := 73, pos := "law.go:295", after := #[{ on := 18, ground := Ground.data }, { on := 17, ground := Ground.chain }, { on := 17, ground := Ground.guard }], guard := some (17, true) }) rfl (fun K hK => ?_) AllReadyH.nil)
      go_simp
      refine HL.out.prob HWF3.out ?_
      intro F2 ca2 ra2 cc2 rc2 cs2 rows2 V5 hp2 hF2 hl hb
      have HP2 := Lib.hid hp2
      replace HL := Lib.hid hl
      clear hl hp2 hF2
      have hfr := Frm.of_below (w0 := w) (K := KK) hb
      replace HP := Lib.hid (HP.out.frm hfr HKF.out)
      have hKK := (And.intro (hfr.cell HKP.out hHeld.1) (hfr.cell HKP.out hHeld.2))
      clear hfr
      clear hb
      refine hK.out _ _ (hKK) (fun hHeld2 => ?_)
      clear hK K hHeld
      rename _ => hHeld
      try simp only [Act.put, stB, stZ, stS]
      refine wpAnyH_ready (rs := [21]) (by kernel_rfl) (by simp) ?_
      refine (AllReadyH.cons (o := { dst := some 87, op := Op.call { callee := Callee.value (Operand.func 32), args := #[Operand.tmp 85, Operand.tmp 86], argTypes := #[73, 73] }, type := 4, pos := "law.go:295", after := #[{ on := 19, ground := Ground.data }, { on := 20, ground := Ground.data }, { on := 19, ground := Ground.chain }, { on := 17, ground := Ground.guard }], guard := some (17, true) }) rfl (fun K hK => ?_) AllReadyH.nil)
      go_simp
      refine (same_any _ _ _ ca2 ra2 ca ra cc2 rc2 cc rc cs2 cs rows2 rows _ _ HP2.out HP.out).mono ?_
      rintro e V6 ⟨rfl, hb⟩
      replace HL := Lib.hid (HL.out.below hb)
      have hfr := Frm.of_below (w0 := w) (K := KK) hb
      replace HP := Lib.hid (HP.out.frm hfr HKF.out)
      have hKK := (And.intro (hfr.cell HKP.out hHeld.1) (hfr.cell HKP.out hHeld.2))
      clear hfr
      clear hb
      refine hK.out _ _ (hKK) (fun hHeld2 => ?_)
      clear hK K hHeld
      rename _ => hHeld
      try simp only [Act.put, stB, stZ, stS]
      refine tk 22 (some 88) (v := ?_) rfl rfl ?_ ?_
      rotate_left
      · (intro w _; go_simp; (try with_reducible rfl))
      simp only [Act.put, stB, stZ, stS]
      refine tk 23 (some 4) (v := ?_) rfl rfl ?_ ?_
      rotate_left
      · (intro w _; go_simp; (try with_reducible rfl))
      simp only [Act.put, stB, stZ, stS]
      refine wpAnyH_done (by kernel_rfl) ?_ _
      (try simp only [Exit.inBlock, Exit.then])
      clear hHeld
      go_wp2_with fail
      go_ret
      exact ⟨rfl, HL.out.bl⟩
    · obtain ⟨T9, u9, rfl⟩ := errv_iface HEV.out hf2
      obtain rfl : T1 = ({ S with lr := S.lr + 1 } : AS) := by
        rcases HCS.out with ⟨h, _⟩ | ⟨_, h⟩
        · exact absurd h hf2
        · exact h
      clear HCS HEV
      go_upto_region 14 with fail
      replace HL := Lib.hid (HL.out.below (Below.drawn wt 1))
      replace HP := Lib.hid (HP.out.below (Below.drawn wt 1))
      refine wp_region_held_drew (S := fun W => W.cell? ⟨pb, 0, none⟩ = some (.slice ca cs.length cc) ∧ W.cell? ⟨pb, 1, none⟩ = some (.slice ra rows.length rc)) (by kernel_rfl) (⟨p0, p1⟩) (fun hHeld => ?_)
      refine tk 0 (some 62) (v := ?_) rfl rfl ?_ ?_
      rotate_left
      · (intro w _; go_simp; (try with_reducible rfl))
      simp only [Act.put, stB, stZ, stS]
      refine tk 2 (some 64) (v := ?_) rfl rfl ?_ ?_
      rotate_left
      · (intro w hSw; (try dsimp only at hSw); ((try obtain ⟨hSw0, hSw1⟩ := hSw); go_simp); (try with_reducible rfl))
      simp only [Act.put, stB, stZ, stS]
      refine wpAnyH_ready (rs := [1]) (by kernel_rfl) (by simp) ?_
      refine (AllReadyH.cons (o := { dst := some 63, op := Op.call { callee := Callee.value (Operand.func 30), args := #[Operand.tmp 62], argTypes := #[24] }, type := 73, pos := "law.go:293", after := #[{ on := 0, ground := Ground.data }], guard := none }) rfl (fun K hK => ?_) AllReadyH.nil)
      go_simp
      refine HL.out.prob HWFB.out ?_
      intro F2 ca2 ra2 cc2 rc2 cs2 rows2 V1 hp2 hF2 hl hb
      have HP2 := Lib.hid hp2
      replace HL := Lib.hid hl
      clear hl hp2 hF2
      have hfr := Frm.of_below (w0 := w) (K := KK) hb
      replace HP := Lib.hid (HP.out.frm hfr HKF.out)
      have hKK := (And.intro (hfr.cell HKP.out hHeld.1) (hfr.cell HKP.out hHeld.2))
      clear hfr
      clear hb
      refine hK.out _ _ (hKK) (fun hHeld2 => ?_)
      clear hK K hHeld
      rename _ => hHeld
      try simp only [Act.put, stB, stZ, stS]
      refine wpAnyH_ready (rs := [3]) (by kernel_rfl) (by simp) ?_
      refine (AllReadyH.cons (o := { dst := some 65, op := Op.call { callee := Callee.value (Operand.func 32), args := #[Operand.tmp 63, Operand.tmp 64], argTypes := #[73, 73] }, type := 4, pos := "law.go:293", after := #[{ on := 1, ground := Ground.data }, { on := 2, ground := Ground.data }, { on := 1, ground := Ground.chain }], guard := none }) rfl (fun K hK => ?_) AllReadyH.nil)
      go_simp
      refine (same_any _ _ _ ca2 ra2 ca ra cc2 rc2 cc rc cs2 cs rows2 rows _ _ HP2.out HP.out).mono ?_
      rintro e V2 ⟨rfl, hb⟩
      replace HL := Lib.hid (HL.out.below hb)
      have hfr := Frm.of_below (w0 := w) (K := KK) hb
      replace HP := Lib.hid (HP.out.frm hfr HKF.out)
      have hKK := (And.intro (hfr.cell HKP.out hHeld.1) (hfr.cell HKP.out hHeld.2))
      clear hfr
      clear hb
      refine hK.out _ _ (hKK) (fun hHeld2 => ?_)
      clear hK K hHeld
      rename _ => hHeld
      try simp only [Act.put, stB, stZ, stS]
      refine tk 4 (some 4) (v := ?_) rfl rfl ?_ ?_
      rotate_left
      · (intro w _; go_simp; (try with_reducible rfl))
      simp only [Act.put, stB, stZ, stS]
      refine wpAnyH_done (by kernel_rfl) ?_ _
      (try simp only [Exit.inBlock, Exit.then])
      clear hHeld
      go_wp2_with fail
      go_ret
      exact ⟨rfl, HL.out.bl⟩
  · obtain ⟨T9, u9, rfl⟩ := errv_iface HEV.out hf1
    have xf := XT.free HTY.out
    clear HCS HEV HACT
    have hpk := HL.out.poke HKX.out (XT.noW HTY.out) HXB.out 0 (.int .i64 2)
    replace HL := Lib.hid hpk.1
    replace HP := Lib.hid (HP.out.frm hpk.2 HFX.out)
    replace p0 := hpk.2.cell HPX.out p0
    replace p1 := hpk.2.cell HPX.out p1
    have hfz := xf
    have y0 := y0
    go_upto_region 13 with fail
    clear xf hfz
    have z0 := World.cell?_setCell_same _ _ (.int .i64 2) y0
    have z1 := (World.cell?_setCell_other _ ⟨xb, 0, none⟩ ⟨xb, 1, none⟩ (.int .i64 2) (by simp)).trans y1
    have z2 := (World.cell?_setCell_other _ ⟨xb, 0, none⟩ ⟨xb, 2, none⟩ (.int .i64 2) (by simp)).trans y2
    have z3 := (World.cell?_setCell_other _ ⟨xb, 0, none⟩ ⟨xb, 3, none⟩ (.int .i64 2) (by simp)).trans y3
    have z4 := (World.cell?_setCell_other _ ⟨xb, 0, none⟩ ⟨xb, 4, none⟩ (.int .i64 2) (by simp)).trans y4
    have z5 := (World.cell?_setCell_other _ ⟨xb, 0, none⟩ ⟨xb, 5, none⟩ (.int .i64 2) (by simp)).trans y5
    have z6 := (World.cell?_setCell_other _ ⟨xb, 0, none⟩ ⟨xb, 6, none⟩ (.int .i64 2) (by simp)).trans y6
    clear y0 y1 y2 y3 y4 y5 y6 hpk
    obtain ⟨⟨⟨n2, f2⟩, T1⟩, hT1⟩ : ∃ r, S.addCol (fracQ x.v) (x.es.map eQ) = r := ⟨_, rfl⟩
    have hcs := addCol_cases S (fracQ x.v) (x.es.map eQ)
    rw [hT1] at hcs
    have HACT2 := Lib.hid ((act2 S x).trans hT1)
    have HCS := Lib.hid hcs
    clear hT1 hcs
    go_wp2_with fail
    refine HL.out.setR (s1 := T1) (fl := f2) (fun G hs => by
      have h := refused_any w _ sb G S ⟨2, x.row, x.col, x.kind, x.v, x.es⟩ ea ec hs HL.out.bl HWF.out HX2.out HE.out hel (by have := HLR.out.1; omega) (by have := HLR.out.2; omega)
      rw [HACT2.out] at h
      exact h) ?_
    intro ev wt hev hl hfr
    replace HL := Lib.hid hl
    replace HP := Lib.hid (HP.out.frm hfr HKF.out)
    replace p0 := hfr.cell HKP.out p0
    replace p1 := hfr.cell HKP.out p1
    have HEV := Lib.hid hev
    clear hl hfr hev z0 z1 z2 z3 z4 z5 z6
    by_cases hf2 : f2 = noF
    · subst hf2
      obtain ⟨vs, hvl, hT1⟩ : ∃ vs : List Rat, vs.length = S.rows.length ∧ T1 = ({ S with rows := addQ S.rows vs, cols := S.cols ++ [⟨S.lc + 1, fracQ x.v⟩], lc := S.lc + 1 } : AS) := by
        rcases HCS.out with ⟨_, vs, h1, h2⟩ | ⟨h, _⟩
        · exact ⟨vs, h1, h2⟩
        · exact absurd rfl h
      have hwf2 : WF ({ S with rows := addQ S.rows vs, cols := S.cols ++ [⟨S.lc + 1, fracQ x.v⟩], lc := S.lc + 1 } : AS) := by
        have h := HWF.out.act ⟨2, x.row, x.col, x.kind, x.v, x.es⟩
        rw [HACT2.out] at h
        rw [← hT1]
        exact h
      subst hT1
      obtain rfl : ev = .nilIface := HEV.out.nil
      have HWF2 := Lib.hid hwf2
      have HWF3 := Lib.hid (show WF ({ S with lc := S.lc + 1 } : AS) from WF.lc1 HWF.out)
      obtain ⟨M, hM⟩ : ∃ M, S.cols.length = M := ⟨_, rfl⟩
      have HCL := Lib.hid (show (({ S with rows := addQ S.rows vs, cols := S.cols ++ [⟨S.lc + 1, fracQ x.v⟩], lc := S.lc + 1 } : AS)).cids.length = M + 1 by rw [← hM]; simp [AS.cids])
      have HLAST := Lib.hid (show ∀ h, (({ S with rows := addQ S.rows vs, cols := S.cols ++ [⟨S.lc + 1, fracQ x.v⟩], lc := S.lc + 1 } : AS)).cids[M]'h = S.lc + 1 from fun h => by subst hM; simp [AS.cids])
      have hpos : (0 : Int) < (M : Int) + 1 := by omega
      have hi0 : (0 : Int) ≤ (M : Int) := by omega
      have hM24 : M ≤ 24 := by rw [← hM]; exact (HWF.out).cl
      have hwM : IntKind.i64.wrap (M : Int) = (M : Int) := by rw [IntKind.wrap_i64]; omega
      have hi1 : (M : Int) < (M : Int) + 1 := by omega
      clear hM
      have HVL := Lib.hid hvl
      clear HCS HEV hwf2 hvl
      go_upto_region 15 with fail
      replace HL := Lib.hid (HL.out.below (Below.drawn wt 1))
      replace HP := Lib.hid (HP.out.below (Below.drawn wt 1))
      refine wp_region_held_drew (S := fun W => W.cell? ⟨pb, 0, none⟩ = some (.slice ca cs.length cc) ∧ W.cell? ⟨pb, 1, none⟩ = some (.slice ra rows.length rc)) (by kernel_rfl) (⟨p0, p1⟩) (fun hHeld => ?_)
      refine tk 0 (some 66) (v := ?_) rfl rfl ?_ ?_
      rotate_left
      · (intro w _; go_simp; (try with_reducible rfl))
      simp only [Act.put, stB, stZ, stS]
      refine wpAnyH_ready (rs := [1]) (by kernel_rfl) (by simp) ?_
      refine (AllReadyH.cons (o := { dst := some 67, op := Op.call { callee := Callee.value (Operand.func 14), args := #[Operand.tmp 66], argTypes := #[24] }, type := 27, pos := "law.go:295", after := #[{ on := 0, ground := Ground.data }], guard := none }) rfl (fun K hK => ?_) AllReadyH.nil)
      go_simp
      refine HL.out.cols HWF2.out ?_
      intro ra0 rc0 V1 hm hl hb
      rw [HCL.out] at hm ⊢
      replace HL := Lib.hid hl
      skip
      clear hl hm
      have hfr := Frm.of_below (w0 := w) (K := KK) hb
      replace HP := Lib.hid (HP.out.frm hfr HKF.out)
      have hKK := (And.intro (hfr.cell HKP.out hHeld.1) (hfr.cell HKP.out hHeld.2))
      clear hfr
      clear hb
      refine hK.out _ _ (hKK) (fun hHeld2 => ?_)
      clear hK K hHeld
      rename _ => hHeld
      try simp only [Act.put, stB, stZ, stS]
      refine tk 2 (some 68) (v := ?_) rfl rfl ?_ ?_
      rotate_left
      · (intro w _; go_simp; (try with_reducible rfl))
      simp only [Act.put, stB, stZ, stS]
      refine tk 3 (some 69) (v := ?_) rfl rfl ?_ ?_
      rotate_left
      · (intro w _; go_simp; (try with_reducible rfl))
      simp only [Act.put, stB, stZ, stS]
      refine tk 4 (some 70) (v := ?_) rfl rfl ?_ ?_
      rotate_left
      · (intro w _; go_simp; (try with_reducible rfl))
      simp only [Act.put, stB, stZ, stS]
      refine tk 5 (some 71) (v := ?_) rfl rfl ?_ ?_
      rotate_left
      · (intro w _; go_simp; (try with_reducible rfl))
      simp only [Act.put, stB, stZ, stS]
      refine tk 6 (some 72) (v := ?_) rfl rfl ?_ ?_
      rotate_left
      · (intro w _; go_simp; (try with_reducible rfl))
      simp only [Act.put, stB, stZ, stS]
      refine tk 8 (some 74) (v := ?_) rfl rfl ?_ ?_
      rotate_left
      · (intro w _; go_simp; (try with_reducible rfl))
      simp only [Act.put, stB, stZ, stS]
      refine wpAnyH_ready (rs := [7]) (by kernel_rfl) (by simp) ?_
      refine (AllReadyH.cons (o := { dst := some 73, op := Op.call { callee := Callee.value (Operand.func 14), args := #[Operand.tmp 72], argTypes := #[24] }, type := 27, pos := "law.go:295", after := #[{ on := 6, ground := Ground.data }, { on := 4, ground := Ground.chain }, { on := 4, ground := Ground.guard }], guard := some (4, true) }) rfl (fun K hK => ?_) AllReadyH.nil)
      go_simp
      refine HL.out.cols HWF2.out ?_
      intro ra1 rc1 V2 hm hl hb
      rw [HCL.out] at hm ⊢
      replace HL := Lib.hid hl
      have hrl := (Sl.ofMid hm).lenI
      obtain ⟨eb, eo, ee, hel9, he9⟩ := int_get (Sl.ofMid hm) M (by rw [HCL.out]; omega) (by omega)
      subst ee
      rw [HLAST.out] at he9
      clear hl hm
      have hfr := Frm.of_below (w0 := w) (K := KK) hb
      replace HP := Lib.hid (HP.out.frm hfr HKF.out)
      have hKK := (And.intro (hfr.cell HKP.out hHeld.1) (hfr.cell HKP.out hHeld.2))
      clear hfr
      clear hb
      refine hK.out _ _ (hKK) (fun hHeld2 => ?_)
      clear hK K hHeld
      rename _ => hHeld
      try simp only [Act.put, stB, stZ, stS]
      refine wpAnyH_ready (rs := [9]) (by kernel_rfl) (by simp) ?_
      refine (AllReadyH.cons (o := { dst := some 75, op := Op.call { callee := Callee.value (Operand.func 14), args := #[Operand.tmp 74], argTypes := #[24] }, type := 27, pos := "law.go:295", after := #[{ on := 8, ground := Ground.data }, { on := 7, ground := Ground.chain }, { on := 4, ground := Ground.guard }], guard := some (4, true) }) rfl (fun K hK => ?_) AllReadyH.nil)
      go_simp
      refine HL.out.cols HWF2.out ?_
      intro ra2 rc2 V3 hm hl hb
      rw [HCL.out] at hm ⊢
      replace HL := Lib.hid hl
      replace he9 := (hb.cell (p := ⟨eb, eo + M, none⟩) hel9).trans he9
      replace hel9 := Nat.lt_of_lt_of_le hel9 hb.size
      skip
      clear hl hm
      have hfr := Frm.of_below (w0 := w) (K := KK) hb
      replace HP := Lib.hid (HP.out.frm hfr HKF.out)
      have hKK := (And.intro (hfr.cell HKP.out hHeld.1) (hfr.cell HKP.out hHeld.2))
      clear hfr
      clear hb
      refine hK.out _ _ (hKK) (fun hHeld2 => ?_)
      clear hK K hHeld
      rename _ => hHeld
      try simp only [Act.put, stB, stZ, stS]
      refine tk 10 (some 76) (v := ?_) rfl rfl ?_ ?_
      rotate_left
      · (intro w _; go_simp; (try with_reducible rfl))
      simp only [Act.put, stB, stZ, stS]
      refine tk 11 (some 77) (v := ?_) rfl rfl ?_ ?_
      rotate_left
      · (intro w _; go_simp; (try with_reducible rfl))
      simp only [Act.put, stB, stZ, stS]
      refine tk 12 (some 78) (v := ?_) rfl rfl ?_ ?_
      rotate_left
      · (intro w hSw; (try dsimp only at hSw); ((try obtain ⟨hSw0, hSw1⟩ := hSw); go_simp); (try with_reducible rfl))
      simp only [Act.put, stB, stZ, stS]
      refine wpAnyH_ready (rs := [13]) (by kernel_rfl) (by simp) ?_
      refine (AllReadyH.cons (o := { dst := some 79, op := Op.load 3 (Operand.tmp 78), type := 3, pos := "law.go:295", after := #[{ on := 12, ground := Ground.data }, { on := 4, ground := Ground.guard }], guard := some (4, true) }) rfl (fun K hK => ?_) AllReadyH.nil)
      go_simp
      have hKK := hHeld
      clear he9 hel9
      refine hK.out _ _ (hKK) (fun hHeld2 => ?_)
      clear hK K hHeld
      rename _ => hHeld
      try simp only [Act.put, stB, stZ, stS]
      refine wpAnyH_ready (rs := [14]) (by kernel_rfl) (by simp) ?_
      refine (AllReadyH.cons (o := { dst := some 80, op := Op.call { callee := Callee.value (Operand.func 20), args := #[Operand.tmp 71, Operand.tmp 79], argTypes := #[24, 3] }, type := 42, pos := "law.go:295", after := #[{ on := 5, ground := Ground.data }, { on := 13, ground := Ground.data }, { on := 9, ground := Ground.chain }, { on := 4, ground := Ground.guard }], guard := some (4, true) }) rfl (fun K hK => ?_) AllReadyH.nil)
      go_simp
      refine HL.out.setR (s1 := ({ S with lc := S.lc + 1 } : AS)) (fl := noF) (fun G hs => by
        have h := as_dropCol hs HWF2.out (S.lc + 1)
        rw [dropCol_last HWF.out _ vs HVL.out] at h
        exact h) ?_
      intro ev V4 hev hl hfr
      obtain rfl : ev = .nilIface := hev.nil
      replace HL := Lib.hid hl
      clear hl hev
      replace HP := Lib.hid (HP.out.frm hfr HKF.out)
      have hKK := (And.intro (hfr.cell HKP.out hHeld.1) (hfr.cell HKP.out hHeld.2))
      clear hfr
      refine hK.out _ _ (hKK) (fun hHeld2 => ?_)
      clear hK K hHeld
      rename _ => hHeld
      try simp only [Act.put, stB, stZ, stS]
      refine tk 15 (some 81) (v := ?_) rfl rfl ?_ ?_
      rotate_left
      · (intro w _; go_simp; (try with_reducible rfl))
      simp only [Act.put, stB, stZ, stS]
      refine tk 16 (some 82) (v := ?_) rfl rfl ?_ ?_
      rotate_left
      · (intro w _; go_simp; (try with_reducible rfl))
      simp only [Act.put, stB, stZ, stS]
      refine tk 17 (some 83) (v := ?_) rfl rfl ?_ ?_
      rotate_left
      · (intro w _; go_simp; (try with_reducible rfl))
      simp only [Act.put, stB, stZ, stS]
      refine tk 18 (some 84) (v := ?_) rfl rfl ?_ ?_
      rotate_left
      · (intro w _; go_simp; (try with_reducible rfl))
      simp only [Act.put, stB, stZ, stS]
      refine tk 20 (some 86) (v := ?_) rfl rfl ?_ ?_
      rotate_left
      · (intro w hSw; (try dsimp only at hSw); ((try obtain ⟨hSw0, hSw1⟩ := hSw); go_simp); (try with_reducible rfl))
      simp only [Act.put, stB, stZ, stS]
      refine wpAnyH_ready (rs := [19]) (by kernel_rfl) (by simp) ?_
      refine (AllReadyH.cons (o := { dst := some 85, op := Op.call { callee := Callee.value (Operand.func 30), args := #[Operand.tmp 84], argTypes := #[24] }, type := 73, pos := "law.go:295", after := #[{ on := 18, ground := Ground.data }, { on := 17, ground := Ground.chain }, { on := 17, ground := Ground.guard }], guard := some (17, true) }) rfl (fun K hK => ?_) AllReadyH.nil)
      go_simp
      refine HL.out.prob HWF3.out ?_
      intro F2 ca2 ra2 cc2 rc2 cs2 rows2 V5 hp2 hF2 hl hb
      have HP2 := Lib.hid hp2
      replace HL := Lib.hid hl
      clear hl hp2 hF2
      have hfr := Frm.of_below (w0 := w) (K := KK) hb
      replace HP := Lib.hid (HP.out.frm hfr HKF.out)
      have hKK := (And.intro (hfr.cell HKP.out hHeld.1) (hfr.cell HKP.out hHeld.2))
      clear hfr
      clear hb
      refine hK.out _ _ (hKK) (fun hHeld2 => ?_)
      clear hK K hHeld
      rename _ => hHeld
      try simp only [Act.put, stB, stZ, stS]
      refine wpAnyH_ready (rs := [21]) (by kernel_rfl) (by simp) ?_
      refine (AllReadyH.cons (o := { dst := some 87, op := Op.call { callee := Callee.value (Operand.func 32), args := #[Operand.tmp 85, Operand.tmp 86], argTypes := #[73, 73] }, type := 4, pos := "law.go:295", after := #[{ on := 19, ground := Ground.data }, { on := 20, ground := Ground.data }, { on := 19, ground := Ground.chain }, { on := 17, ground := Ground.guard }], guard := some (17, true) }) rfl (fun K hK => ?_) AllReadyH.nil)
      go_simp
      refine (same_any _ _ _ ca2 ra2 ca ra cc2 rc2 cc rc cs2 cs rows2 rows _ _ HP2.out HP.out).mono ?_
      rintro e V6 ⟨rfl, hb⟩
      replace HL := Lib.hid (HL.out.below hb)
      have hfr := Frm.of_below (w0 := w) (K := KK) hb
      replace HP := Lib.hid (HP.out.frm hfr HKF.out)
      have hKK := (And.intro (hfr.cell HKP.out hHeld.1) (hfr.cell HKP.out hHeld.2))
      clear hfr
      clear hb
      refine hK.out _ _ (hKK) (fun hHeld2 => ?_)
      clear hK K hHeld
      rename _ => hHeld
      try simp only [Act.put, stB, stZ, stS]
      refine tk 22 (some 88) (v := ?_) rfl rfl ?_ ?_
      rotate_left
      · (intro w _; go_simp; (try with_reducible rfl))
      simp only [Act.put, stB, stZ, stS]
      refine tk 23 (some 4) (v := ?_) rfl rfl ?_ ?_
      rotate_left
      · (intro w _; go_simp; (try with_reducible rfl))
      simp only [Act.put, stB, stZ, stS]
      refine wpAnyH_done (by kernel_rfl) ?_ _
      (try simp only [Exit.inBlock, Exit.then])
      clear hHeld
      go_wp2_with fail
      go_ret
      exact ⟨rfl, HL.out.bl⟩
    · obtain ⟨T9, u9, rfl⟩ := errv_iface HEV.out hf2
      obtain rfl : T1 = S := by
        rcases HCS.out with ⟨h, _⟩ | ⟨_, h⟩
        · exact absurd h hf2
        · exact h
      clear HCS HEV
      go_upto_region 14 with fail
      replace HL := Lib.hid (HL.out.below (Below.drawn wt 1))
      replace HP := Lib.hid (HP.out.below (Below.drawn wt 1))
      refine wp_region_held_drew (S := fun W => W.cell? ⟨pb, 0, none⟩ = some (.slice ca cs.length cc) ∧ W.cell? ⟨pb, 1, none⟩ = some (.slice ra rows.length rc)) (by kernel_rfl) (⟨p0, p1⟩) (fun hHeld => ?_)
      refine tk 0 (some 62) (v := ?_) rfl rfl ?_ ?_
      rotate_left
      · (intro w _; go_simp; (try with_reducible rfl))
      simp only [Act.put, stB, stZ, stS]
      refine tk 2 (some 64) (v := ?_) rfl rfl ?_ ?_
      rotate_left
      · (intro w hSw; (try dsimp only at hSw); ((try obtain ⟨hSw0, hSw1⟩ := hSw); go_simp); (try with_reducible rfl))
      simp only [Act.put, stB, stZ, stS]
      refine wpAnyH_ready (rs := [1]) (by kernel_rfl) (by simp) ?_
      refine (AllReadyH.cons (o := { dst := some 63, op := Op.call { callee := Callee.value (Operand.func 30), args := #[Operand.tmp 62], argTypes := #[24] }, type := 73, pos := "law.go:293", after := #[{ on := 0, ground := Ground.data }], guard := none }) rfl (fun K hK => ?_) AllReadyH.nil)
      go_simp
      refine HL.out.prob HWF.out ?_
      intro F2 ca2 ra2 cc2 rc2 cs2 rows2 V1 hp2 hF2 hl hb
      have HP2 := Lib.hid hp2
      replace HL := Lib.hid hl
      clear hl hp2 hF2
      have hfr := Frm.of_below (w0 := w) (K := KK) hb
      replace HP := Lib.hid (HP.out.frm hfr HKF.out)
      have hKK := (And.intro (hfr.cell HKP.out hHeld.1) (hfr.cell HKP.out hHeld.2))
      clear hfr
      clear hb
      refine hK.out _ _ (hKK) (fun hHeld2 => ?_)
      clear hK K hHeld
      rename _ => hHeld
      try simp only [Act.put, stB, stZ, stS]
      refine wpAnyH_ready (rs := [3]) (by kernel_rfl) (by simp) ?_
      refine (AllReadyH.cons (o := { dst := some 65, op := Op.call { callee := Callee.value (Operand.func 32), args := #[Operand.tmp 63, Operand.tmp 64], argTypes := #[73, 73] }, type := 4, pos := "law.go:293", after := #[{ on := 1, ground := Ground.data }, { on := 2, ground := Ground.data }, { on := 1, ground := Ground.chain }], guard := none }) rfl (fun K hK => ?_) AllReadyH.nil)
      go_simp
      refine (same_any _ _ _ ca2 ra2 ca ra cc2 rc2 cc rc cs2 cs rows2 rows _ _ HP2.out HP.out).mono ?_
      rintro e V2 ⟨rfl, hb⟩
      replace HL := Lib.hid (HL.out.below hb)
      have hfr := Frm.of_below (w0 := w) (K := KK) hb
      replace HP := Lib.hid (HP.out.frm hfr HKF.out)
      have hKK := (And.intro (hfr.cell HKP.out hHeld.1) (hfr.cell HKP.out hHeld.2))
      clear hfr
      clear hb
      refine hK.out _ _ (hKK) (fun hHeld2 => ?_)
      clear hK K hHeld
      rename _ => hHeld
      try simp only [Act.put, stB, stZ, stS]
      refine tk 4 (some 4) (v := ?_) rfl rfl ?_ ?_
      rotate_left
      · (intro w _; go_simp; (try with_reducible rfl))
      simp only [Act.put, stB, stZ, stS]
      refine wpAnyH_done (by kernel_rfl) ?_ _
      (try simp only [Exit.inBlock, Exit.then])
      clear hHeld
      go_wp2_with fail
      go_ret
      exact ⟨rfl, HL.out.bl⟩
end Go.Proofs.YtaehklhbokocbaaGreatDoor
