/-
 What the laws stand on, part L: contracts and plain laws of PMake, PPrP, PRight, PPCopy, PSameP, PPrSet; the conditions are each law's own.
-/
import Derived.Test.YtndndfobkbeolaaTS
import Derived.Deep.DeepCutAuto
import Derived.Test.YtndndfobkbeolaaTV
set_option linter.unusedVariables false
set_option linter.unusedSimpArgs false
namespace Go.Proofs.Ytndndfobkbeolaa
open Go.RowKit Go.Extern.Stop Go.Stop Go.Extern
theorem Try.infoPRow : (Try.prog.info? 45).map (fun i => (i.zero, i.size, i.bytes)) = some (some (.agg #[.slice none 0 0, .int .i64 0, .bool false, .slice none 0 0, .slice none 0 0]), 5, 88) := by kernel_rfl
theorem frCells_len (v : Fr) : (frCells v).length = 2 := rfl
structure FrW (w : World) (a : Option Addr) (n c : Nat) (fs : List Fr) : Prop where
 len : fs.length = n
 sl : Sl w 2 (.slice a n c) n (fs.flatMap frCells)
 ok : ∀ v, v ∈ fs → I64 v.1 ∧ I64 v.2
theorem FrW.below {w w' : World} {a : Option Addr} {n c : Nat} {fs : List Fr} (h : FrW w a n c fs) (hb : Below w.heap.size w w') : FrW w' a n c fs := ⟨h.len, h.sl.below hb, h.ok⟩
theorem FrW.get {w : World} {a : Option Addr} {n c : Nat} {fs : List Fr} (h : FrW w a n c fs) (k : Nat) (hk : k < n) : ∃ b o v, a = some ⟨b, o, none⟩ ∧ fs[k]? = some v ∧ w.cell? ⟨b, o + k * 2, none⟩ = some (.int .i64 v.1) ∧ w.cell? ⟨b, o + k * 2 + 1, none⟩ = some (.int .i64 v.2) ∧ I64 v.1 ∧ I64 v.2 := by
 obtain ⟨hl, hs, ho⟩ := h
 subst hl
 obtain ⟨b, o, c', e, h1, h2, h3, h4⟩ := hs.plain (by omega)
 cases e
 have hc := fun j u hj => h4 _ u (flat_at frCells 2 frCells_len fs k hk j u hj)
 have c0 := hc 0 _ rfl
 have c1 := hc 1 _ rfl
 simp only [← Nat.add_assoc, Nat.add_zero] at c0 c1
 exact ⟨b, o, fs[k], rfl, List.getElem?_eq_getElem hk, c0, c1, (ho _ (List.getElem_mem hk)).1, (ho _ (List.getElem_mem hk)).2⟩
structure LRow where
 a : Option Addr
 n : Nat
 c : Nat
 fs : List Fr
 kind : Int
 rhs : Fr
def lineCells (r : LRow) : List Value := [.slice r.a r.n r.c, .int .i64 r.kind, .int .i64 r.rhs.1, .int .i64 r.rhs.2]
theorem lineCells_len (r : LRow) : (lineCells r).length = 4 := rfl
structure LRow.ok (w : World) (r : LRow) : Prop where
 fr : FrW w r.a r.n r.c r.fs
 kind : I64 r.kind
 rhs : I64 r.rhs.1 ∧ I64 r.rhs.2
structure RawW (w : World) (ca : Option Addr) (cn cc : Nat) (ra : Option Addr) (rn rc : Nat) (cost : List Fr) (lines : List LRow) : Prop where
 cost : FrW w ca cn cc cost
 len : lines.length = rn
 sl : Sl w 4 (.slice ra rn rc) rn (lines.flatMap lineCells)
 ok : ∀ r, r ∈ lines → r.ok w
theorem RawW.below {w w' : World} {ca : Option Addr} {cn cc : Nat} {ra : Option Addr} {rn rc : Nat} {cost : List Fr} {lines : List LRow} (h : RawW w ca cn cc ra rn rc cost lines) (hb : Below w.heap.size w w') : RawW w' ca cn cc ra rn rc cost lines :=
 ⟨h.cost.below hb, h.len, h.sl.below hb, fun r hr => ⟨(h.ok r hr).fr.below hb, (h.ok r hr).kind, (h.ok r hr).rhs⟩⟩
theorem RawW.get {w : World} {ca : Option Addr} {cn cc : Nat} {ra : Option Addr} {rn rc : Nat} {cost : List Fr} {lines : List LRow} (h : RawW w ca cn cc ra rn rc cost lines) (k : Nat) (hk : k < rn) :
  ∃ b o r, ra = some ⟨b, o, none⟩ ∧ lines[k]? = some r ∧ w.cell? ⟨b, o + k * 4, none⟩ = some (.slice r.a r.n r.c) ∧ w.cell? ⟨b, o + k * 4 + 1, none⟩ = some (.int .i64 r.kind) ∧ w.cell? ⟨b, o + k * 4 + 2, none⟩ = some (.int .i64 r.rhs.1) ∧ w.cell? ⟨b, o + k * 4 + 3, none⟩ = some (.int .i64 r.rhs.2) ∧ r.ok w := by
 obtain ⟨_, hl, hs, ho⟩ := h
 subst hl
 obtain ⟨b, o, c', e, h1, h2, h3, h4⟩ := hs.plain (by omega)
 cases e
 have hc := fun j u hj => h4 _ u (flat_at lineCells 4 lineCells_len lines k hk j u hj)
 have c0 := hc 0 _ rfl
 have c1 := hc 1 _ rfl
 have c2 := hc 2 _ rfl
 have c3 := hc 3 _ rfl
 simp only [← Nat.add_assoc, Nat.add_zero] at c0 c1 c2 c3
 exact ⟨b, o, lines[k], rfl, List.getElem?_eq_getElem hk, c0, c1, c2, c3, ho _ (List.getElem_mem hk)⟩
set_option maxRecDepth 100000 in
set_option maxHeartbeats 4000000 in
theorem mk10_any (a : Option Addr) (n c : Nat) (fs : List Fr) (w : World) (h1 : Sl w 2 (.slice a n c) n (fs.flatMap frCells)) (hl : fs.length = n) (hI : ∀ v, v ∈ fs → I64 v.1 ∧ I64 v.2) (hn : n ≤ 1100000) : Calls Try.prog 10 #[.slice a n c] w fun e w' => ∃ a' c' vs, e = .returned (.slice a' n c') ∧ VB w (fs.map fracQ) a' n c' vs w' := by
 obtain ⟨tr, hi, hz0, hz1, hz2⟩ := info_parts Try.infoRat
 have hln := h1.lenI
 have H := Lib.hid (show FrW w a n c fs from ⟨hl, h1, hI⟩)
 clear h1 hI hl
 go_enter Try.func10, Try.ntmps10
 go_wp2
 go_loopw [3, 4] (fun ov iv wr => ∃ (k : Nat) (oa : Option Addr) (oc : Nat) (vs : List Rv), k ≤ n ∧ iv = .int .i64 k ∧ ov = .slice oa k oc ∧ VB w ((fs.map fracQ).take k) oa k oc vs wr) (fun _ iv _ => n - (intOf iv).toNat)
 case atStart => exact ⟨0, none, 0, [], Nat.zero_le _, rfl, rfl, VB.nil w⟩
 case round =>
  obtain ⟨k, oa, oc, vs, hk, rfl, rfl, hv⟩ := hrel
  by_cases hlt : k < n
  ·
   obtain ⟨b, o, x, e1, e2, y0, y1, hx1, hx2⟩ := (H.out.below hv.bel).get k hlt
   have ht : (fs.map fracQ).take (k + 1) = (fs.map fracQ).take k ++ [fracQ x] := by
    rw [List.take_succ_eq_append_getElem (by rw [List.length_map, H.out.len]; exact hlt), List.getElem_map, (List.getElem?_eq_some_iff.1 e2).2]
   subst e1
   have HT := Lib.hid ht
   have HX := Lib.hid (And.intro hx1 hx2)
   have HVB := Lib.hid hv
   have i0 : (0 : Int) ≤ (k : Int) := by omega
   have i1 : (k : Int) < (n : Int) := by omega
   clear ht hx1 hx2 hv e2
   go_wp2_with fail
   refine (One_any x.1 x.2 _ HX.out.1 HX.out.2).mono ?_
   rintro e w1 ⟨v, rfl, ho, hq, hb⟩
   replace HVB := Lib.hid (HVB.out.call hb)
   have HO := Lib.hid ho
   have HQ := Lib.hid hq
   clear ho hq hb
   unfold Rv.val
   have HM3 := Lib.hid (HVB.out.mid.alloc (.cells #[.bool v.s, .slice v.a v.l v.c, .slice v.b v.m v.d] 40))
   have HS3 := Lib.hid (show Src Try.prog 3 28 (.slice (some ⟨w1.heap.size, 0, none⟩) 1 1) 1 v.cells (w1.alloc (.cells #[.bool v.s, .slice v.a v.l v.c, .slice v.b v.m v.d] 40)) from
    (Sl.lit w1 40 3 1 v.cells (by unfold maxLen; omega) rfl).src (P := Try.prog) Try.underlying28 (fun u hu => rv_one [v] u (by simpa using hu)))
   have HW3 := Lib.hid (show w.heap.size ≤ (w1.alloc (.cells #[.bool v.s, .slice v.a v.l v.c, .slice v.b v.m v.d] 40)).heap.size by have := HVB.out.bel.size; simp; omega)
   go_wp2_with (at_builtin; refine wpList_append_mid (v := .slice oa k oc) rfl _ _ 28 28 rfl tr (.agg #[.bool false, .slice none 0 0, .slice none 0 0]) 56 Try.underlying28 hi hz0 hz1 hz2 rfl rfl HM3.out _ rfl 1 _ HS3.out (by unfold maxLen; omega) (by omega) HW3.out ?_; intro a4 c4 w4 hmo hgo hbo; have HMO4 := Lib.hid hmo; have HGO4 := Lib.hid hgo; clear hmo hgo hbo)
   go_roundw
   case rel =>
    refine ⟨k + 1, a4, c4, vs ++ [v], by omega, by go_num, rfl, ?_⟩
    rw [HT.out, show fracQ x = v.q from HQ.out.symm]
    exact HVB.out.push HO.out HMO4.out HGO4.out
   case measure => simp [intOf]; omega
  ·
   obtain rfl : k = n := by omega
   rw [List.take_of_length_le (by rw [List.length_map, H.out.len]; exact Nat.le_refl _)] at hv
   have HVB := Lib.hid hv
   clear hv
   go_wp2
   go_ret
   exact ⟨oa, oc, vs, rfl, HVB.out⟩
def ApartS (a : Option Addr) (n c : Nat) (a' : Option Addr) (n' c' : Nat) : Prop := ∀ z, (Value.slice a n c).ownBlock = some z → (Value.slice a' n' c').ownBlock ≠ some z
structure PrB (w0 : World) (ca : Option Addr) (cn cc : Nat) (ra : Option Addr) (rn rc : Nat) (cs : List Rv) (rows : List PRow) (W : World) : Prop where
 cost : VB w0 (qs cs) ca cn cc cs W
 mid : Mid W w0.heap.size 45 5 (.slice ra rn rc) rn (rows.flatMap prowCells)
 len : rows.length = rn
 ok : ∀ r, r ∈ rows → VB w0 (qs r.coef) r.a r.n r.c r.coef W ∧ r.rhs.ok W ∧ I64 r.kind ∧ ApartS r.a r.n r.c ca cn cc
 nod : rows.Pairwise fun r s => ApartS r.a r.n r.c s.a s.n s.c
 bel : Below w0.heap.size w0 W
section
variable {w0 W W' : World} {ca : Option Addr} {cn cc : Nat} {ra : Option Addr} {rn rc : Nat} {cs : List Rv} {rows : List PRow} {S : Nat → Prop}
theorem PrB.call (h : PrB w0 ca cn cc ra rn rc cs rows W) (hb : Below W.heap.size W W') : PrB w0 ca cn cc ra rn rc cs rows W' :=
 ⟨h.cost.call hb, mid_under h.mid hb, h.len, fun r hr => ⟨(h.ok r hr).1.call hb, (h.ok r hr).2.1.below hb, (h.ok r hr).2.2⟩, h.nod, bthen h.bel hb⟩
theorem PrB.foreign {U : TypeId} (h : PrB w0 ca cn cc ra rn rc cs rows W) (hf : Foreign W w0.heap.size U S) (hk : Keeps W W' S) (h1 : 40 ≠ U) (h2 : 45 ≠ U) (h3 : U ≠ 128) : PrB w0 ca cn cc ra rn rc cs rows W' :=
 ⟨h.cost.foreign hf hk h1 h3, hf.mids hk h2 h.mid, h.len, fun r hr => ⟨(h.ok r hr).1.foreign hf hk h1 h3, hf.rv hk h3 (h.ok r hr).2.1, (h.ok r hr).2.2⟩, h.nod, h.bel.trans (hk.below h.bel.size hf.ge)⟩
theorem PrB.prw (h : PrB w0 ca cn cc ra rn rc cs rows W) : PrW W ca cn cc ra rn rc cs rows := ⟨h.cost.vec, h.len, Sl.ofMid h.mid, fun r hr => ⟨(h.ok r hr).1.vec, (h.ok r hr).2.1, (h.ok r hr).2.2.1⟩⟩
theorem PrB.lts (h : PrB w0 ca cn cc ra rn rc cs rows W) : ∀ r, r ∈ rows → ∀ z, (Value.slice r.a r.n r.c).ownBlock = some z → z < W.heap.size := fun r hr z hz => ((h.ok r hr).1.mid.lt z hz).2
theorem PrB.ltc (h : PrB w0 ca cn cc ra rn rc cs rows W) : ∀ z, (Value.slice ca cn cc).ownBlock = some z → z < W.heap.size := fun z hz => (h.cost.mid.lt z hz).2
theorem PrB.push (h : PrB w0 ca cn cc ra rn rc cs rows W) {ob : Obj} {r : PRow} {a' : Option Addr} {c' : Nat} (hv : VB w0 (qs r.coef) r.a r.n r.c r.coef W) (hr : r.rhs.ok W) (hk : I64 r.kind)
  (hn : ∀ z, (Value.slice r.a r.n r.c).ownBlock = some z → ∀ q, q ∈ rows → (Value.slice q.a q.n q.c).ownBlock ≠ some z) (hc : ∀ z, (Value.slice r.a r.n r.c).ownBlock = some z → (Value.slice ca cn cc).ownBlock ≠ some z)
  (hm : Mid W' w0.heap.size 45 5 (.slice a' (rn + 1) c') (rn + 1) (rows.flatMap prowCells ++ prowCells r)) (hg : (W.alloc ob).grownBy W' (Value.slice ra rn rc).ownBlock) : PrB w0 ca cn cc a' (rn + 1) c' cs (rows ++ [r]) W' := by
 have hkp := grown_keeps hg
 have hf := Foreign.mid h.mid
 refine ⟨h.cost.foreign hf hkp (by decide) (by decide), by rw [List.flatMap_append]; simpa using hm, by rw [List.length_append, h.len]; rfl, fun q hq => ?_, List.pairwise_append.2 ⟨h.nod, List.pairwise_singleton _ _, fun x hx y hy => ?_⟩, h.bel.trans (hkp.below h.bel.size hf.ge)⟩
 ·
  rcases List.mem_append.1 hq with hq | hq
  ·
   exact ⟨(h.ok q hq).1.foreign hf hkp (by decide) (by decide), hf.rv hkp (by decide) (h.ok q hq).2.1, (h.ok q hq).2.2⟩
  ·
   rw [List.mem_singleton.1 hq]
   exact ⟨hv.foreign hf hkp (by decide) (by decide), hf.rv hkp (by decide) hr, hk, hc⟩
 ·
  rw [List.mem_singleton.1 hy]
  exact fun z hz e => hn z e x hx hz
end
def prowQ (r : PRow) : List Rat × Int × Rat := (qs r.coef, r.kind, r.rhs.q)
def lineQ (r : LRow) : List Rat × Int × Rat := (r.fs.map fracQ, r.kind, fracQ r.rhs)
def MakeR (cn rn : Nat) (cost : List Fr) (lines : List LRow) (w : World) (e : Ending) (w' : World) : Prop := ∃ ca cc ra rc cs rows, e = .returned (.agg #[.slice ca cn cc, .slice ra rn rc]) ∧ PrB w ca cn cc ra rn rc cs rows w' ∧ qs cs = cost.map fracQ ∧ rows.map prowQ = lines.map lineQ ∧ rows.map (·.n) = lines.map (·.n)
set_option maxRecDepth 100000 in
set_option maxHeartbeats 16000000 in
theorem make_any (xa : Option Addr) (cn xc : Nat) (ra : Option Addr) (rn rc : Nat) (cost : List Fr) (lines : List LRow) (w : World) (h : RawW w xa cn xc ra rn rc cost lines) (hcn : cn ≤ 1100000) (hrn : rn ≤ 1100000) (hln : ∀ r, r ∈ lines → r.n ≤ 1100000) :
  Calls Try.prog 9 #[.agg #[.slice xa cn xc, .slice ra rn rc]] w (MakeR cn rn cost lines w) := by
 obtain ⟨tp, hp1, hp2, hp3, hp4⟩ := info_parts Try.infoPRow
 have hlI := h.sl.lenI
 obtain ⟨w1, hw1⟩ : ∃ w1, (w.alloc (.cells #[.slice xa cn xc, .slice ra rn rc] 25)).alloc (.cells #[.slice none 0 0, .slice none 0 0] 31) = w1 := ⟨_, rfl⟩
 have hq1 : w1.heap[w.heap.size]? = some (.cells #[.slice xa cn xc, .slice ra rn rc] 25 (0, 0)) := by rw [← hw1]; exact (heap2 w _ _).1
 have hz1 : w1.heap[w.heap.size + 1]? = some (.cells #[.slice none 0 0, .slice none 0 0] 31 (0, 0)) := by rw [← hw1]; exact (heap2 w _ _).2
 have hb1 : Below w.heap.size w w1 := by rw [← hw1]; exact belowBox2 w _ _
 obtain ⟨zb, hzb⟩ : ∃ zb, w.heap.size + 1 = zb := ⟨_, rfl⟩
 obtain ⟨qb, hqb⟩ : ∃ qb, w.heap.size = qb := ⟨_, rfl⟩
 rw [hzb] at hz1
 rw [hqb] at hq1
 have HRW := Lib.hid (fun (W : World) (hb : Below w.heap.size w W) => h.below hb)
 have HLEN := Lib.hid h.len
 have HLNS := Lib.hid hln
 have HC10 := Lib.hid (mk10_any xa cn xc cost w1 (h.below hb1).cost.sl h.cost.len h.cost.ok hcn)
 have HBQ := Lib.hid hq1
 have HBR := Lib.hid hz1
 have HB1 := Lib.hid hb1
 have HGZ := Lib.hid (show w.heap.size ≤ zb by omega)
 have HW1 := Lib.hid hw1
 have HZE := Lib.hid hzb
 have HQE := Lib.hid hqb
 clear h hln hq1 hz1 hb1 hw1 hzb hqb
 go_enter Try.func9, Try.ntmps9
 go_upto_region 1 with fail
 (try simp only [HW1.out])
 (try simp only [HZE.out])
 (try simp only [HQE.out])
 clear HW1 HZE HQE
 have q0 := cell_of_block (j := 0) HBQ.out rfl
 go_wp2_with fail
 clear q0
 refine HC10.out.mono ?_
 rintro e w2 ⟨ca, cc, cs, rfl, hcv⟩
 have hal := belowBox w2 (.cells #[.slice ca cn cc, .slice none 0 0] 31)
 have hqq := (hcv.bel.block qb (lt_of_block HBQ.out)).trans HBQ.out
 have hzz := (hcv.bel.block zb (lt_of_block HBR.out)).trans HBR.out
 have hcw := (hcv.rebase HB1.out).call hal
 replace HBQ := Lib.hid ((hal.block qb (lt_of_block hqq)).trans hqq)
 replace HBR := Lib.hid ((hal.block zb (lt_of_block hzz)).trans hzz)
 have HBX := Lib.hid (heap_alloc_new w2 (.cells #[.slice ca cn cc, .slice none 0 0] 31))
 have HGP := Lib.hid (Nat.le_trans HB1.out.size hcv.bel.size)
 have HNE := Lib.hid (Nat.ne_of_lt (lt_of_block hzz))
 have HCQ := Lib.hid hcv.q
 have HPB := Lib.hid (show PrB w ca cn cc none 0 0 cs [] (w2.alloc (.cells #[.slice ca cn cc, .slice none 0 0] 31)) from
  ⟨⟨hcw.mid, hcw.len, hcw.ok, rfl, hcw.bel⟩, by simpa using Mid.nil _ _ 45 5, rfl, fun _ h => (by cases h), List.Pairwise.nil, hcw.bel⟩)
 clear hcv hal hqq hzz hcw HC10 HB1
 go_upto_region 2 with fail
 generalize w2.heap.size = pb at HBX HGP HNE ⊢
 generalize w2.alloc (.cells #[.slice ca cn cc, .slice none 0 0] 31) = w3 at HBX HBQ HBR HPB ⊢
 go_wp2_with fail
 go_loopw [4] (fun iv wr => ∃ (k : Nat) (pa : Option Addr) (pc : Nat) (rows : List PRow), k ≤ rn ∧ iv = .int .i64 k ∧ PrB w ca cn cc pa k pc cs rows wr ∧ rows.map prowQ = (lines.map lineQ).take k ∧ rows.map (·.n) = (lines.map (·.n)).take k ∧ wr.heap[pb]? = some (.cells #[.slice ca cn cc, .slice pa k pc] 31 (0, 0)) ∧ wr.heap[zb]? = some (.cells #[.slice none 0 0, .slice none 0 0] 31 (0, 0)) ∧ wr.heap[qb]? = some (.cells #[.slice xa cn xc, .slice ra rn rc] 25 (0, 0))) (fun iv _ => rn - (intOf iv).toNat)
 case atStart => exact ⟨0, none, 0, [], Nat.zero_le _, rfl, HPB.out, rfl, rfl, HBX.out, HBR.out, HBQ.out⟩
 case round =>
  obtain ⟨k, pa, pc, rows, hk, rfl, hpr, hmp, hmn, hbx, hbr, hbq⟩ := hrel
  replace HPB := Lib.hid hpr
  replace HBX := Lib.hid hbx
  replace HBR := Lib.hid hbr
  replace HBQ := Lib.hid hbq
  have HMP := Lib.hid hmp
  have HMN := Lib.hid hmn
  have q1 := cell_of_block (j := 1) hbq rfl
  by_cases hlt : k < rn
  ·
   obtain ⟨b, o, r, e1, e2, _, _, _, _, hok⟩ := (HRW.out w (Below.refl _ _)).get k hlt
   have hlk : k < lines.length := by rw [HLEN.out]; exact hlt
   have hcel : ∀ W : World, Below w.heap.size w W → W.cell? ⟨b, o + k * 4, none⟩ = some (.slice r.a r.n r.c) ∧ W.cell? ⟨b, o + k * 4 + 1, none⟩ = some (.int .i64 r.kind) ∧ W.cell? ⟨b, o + k * 4 + 2, none⟩ = some (.int .i64 r.rhs.1) ∧ W.cell? ⟨b, o + k * 4 + 3, none⟩ = some (.int .i64 r.rhs.2) := fun W hb => by
    obtain ⟨b', o', r', e3, e4, y0, y1, y2, y3, _⟩ := (HRW.out W hb).get k hlt
    rw [e1] at e3
    cases e3
    rw [e2] at e4
    cases e4
    exact ⟨y0, y1, y2, y3⟩
   have HCEL := Lib.hid hcel
   have HLO := Lib.hid (fun (W : World) (hb : Below w.heap.size w W) => hok.fr.below hb)
   have HKI := Lib.hid hok.kind
   have HRI := Lib.hid hok.rhs
   have HLN := Lib.hid (HLNS.out r (List.mem_of_getElem? e2))
   have HTK := Lib.hid (show (lines.map lineQ).take (k + 1) = (lines.map lineQ).take k ++ [lineQ r] by
    rw [List.take_succ_eq_append_getElem (by rw [List.length_map]; exact hlk), List.getElem_map, (List.getElem?_eq_some_iff.1 e2).2])
   have HTN := Lib.hid (show (lines.map (·.n)).take (k + 1) = (lines.map (·.n)).take k ++ [r.n] by
    rw [List.take_succ_eq_append_getElem (by rw [List.length_map]; exact hlk), List.getElem_map, (List.getElem?_eq_some_iff.1 e2).2])
   have i0 : (0 : Int) ≤ (k : Int) := by omega
   have i1 : (k : Int) < (rn : Int) := by omega
   subst e1
   clear hpr hmp hmn hbx hbr hbq hcel hok e2 hlk
   go_upto_region 5 with fail
   replace HPB := Lib.hid (HPB.out.call (show Below wr.heap.size wr wr.drew from Below.drawn wr 1))
   replace HBX := Lib.hid (((show Below wr.heap.size wr wr.drew from Below.drawn wr 1).block pb (lt_of_block HBX.out)).trans HBX.out)
   replace HBR := Lib.hid (((show Below wr.heap.size wr wr.drew from Below.drawn wr 1).block zb (lt_of_block HBR.out)).trans HBR.out)
   replace HBQ := Lib.hid (((show Below wr.heap.size wr wr.drew from Below.drawn wr 1).block qb (lt_of_block HBQ.out)).trans HBQ.out)
   refine wp_region_held_drew (S := fun W => W.cell? ⟨qb, 1, none⟩ = some (.slice (some ⟨b, o, none⟩) rn rc) ∧ W.cell? ⟨b, o + k * 4, none⟩ = some (.slice r.a r.n r.c) ∧ W.cell? ⟨b, o + k * 4 + 1, none⟩ = some (.int .i64 r.kind) ∧ W.cell? ⟨b, o + k * 4 + 2, none⟩ = some (.int .i64 r.rhs.1) ∧ W.cell? ⟨b, o + k * 4 + 3, none⟩ = some (.int .i64 r.rhs.2)) (by kernel_rfl) (And.intro q1 (HCEL.out _ HPB.out.bel)) (fun hHeld => ?_)
   generalize wr.drew = wd at HPB HBX HBR HBQ hHeld ⊢
   have HLTW := Lib.hid HPB.out.lts
   have HLTC := Lib.hid HPB.out.ltc
   refine tk 0 (some 16) (v := ?_) rfl rfl ?_ ?_
   rotate_left
   ·
    (intro w _; go_simp; (try with_reducible rfl))
   simp only [Act.put, stB, stZ, stS]
   refine tk 2 (some 18) (v := ?_) rfl rfl ?_ ?_
   rotate_left
   ·
    (intro w _; go_simp; (try with_reducible rfl))
   simp only [Act.put, stB, stZ, stS]
   refine tk 3 (some 19) (v := ?_) rfl rfl ?_ ?_
   rotate_left
   ·
    (intro w hSw; (try dsimp only at hSw); ((try obtain ⟨hS0, hS1, hS2, hS3, hS4⟩ := hSw); go_simp); (try with_reducible rfl))
   simp only [Act.put, stB, stZ, stS]
   refine tk 4 (some 20) (v := ?_) rfl rfl ?_ ?_
   rotate_left
   ·
    (intro w _; go_simp; (try with_reducible rfl))
   simp only [Act.put, stB, stZ, stS]
   refine tk 5 (some 21) (v := ?_) rfl rfl ?_ ?_
   rotate_left
   ·
    (intro w hSw; (try dsimp only at hSw); ((try obtain ⟨hS0, hS1, hS2, hS3, hS4⟩ := hSw); go_simp); (try with_reducible rfl))
   simp only [Act.put, stB, stZ, stS]
   refine tk 6 (some 22) (v := ?_) rfl rfl ?_ ?_
   rotate_left
   ·
    (intro w _; go_simp; (try with_reducible rfl))
   simp only [Act.put, stB, stZ, stS]
   refine tk 7 (some 23) (v := ?_) rfl rfl ?_ ?_
   rotate_left
   ·
    (intro w hSw; (try dsimp only at hSw); ((try obtain ⟨hS0, hS1, hS2, hS3, hS4⟩ := hSw); go_simp); (try with_reducible rfl))
   simp only [Act.put, stB, stZ, stS]
   refine tk 9 (some 25) (v := ?_) rfl rfl ?_ ?_
   rotate_left
   ·
    (intro w _; go_simp; (try with_reducible rfl))
   simp only [Act.put, stB, stZ, stS]
   refine tk 10 (some 26) (v := ?_) rfl rfl ?_ ?_
   rotate_left
   ·
    (intro w hSw; (try dsimp only at hSw); ((try obtain ⟨hS0, hS1, hS2, hS3, hS4⟩ := hSw); go_simp); (try with_reducible rfl))
   simp only [Act.put, stB, stZ, stS]
   refine tk 11 (some 27) (v := ?_) rfl rfl ?_ ?_
   rotate_left
   ·
    (intro w _; go_simp; (try with_reducible rfl))
   simp only [Act.put, stB, stZ, stS]
   refine tk 12 (some 28) (v := ?_) rfl rfl ?_ ?_
   rotate_left
   ·
    (intro w hSw; (try dsimp only at hSw); ((try obtain ⟨hS0, hS1, hS2, hS3, hS4⟩ := hSw); go_simp); (try with_reducible rfl))
   simp only [Act.put, stB, stZ, stS]
   refine tk 13 (some 29) (v := ?_) rfl rfl ?_ ?_
   rotate_left
   ·
    (intro w _; go_simp; (try with_reducible rfl))
   simp only [Act.put, stB, stZ, stS]
   refine tk 14 (some 30) (v := ?_) rfl rfl ?_ ?_
   rotate_left
   ·
    (intro w hSw; (try dsimp only at hSw); ((try obtain ⟨hS0, hS1, hS2, hS3, hS4⟩ := hSw); go_simp); (try with_reducible rfl))
   simp only [Act.put, stB, stZ, stS]
   refine tk 15 (some 31) (v := ?_) rfl rfl ?_ ?_
   rotate_left
   ·
    (intro w _; go_simp; (try with_reducible rfl))
   simp only [Act.put, stB, stZ, stS]
   refine tk 16 (some 32) (v := ?_) rfl rfl ?_ ?_
   rotate_left
   ·
    (intro w hSw; (try dsimp only at hSw); ((try obtain ⟨hS0, hS1, hS2, hS3, hS4⟩ := hSw); go_simp); (try with_reducible rfl))
   simp only [Act.put, stB, stZ, stS]
   refine tk 17 (some 33) (v := ?_) rfl rfl ?_ ?_
   rotate_left
   ·
    (intro w _; go_simp; (try with_reducible rfl))
   simp only [Act.put, stB, stZ, stS]
   refine tk 18 (some 34) (v := ?_) rfl rfl ?_ ?_
   rotate_left
   ·
    (intro w hSw; (try dsimp only at hSw); ((try obtain ⟨hS0, hS1, hS2, hS3, hS4⟩ := hSw); go_simp); (try with_reducible rfl))
   simp only [Act.put, stB, stZ, stS]
   refine tk 19 (some 35) (v := ?_) rfl rfl ?_ ?_
   rotate_left
   ·
    (intro w _; go_simp; (try with_reducible rfl))
   simp only [Act.put, stB, stZ, stS]
   refine tk 20 (some 36) (v := ?_) rfl rfl ?_ ?_
   rotate_left
   ·
    (intro w hSw; (try dsimp only at hSw); ((try obtain ⟨hS0, hS1, hS2, hS3, hS4⟩ := hSw); go_simp); (try with_reducible rfl))
   simp only [Act.put, stB, stZ, stS]
   refine wpAnyH_ready (rs := [1, 8]) (by kernel_rfl) (by simp) ?_
   refine (AllReadyH.cons rfl (fun K hK => ?_) (AllReadyH.cons rfl (fun K hK => ?_) AllReadyH.nil))
   ·
    skip
    have c1 := cell_of_block (j := 1) HBX.out rfl
    go_simp
    clear c1
    refine hK.out _ _ (hHeld) (fun hHeld2 => ?_)
    clear hK K hHeld
    rename _ => hHeld
    try simp only [Act.put, stB, stZ, stS]
    refine wpAnyH_ready (rs := [8]) (by kernel_rfl) (by simp) ?_
    refine (AllReadyH.cons rfl (fun K hK => ?_) AllReadyH.nil)
    go_simp
    have hlo := HLO.out wd HPB.out.bel
    refine (mk10_any r.a r.n r.c r.fs wd hlo.sl hlo.len hlo.ok HLN.out).mono ?_
    rintro e V1 ⟨a7, c7, v7, rfl, hv⟩
    have hb := hv.bel
    have HV7 := Lib.hid (hv.rebase HPB.out.bel)
    have HA7 := Lib.hid (show ∀ z, (Value.slice a7 r.n c7).ownBlock = some z → wd.heap.size ≤ z from fun z hz => (hv.mid.lt z hz).1)
    clear hv hlo
    replace HPB := Lib.hid (HPB.out.call hb)
    replace HBX := Lib.hid ((hb.block pb (lt_of_block HBX.out)).trans HBX.out)
    replace HBR := Lib.hid ((hb.block zb (lt_of_block HBR.out)).trans HBR.out)
    replace HBQ := Lib.hid ((hb.block qb (lt_of_block HBQ.out)).trans HBQ.out)
    have hKK := And.intro (cell_of_block (j := 1) HBQ.out rfl) (HCEL.out _ HPB.out.bel)
    clear hb
    refine hK.out _ _ (hKK) (fun hHeld2 => ?_)
    clear hK K hHeld
    rename _ => hHeld
    try simp only [Act.put, stB, stZ, stS]
    refine wpAnyH_ready (rs := [21]) (by kernel_rfl) (by simp) ?_
    refine (AllReadyH.cons rfl (fun K hK => ?_) AllReadyH.nil)
    go_simp
    refine (One_any r.rhs.1 r.rhs.2 V1 HRI.out.1 HRI.out.2).mono ?_
    rintro e V2 ⟨v8, rfl, ho, hq, hb⟩
    unfold Rv.val
    have HO8 := Lib.hid ho
    have HQ8 := Lib.hid hq
    replace HV7 := Lib.hid (HV7.out.call hb)
    clear ho hq
    replace HPB := Lib.hid (HPB.out.call hb)
    replace HBX := Lib.hid ((hb.block pb (lt_of_block HBX.out)).trans HBX.out)
    replace HBR := Lib.hid ((hb.block zb (lt_of_block HBR.out)).trans HBR.out)
    replace HBQ := Lib.hid ((hb.block qb (lt_of_block HBQ.out)).trans HBQ.out)
    have hKK := And.intro (cell_of_block (j := 1) HBQ.out rfl) (HCEL.out _ HPB.out.bel)
    clear hb
    refine hK.out _ _ (hKK) (fun hHeld2 => ?_)
    clear hK K hHeld
    rename _ => hHeld
    try simp only [Act.put, stB, stZ, stS]
    refine tk 22 (some 38) (v := ?_) rfl rfl ?_ ?_
    rotate_left
    ·
     (intro w _; go_simp; (try with_reducible rfl))
    simp only [Act.put, stB, stZ, stS]
    refine wpAnyH_ready (rs := [23]) (by kernel_rfl) (by simp) ?_
    refine (AllReadyH.cons rfl (fun K hK => ?_) AllReadyH.nil)
    go_simp
    have hb := belowBox V2 (.cells #[.slice a7 r.n c7, .int .i64 r.kind, .bool v8.s, .slice v8.a v8.l v8.c, .slice v8.b v8.m v8.d] 45)
    have HBX2 := Lib.hid ((hb.block pb (lt_of_block HBX.out)).trans HBX.out)
    have HM3 := Lib.hid (HPB.out.mid.alloc (.cells #[.slice a7 r.n c7, .int .i64 r.kind, .bool v8.s, .slice v8.a v8.l v8.c, .slice v8.b v8.m v8.d] 45))
    have HS3 := Lib.hid (show Src Try.prog 5 29 (.slice (some ⟨V2.heap.size, 0, none⟩) 1 1) 1 [.slice a7 r.n c7, .int .i64 r.kind, .bool v8.s, .slice v8.a v8.l v8.c, .slice v8.b v8.m v8.d] (V2.alloc (.cells #[.slice a7 r.n c7, .int .i64 r.kind, .bool v8.s, .slice v8.a v8.l v8.c, .slice v8.b v8.m v8.d] 45)) from
     (Sl.lit V2 45 5 1 [.slice a7 r.n c7, .int .i64 r.kind, .bool v8.s, .slice v8.a v8.l v8.c, .slice v8.b v8.m v8.d] (by unfold maxLen; omega) rfl).src (P := Try.prog) Try.underlying29 (fun u hu => by
      simp only [List.mem_cons, List.not_mem_nil, or_false] at hu
      rcases hu with rfl | rfl | rfl | rfl | rfl <;> rfl))
    have HW3 := Lib.hid (show w.heap.size ≤ (V2.alloc (.cells #[.slice a7 r.n c7, .int .i64 r.kind, .bool v8.s, .slice v8.a v8.l v8.c, .slice v8.b v8.m v8.d] 45)).heap.size by have := HPB.out.bel.size; simp; omega)
    have hKK := And.intro (hu hb (cell_of_block (j := 1) HBQ.out rfl)) (HCEL.out _ (bthen HPB.out.bel hb))
    clear hb
    refine hK.out _ _ (hKK) (fun hHeld2 => ?_)
    clear hK K hHeld
    rename _ => hHeld
    try simp only [Act.put, stB, stZ, stS]
    refine wpAnyH_ready (rs := [24]) (by kernel_rfl) (by simp) ?_
    refine (AllReadyH.cons rfl (fun K hK => ?_) AllReadyH.nil)
    refine step_append_mid (v := .slice pa k pc) (by rfl) _ _ 29 29 (by rfl) tp (.agg #[.slice none 0 0, .int .i64 0, .bool false, .slice none 0 0, .slice none 0 0]) 88 Try.underlying29 hp1 hp2 hp3 hp4 rfl (by rfl) HM3.out _ (by rfl) 1 _ HS3.out (by unfold maxLen; omega) (by omega) HW3.out ?_
    intro a9 c9 V4 hmo hgo hbo
    have hk := grown_keeps hgo
    have hf := Foreign.mid HPB.out.mid
    have HPX := Lib.hid (HPB.out.push (r := ⟨a7, r.n, c7, v7, r.kind, v8⟩) (show VB w (qs v7) a7 r.n c7 v7 V2 from ⟨HV7.out.mid, HV7.out.len, HV7.out.ok, rfl, HV7.out.bel⟩) HO8.out HKI.out (fun z hz q hq e => by have h1 := HA7.out z hz; have h2 := HLTW.out q hq z e; omega) (fun z hz e => by have h1 := HA7.out z hz; have h2 := HLTC.out z e; omega) hmo hgo)
    replace HBX := Lib.hid (hf.box hk (by decide) HBX.out)
    replace HBR := Lib.hid (hf.box hk (by decide) HBR.out)
    replace HBQ := Lib.hid (hf.box hk (by decide) HBQ.out)
    clear hmo hgo hbo hk hf
    try dsimp only
    refine hK.out _ _ (And.intro (cell_of_block (j := 1) HBQ.out rfl) (HCEL.out _ HPX.out.bel)) (fun hHeld2 => ?_)
    clear hK K hHeld
    rename _ => hHeld
    try simp only [Act.put, stB, stZ, stS]
    refine tk 25 (some 41) (v := ?_) rfl rfl ?_ ?_
    rotate_left
    ·
     (intro w _; go_simp; (try with_reducible rfl))
    simp only [Act.put, stB, stZ, stS]
    refine wpAnyH_ready (rs := [26]) (by kernel_rfl) (by simp) ?_
    refine (AllReadyH.cons rfl (fun K hK => ?_) AllReadyH.nil)
    have c1 := cell_of_block (j := 1) HBX.out rfl
    have f1 : V4.frozen? ⟨pb, 1, none⟩ = false := free_of_block HBX.out
    go_simp
    clear c1 f1
    have hk := Keeps.setCell V4 ⟨pb, 1, none⟩ (.slice a9 (k + 1) c9) (S := fun z => z = pb) rfl
    have hf := Foreign.one HBX.out HGP.out
    have HPY := Lib.hid (HPX.out.foreign hf hk (by decide) (by decide) (by decide))
    have HBY := Lib.hid (heap_setCell_same V4 pb 1 _ _ (.slice a9 (k + 1) c9) HBX.out)
    have HBRY := Lib.hid ((hk.block zb (lt_of_block HBR.out) HNE.out).trans HBR.out)
    have HBQY := Lib.hid (hf.box hk (by decide) HBQ.out)
    clear hk hf
    refine hK.out _ _ (And.intro (cell_of_block (j := 1) HBQY.out rfl) (HCEL.out _ HPY.out.bel)) (fun hHeld2 => ?_)
    clear hK K hHeld
    rename _ => hHeld
    try simp only [Act.put, stB, stZ, stS]
    refine wpAnyH_done (by kernel_rfl) ?_ _
    (try simp only [Exit.inBlock, Exit.then])
    clear hHeld
    go_wp2_with fail
    go_roundw
    case rel => exact ⟨k + 1, a9, c9, rows ++ [⟨a7, r.n, c7, v7, r.kind, v8⟩], by omega, by go_num, HPY.out, by rw [List.map_append, HMP.out, HTK.out]; exact congrArg (fun z => _ ++ [z]) (by show (qs v7, r.kind, v8.q) = _; rw [HV7.out.q, HQ8.out]; rfl), by rw [List.map_append, HMN.out, HTN.out]; rfl, HBY.out, HBRY.out, HBQY.out⟩
    case measure => simp [intOf]; omega
   ·
    skip
    go_simp
    have hlo := HLO.out wd HPB.out.bel
    refine (mk10_any r.a r.n r.c r.fs wd hlo.sl hlo.len hlo.ok HLN.out).mono ?_
    rintro e V1 ⟨a7, c7, v7, rfl, hv⟩
    have hb := hv.bel
    have HV7 := Lib.hid (hv.rebase HPB.out.bel)
    have HA7 := Lib.hid (show ∀ z, (Value.slice a7 r.n c7).ownBlock = some z → wd.heap.size ≤ z from fun z hz => (hv.mid.lt z hz).1)
    clear hv hlo
    replace HPB := Lib.hid (HPB.out.call hb)
    replace HBX := Lib.hid ((hb.block pb (lt_of_block HBX.out)).trans HBX.out)
    replace HBR := Lib.hid ((hb.block zb (lt_of_block HBR.out)).trans HBR.out)
    replace HBQ := Lib.hid ((hb.block qb (lt_of_block HBQ.out)).trans HBQ.out)
    have hKK := And.intro (cell_of_block (j := 1) HBQ.out rfl) (HCEL.out _ HPB.out.bel)
    clear hb
    refine hK.out _ _ (hKK) (fun hHeld2 => ?_)
    clear hK K hHeld
    rename _ => hHeld
    try simp only [Act.put, stB, stZ, stS]
    refine wpAnyH_ready (rs := [1, 21]) (by kernel_rfl) (by simp) ?_
    refine (AllReadyH.cons rfl (fun K hK => ?_) (AllReadyH.cons rfl (fun K hK => ?_) AllReadyH.nil))
    ·
     skip
     have c1 := cell_of_block (j := 1) HBX.out rfl
     go_simp
     clear c1
     refine hK.out _ _ (hHeld) (fun hHeld2 => ?_)
     clear hK K hHeld
     rename _ => hHeld
     try simp only [Act.put, stB, stZ, stS]
     refine wpAnyH_ready (rs := [21]) (by kernel_rfl) (by simp) ?_
     refine (AllReadyH.cons rfl (fun K hK => ?_) AllReadyH.nil)
     go_simp
     refine (One_any r.rhs.1 r.rhs.2 V1 HRI.out.1 HRI.out.2).mono ?_
     rintro e V2 ⟨v8, rfl, ho, hq, hb⟩
     unfold Rv.val
     have HO8 := Lib.hid ho
     have HQ8 := Lib.hid hq
     replace HV7 := Lib.hid (HV7.out.call hb)
     clear ho hq
     replace HPB := Lib.hid (HPB.out.call hb)
     replace HBX := Lib.hid ((hb.block pb (lt_of_block HBX.out)).trans HBX.out)
     replace HBR := Lib.hid ((hb.block zb (lt_of_block HBR.out)).trans HBR.out)
     replace HBQ := Lib.hid ((hb.block qb (lt_of_block HBQ.out)).trans HBQ.out)
     have hKK := And.intro (cell_of_block (j := 1) HBQ.out rfl) (HCEL.out _ HPB.out.bel)
     clear hb
     refine hK.out _ _ (hKK) (fun hHeld2 => ?_)
     clear hK K hHeld
     rename _ => hHeld
     try simp only [Act.put, stB, stZ, stS]
     refine tk 22 (some 38) (v := ?_) rfl rfl ?_ ?_
     rotate_left
     ·
      (intro w _; go_simp; (try with_reducible rfl))
     simp only [Act.put, stB, stZ, stS]
     refine wpAnyH_ready (rs := [23]) (by kernel_rfl) (by simp) ?_
     refine (AllReadyH.cons rfl (fun K hK => ?_) AllReadyH.nil)
     go_simp
     have hb := belowBox V2 (.cells #[.slice a7 r.n c7, .int .i64 r.kind, .bool v8.s, .slice v8.a v8.l v8.c, .slice v8.b v8.m v8.d] 45)
     have HBX2 := Lib.hid ((hb.block pb (lt_of_block HBX.out)).trans HBX.out)
     have HM3 := Lib.hid (HPB.out.mid.alloc (.cells #[.slice a7 r.n c7, .int .i64 r.kind, .bool v8.s, .slice v8.a v8.l v8.c, .slice v8.b v8.m v8.d] 45))
     have HS3 := Lib.hid (show Src Try.prog 5 29 (.slice (some ⟨V2.heap.size, 0, none⟩) 1 1) 1 [.slice a7 r.n c7, .int .i64 r.kind, .bool v8.s, .slice v8.a v8.l v8.c, .slice v8.b v8.m v8.d] (V2.alloc (.cells #[.slice a7 r.n c7, .int .i64 r.kind, .bool v8.s, .slice v8.a v8.l v8.c, .slice v8.b v8.m v8.d] 45)) from
      (Sl.lit V2 45 5 1 [.slice a7 r.n c7, .int .i64 r.kind, .bool v8.s, .slice v8.a v8.l v8.c, .slice v8.b v8.m v8.d] (by unfold maxLen; omega) rfl).src (P := Try.prog) Try.underlying29 (fun u hu => by
       simp only [List.mem_cons, List.not_mem_nil, or_false] at hu
       rcases hu with rfl | rfl | rfl | rfl | rfl <;> rfl))
     have HW3 := Lib.hid (show w.heap.size ≤ (V2.alloc (.cells #[.slice a7 r.n c7, .int .i64 r.kind, .bool v8.s, .slice v8.a v8.l v8.c, .slice v8.b v8.m v8.d] 45)).heap.size by have := HPB.out.bel.size; simp; omega)
     have hKK := And.intro (hu hb (cell_of_block (j := 1) HBQ.out rfl)) (HCEL.out _ (bthen HPB.out.bel hb))
     clear hb
     refine hK.out _ _ (hKK) (fun hHeld2 => ?_)
     clear hK K hHeld
     rename _ => hHeld
     try simp only [Act.put, stB, stZ, stS]
     refine wpAnyH_ready (rs := [24]) (by kernel_rfl) (by simp) ?_
     refine (AllReadyH.cons rfl (fun K hK => ?_) AllReadyH.nil)
     refine step_append_mid (v := .slice pa k pc) (by rfl) _ _ 29 29 (by rfl) tp (.agg #[.slice none 0 0, .int .i64 0, .bool false, .slice none 0 0, .slice none 0 0]) 88 Try.underlying29 hp1 hp2 hp3 hp4 rfl (by rfl) HM3.out _ (by rfl) 1 _ HS3.out (by unfold maxLen; omega) (by omega) HW3.out ?_
     intro a9 c9 V4 hmo hgo hbo
     have hk := grown_keeps hgo
     have hf := Foreign.mid HPB.out.mid
     have HPX := Lib.hid (HPB.out.push (r := ⟨a7, r.n, c7, v7, r.kind, v8⟩) (show VB w (qs v7) a7 r.n c7 v7 V2 from ⟨HV7.out.mid, HV7.out.len, HV7.out.ok, rfl, HV7.out.bel⟩) HO8.out HKI.out (fun z hz q hq e => by have h1 := HA7.out z hz; have h2 := HLTW.out q hq z e; omega) (fun z hz e => by have h1 := HA7.out z hz; have h2 := HLTC.out z e; omega) hmo hgo)
     replace HBX := Lib.hid (hf.box hk (by decide) HBX.out)
     replace HBR := Lib.hid (hf.box hk (by decide) HBR.out)
     replace HBQ := Lib.hid (hf.box hk (by decide) HBQ.out)
     clear hmo hgo hbo hk hf
     try dsimp only
     refine hK.out _ _ (And.intro (cell_of_block (j := 1) HBQ.out rfl) (HCEL.out _ HPX.out.bel)) (fun hHeld2 => ?_)
     clear hK K hHeld
     rename _ => hHeld
     try simp only [Act.put, stB, stZ, stS]
     refine tk 25 (some 41) (v := ?_) rfl rfl ?_ ?_
     rotate_left
     ·
      (intro w _; go_simp; (try with_reducible rfl))
     simp only [Act.put, stB, stZ, stS]
     refine wpAnyH_ready (rs := [26]) (by kernel_rfl) (by simp) ?_
     refine (AllReadyH.cons rfl (fun K hK => ?_) AllReadyH.nil)
     have c1 := cell_of_block (j := 1) HBX.out rfl
     have f1 : V4.frozen? ⟨pb, 1, none⟩ = false := free_of_block HBX.out
     go_simp
     clear c1 f1
     have hk := Keeps.setCell V4 ⟨pb, 1, none⟩ (.slice a9 (k + 1) c9) (S := fun z => z = pb) rfl
     have hf := Foreign.one HBX.out HGP.out
     have HPY := Lib.hid (HPX.out.foreign hf hk (by decide) (by decide) (by decide))
     have HBY := Lib.hid (heap_setCell_same V4 pb 1 _ _ (.slice a9 (k + 1) c9) HBX.out)
     have HBRY := Lib.hid ((hk.block zb (lt_of_block HBR.out) HNE.out).trans HBR.out)
     have HBQY := Lib.hid (hf.box hk (by decide) HBQ.out)
     clear hk hf
     refine hK.out _ _ (And.intro (cell_of_block (j := 1) HBQY.out rfl) (HCEL.out _ HPY.out.bel)) (fun hHeld2 => ?_)
     clear hK K hHeld
     rename _ => hHeld
     try simp only [Act.put, stB, stZ, stS]
     refine wpAnyH_done (by kernel_rfl) ?_ _
     (try simp only [Exit.inBlock, Exit.then])
     clear hHeld
     go_wp2_with fail
     go_roundw
     case rel => exact ⟨k + 1, a9, c9, rows ++ [⟨a7, r.n, c7, v7, r.kind, v8⟩], by omega, by go_num, HPY.out, by rw [List.map_append, HMP.out, HTK.out]; exact congrArg (fun z => _ ++ [z]) (by show (qs v7, r.kind, v8.q) = _; rw [HV7.out.q, HQ8.out]; rfl), by rw [List.map_append, HMN.out, HTN.out]; rfl, HBY.out, HBRY.out, HBQY.out⟩
     case measure => simp [intOf]; omega
    ·
     skip
     go_simp
     refine (One_any r.rhs.1 r.rhs.2 V1 HRI.out.1 HRI.out.2).mono ?_
     rintro e V2 ⟨v8, rfl, ho, hq, hb⟩
     unfold Rv.val
     have HO8 := Lib.hid ho
     have HQ8 := Lib.hid hq
     replace HV7 := Lib.hid (HV7.out.call hb)
     clear ho hq
     replace HPB := Lib.hid (HPB.out.call hb)
     replace HBX := Lib.hid ((hb.block pb (lt_of_block HBX.out)).trans HBX.out)
     replace HBR := Lib.hid ((hb.block zb (lt_of_block HBR.out)).trans HBR.out)
     replace HBQ := Lib.hid ((hb.block qb (lt_of_block HBQ.out)).trans HBQ.out)
     have hKK := And.intro (cell_of_block (j := 1) HBQ.out rfl) (HCEL.out _ HPB.out.bel)
     clear hb
     refine hK.out _ _ (hKK) (fun hHeld2 => ?_)
     clear hK K hHeld
     rename _ => hHeld
     try simp only [Act.put, stB, stZ, stS]
     refine tk 22 (some 38) (v := ?_) rfl rfl ?_ ?_
     rotate_left
     ·
      (intro w _; go_simp; (try with_reducible rfl))
     simp only [Act.put, stB, stZ, stS]
     refine wpAnyH_ready (rs := [1, 23]) (by kernel_rfl) (by simp) ?_
     refine (AllReadyH.cons rfl (fun K hK => ?_) (AllReadyH.cons rfl (fun K hK => ?_) AllReadyH.nil))
     ·
      skip
      have c1 := cell_of_block (j := 1) HBX.out rfl
      go_simp
      clear c1
      refine hK.out _ _ (hHeld) (fun hHeld2 => ?_)
      clear hK K hHeld
      rename _ => hHeld
      try simp only [Act.put, stB, stZ, stS]
      refine wpAnyH_ready (rs := [23]) (by kernel_rfl) (by simp) ?_
      refine (AllReadyH.cons rfl (fun K hK => ?_) AllReadyH.nil)
      go_simp
      have hb := belowBox V2 (.cells #[.slice a7 r.n c7, .int .i64 r.kind, .bool v8.s, .slice v8.a v8.l v8.c, .slice v8.b v8.m v8.d] 45)
      have HBX2 := Lib.hid ((hb.block pb (lt_of_block HBX.out)).trans HBX.out)
      have HM3 := Lib.hid (HPB.out.mid.alloc (.cells #[.slice a7 r.n c7, .int .i64 r.kind, .bool v8.s, .slice v8.a v8.l v8.c, .slice v8.b v8.m v8.d] 45))
      have HS3 := Lib.hid (show Src Try.prog 5 29 (.slice (some ⟨V2.heap.size, 0, none⟩) 1 1) 1 [.slice a7 r.n c7, .int .i64 r.kind, .bool v8.s, .slice v8.a v8.l v8.c, .slice v8.b v8.m v8.d] (V2.alloc (.cells #[.slice a7 r.n c7, .int .i64 r.kind, .bool v8.s, .slice v8.a v8.l v8.c, .slice v8.b v8.m v8.d] 45)) from
       (Sl.lit V2 45 5 1 [.slice a7 r.n c7, .int .i64 r.kind, .bool v8.s, .slice v8.a v8.l v8.c, .slice v8.b v8.m v8.d] (by unfold maxLen; omega) rfl).src (P := Try.prog) Try.underlying29 (fun u hu => by
        simp only [List.mem_cons, List.not_mem_nil, or_false] at hu
        rcases hu with rfl | rfl | rfl | rfl | rfl <;> rfl))
      have HW3 := Lib.hid (show w.heap.size ≤ (V2.alloc (.cells #[.slice a7 r.n c7, .int .i64 r.kind, .bool v8.s, .slice v8.a v8.l v8.c, .slice v8.b v8.m v8.d] 45)).heap.size by have := HPB.out.bel.size; simp; omega)
      have hKK := And.intro (hu hb (cell_of_block (j := 1) HBQ.out rfl)) (HCEL.out _ (bthen HPB.out.bel hb))
      clear hb
      refine hK.out _ _ (hKK) (fun hHeld2 => ?_)
      clear hK K hHeld
      rename _ => hHeld
      try simp only [Act.put, stB, stZ, stS]
      refine wpAnyH_ready (rs := [24]) (by kernel_rfl) (by simp) ?_
      refine (AllReadyH.cons rfl (fun K hK => ?_) AllReadyH.nil)
      refine step_append_mid (v := .slice pa k pc) (by rfl) _ _ 29 29 (by rfl) tp (.agg #[.slice none 0 0, .int .i64 0, .bool false, .slice none 0 0, .slice none 0 0]) 88 Try.underlying29 hp1 hp2 hp3 hp4 rfl (by rfl) HM3.out _ (by rfl) 1 _ HS3.out (by unfold maxLen; omega) (by omega) HW3.out ?_
      intro a9 c9 V4 hmo hgo hbo
      have hk := grown_keeps hgo
      have hf := Foreign.mid HPB.out.mid
      have HPX := Lib.hid (HPB.out.push (r := ⟨a7, r.n, c7, v7, r.kind, v8⟩) (show VB w (qs v7) a7 r.n c7 v7 V2 from ⟨HV7.out.mid, HV7.out.len, HV7.out.ok, rfl, HV7.out.bel⟩) HO8.out HKI.out (fun z hz q hq e => by have h1 := HA7.out z hz; have h2 := HLTW.out q hq z e; omega) (fun z hz e => by have h1 := HA7.out z hz; have h2 := HLTC.out z e; omega) hmo hgo)
      replace HBX := Lib.hid (hf.box hk (by decide) HBX.out)
      replace HBR := Lib.hid (hf.box hk (by decide) HBR.out)
      replace HBQ := Lib.hid (hf.box hk (by decide) HBQ.out)
      clear hmo hgo hbo hk hf
      try dsimp only
      refine hK.out _ _ (And.intro (cell_of_block (j := 1) HBQ.out rfl) (HCEL.out _ HPX.out.bel)) (fun hHeld2 => ?_)
      clear hK K hHeld
      rename _ => hHeld
      try simp only [Act.put, stB, stZ, stS]
      refine tk 25 (some 41) (v := ?_) rfl rfl ?_ ?_
      rotate_left
      ·
       (intro w _; go_simp; (try with_reducible rfl))
      simp only [Act.put, stB, stZ, stS]
      refine wpAnyH_ready (rs := [26]) (by kernel_rfl) (by simp) ?_
      refine (AllReadyH.cons rfl (fun K hK => ?_) AllReadyH.nil)
      have c1 := cell_of_block (j := 1) HBX.out rfl
      have f1 : V4.frozen? ⟨pb, 1, none⟩ = false := free_of_block HBX.out
      go_simp
      clear c1 f1
      have hk := Keeps.setCell V4 ⟨pb, 1, none⟩ (.slice a9 (k + 1) c9) (S := fun z => z = pb) rfl
      have hf := Foreign.one HBX.out HGP.out
      have HPY := Lib.hid (HPX.out.foreign hf hk (by decide) (by decide) (by decide))
      have HBY := Lib.hid (heap_setCell_same V4 pb 1 _ _ (.slice a9 (k + 1) c9) HBX.out)
      have HBRY := Lib.hid ((hk.block zb (lt_of_block HBR.out) HNE.out).trans HBR.out)
      have HBQY := Lib.hid (hf.box hk (by decide) HBQ.out)
      clear hk hf
      refine hK.out _ _ (And.intro (cell_of_block (j := 1) HBQY.out rfl) (HCEL.out _ HPY.out.bel)) (fun hHeld2 => ?_)
      clear hK K hHeld
      rename _ => hHeld
      try simp only [Act.put, stB, stZ, stS]
      refine wpAnyH_done (by kernel_rfl) ?_ _
      (try simp only [Exit.inBlock, Exit.then])
      clear hHeld
      go_wp2_with fail
      go_roundw
      case rel => exact ⟨k + 1, a9, c9, rows ++ [⟨a7, r.n, c7, v7, r.kind, v8⟩], by omega, by go_num, HPY.out, by rw [List.map_append, HMP.out, HTK.out]; exact congrArg (fun z => _ ++ [z]) (by show (qs v7, r.kind, v8.q) = _; rw [HV7.out.q, HQ8.out]; rfl), by rw [List.map_append, HMN.out, HTN.out]; rfl, HBY.out, HBRY.out, HBQY.out⟩
      case measure => simp [intOf]; omega
     ·
      skip
      go_simp
      have hb := belowBox V2 (.cells #[.slice a7 r.n c7, .int .i64 r.kind, .bool v8.s, .slice v8.a v8.l v8.c, .slice v8.b v8.m v8.d] 45)
      have HBX2 := Lib.hid ((hb.block pb (lt_of_block HBX.out)).trans HBX.out)
      have HM3 := Lib.hid (HPB.out.mid.alloc (.cells #[.slice a7 r.n c7, .int .i64 r.kind, .bool v8.s, .slice v8.a v8.l v8.c, .slice v8.b v8.m v8.d] 45))
      have HS3 := Lib.hid (show Src Try.prog 5 29 (.slice (some ⟨V2.heap.size, 0, none⟩) 1 1) 1 [.slice a7 r.n c7, .int .i64 r.kind, .bool v8.s, .slice v8.a v8.l v8.c, .slice v8.b v8.m v8.d] (V2.alloc (.cells #[.slice a7 r.n c7, .int .i64 r.kind, .bool v8.s, .slice v8.a v8.l v8.c, .slice v8.b v8.m v8.d] 45)) from
       (Sl.lit V2 45 5 1 [.slice a7 r.n c7, .int .i64 r.kind, .bool v8.s, .slice v8.a v8.l v8.c, .slice v8.b v8.m v8.d] (by unfold maxLen; omega) rfl).src (P := Try.prog) Try.underlying29 (fun u hu => by
        simp only [List.mem_cons, List.not_mem_nil, or_false] at hu
        rcases hu with rfl | rfl | rfl | rfl | rfl <;> rfl))
      have HW3 := Lib.hid (show w.heap.size ≤ (V2.alloc (.cells #[.slice a7 r.n c7, .int .i64 r.kind, .bool v8.s, .slice v8.a v8.l v8.c, .slice v8.b v8.m v8.d] 45)).heap.size by have := HPB.out.bel.size; simp; omega)
      have hKK := And.intro (hu hb (cell_of_block (j := 1) HBQ.out rfl)) (HCEL.out _ (bthen HPB.out.bel hb))
      clear hb
      refine hK.out _ _ (hKK) (fun hHeld2 => ?_)
      clear hK K hHeld
      rename _ => hHeld
      try simp only [Act.put, stB, stZ, stS]
      refine wpAnyH_ready (rs := [1]) (by kernel_rfl) (by simp) ?_
      refine (AllReadyH.cons rfl (fun K hK => ?_) AllReadyH.nil)
      have c1 := cell_of_block (j := 1) HBX2.out rfl
      go_simp
      clear c1
      refine hK.out _ _ (hHeld) (fun hHeld2 => ?_)
      clear hK K hHeld
      rename _ => hHeld
      try simp only [Act.put, stB, stZ, stS]
      refine wpAnyH_ready (rs := [24]) (by kernel_rfl) (by simp) ?_
      refine (AllReadyH.cons rfl (fun K hK => ?_) AllReadyH.nil)
      refine step_append_mid (v := .slice pa k pc) (by rfl) _ _ 29 29 (by rfl) tp (.agg #[.slice none 0 0, .int .i64 0, .bool false, .slice none 0 0, .slice none 0 0]) 88 Try.underlying29 hp1 hp2 hp3 hp4 rfl (by rfl) HM3.out _ (by rfl) 1 _ HS3.out (by unfold maxLen; omega) (by omega) HW3.out ?_
      intro a9 c9 V4 hmo hgo hbo
      have hk := grown_keeps hgo
      have hf := Foreign.mid HPB.out.mid
      have HPX := Lib.hid (HPB.out.push (r := ⟨a7, r.n, c7, v7, r.kind, v8⟩) (show VB w (qs v7) a7 r.n c7 v7 V2 from ⟨HV7.out.mid, HV7.out.len, HV7.out.ok, rfl, HV7.out.bel⟩) HO8.out HKI.out (fun z hz q hq e => by have h1 := HA7.out z hz; have h2 := HLTW.out q hq z e; omega) (fun z hz e => by have h1 := HA7.out z hz; have h2 := HLTC.out z e; omega) hmo hgo)
      replace HBX := Lib.hid (hf.box hk (by decide) HBX.out)
      replace HBR := Lib.hid (hf.box hk (by decide) HBR.out)
      replace HBQ := Lib.hid (hf.box hk (by decide) HBQ.out)
      clear hmo hgo hbo hk hf
      try dsimp only
      refine hK.out _ _ (And.intro (cell_of_block (j := 1) HBQ.out rfl) (HCEL.out _ HPX.out.bel)) (fun hHeld2 => ?_)
      clear hK K hHeld
      rename _ => hHeld
      try simp only [Act.put, stB, stZ, stS]
      refine tk 25 (some 41) (v := ?_) rfl rfl ?_ ?_
      rotate_left
      ·
       (intro w _; go_simp; (try with_reducible rfl))
      simp only [Act.put, stB, stZ, stS]
      refine wpAnyH_ready (rs := [26]) (by kernel_rfl) (by simp) ?_
      refine (AllReadyH.cons rfl (fun K hK => ?_) AllReadyH.nil)
      have c1 := cell_of_block (j := 1) HBX.out rfl
      have f1 : V4.frozen? ⟨pb, 1, none⟩ = false := free_of_block HBX.out
      go_simp
      clear c1 f1
      have hk := Keeps.setCell V4 ⟨pb, 1, none⟩ (.slice a9 (k + 1) c9) (S := fun z => z = pb) rfl
      have hf := Foreign.one HBX.out HGP.out
      have HPY := Lib.hid (HPX.out.foreign hf hk (by decide) (by decide) (by decide))
      have HBY := Lib.hid (heap_setCell_same V4 pb 1 _ _ (.slice a9 (k + 1) c9) HBX.out)
      have HBRY := Lib.hid ((hk.block zb (lt_of_block HBR.out) HNE.out).trans HBR.out)
      have HBQY := Lib.hid (hf.box hk (by decide) HBQ.out)
      clear hk hf
      refine hK.out _ _ (And.intro (cell_of_block (j := 1) HBQY.out rfl) (HCEL.out _ HPY.out.bel)) (fun hHeld2 => ?_)
      clear hK K hHeld
      rename _ => hHeld
      try simp only [Act.put, stB, stZ, stS]
      refine wpAnyH_done (by kernel_rfl) ?_ _
      (try simp only [Exit.inBlock, Exit.then])
      clear hHeld
      go_wp2_with fail
      go_roundw
      case rel => exact ⟨k + 1, a9, c9, rows ++ [⟨a7, r.n, c7, v7, r.kind, v8⟩], by omega, by go_num, HPY.out, by rw [List.map_append, HMP.out, HTK.out]; exact congrArg (fun z => _ ++ [z]) (by show (qs v7, r.kind, v8.q) = _; rw [HV7.out.q, HQ8.out]; rfl), by rw [List.map_append, HMN.out, HTN.out]; rfl, HBY.out, HBRY.out, HBQY.out⟩
      case measure => simp [intOf]; omega
  ·
   obtain rfl : k = rn := by omega
   rw [List.take_of_length_le (by rw [List.length_map, HLEN.out]; exact Nat.le_refl _)] at hmp hmn
   replace HMP := Lib.hid hmp
   replace HMN := Lib.hid hmn
   have m0 := cell_of_block (j := 0) hbx rfl
   have m1 := cell_of_block (j := 1) hbx rfl
   have r0 := cell_of_block (j := 0) hbr rfl
   have r1 := cell_of_block (j := 1) hbr rfl
   have f0 : wr.frozen? ⟨zb, 0, none⟩ = false := free_of_block hbr
   have f1 : wr.frozen? ⟨zb, 1, none⟩ = false := free_of_block hbr
   clear hpr hmp hmn hbx hbr hbq
   go_wp2_with fail
   have s1 := heap_setCell_same wr zb 0 _ _ (.slice ca cn cc) HBR.out
   have s2 := heap_setCell_same _ zb 1 _ _ (.slice pa k pc) s1
   have j0 := cell_of_block (j := 0) s2 rfl
   have j1 := cell_of_block (j := 1) s2 rfl
   refine bodyPost_ret (v := .agg #[.slice ca cn cc, .slice pa k pc]) (by simp [results, Try.results9, go_sem, j0, j1]) rfl ?_
   have hk2 := (Keeps.setCell wr ⟨zb, 0, none⟩ (.slice ca cn cc) (S := fun z => z = zb) rfl).trans (Keeps.setCell _ ⟨zb, 1, none⟩ (.slice pa k pc) (S := fun z => z = zb) rfl) fun _ _ h => h
   exact ⟨ca, cc, pa, pc, cs, rows, rfl, HPB.out.foreign (Foreign.one HBR.out HGZ.out) hk2 (by decide) (by decide) (by decide), HCQ.out, HMP.out, HMN.out⟩
end Go.Proofs.Ytndndfobkbeolaa
namespace Go.Proofs.Ytndndfobkbeolaa
open Go.RowKit Go.Extern.Stop Go.Stop Go.Extern
theorem Sl.cut {w : World} {size n : Nat} {a : Option Addr} {c : Nat} {cs : List Value} (h : Sl w size (.slice a n c) n cs) (m : Nat) (hm : m ≤ n) : Sl w size (.slice a m c) m (cs.take (m * size)) := by
 have hl : m * size ≤ n * size := Nat.mul_le_mul_right _ hm
 refine ⟨by rw [List.length_take, h.1]; omega, ?_⟩
 rcases h.2 with ⟨a1, c1, e, h0, h1, h2⟩ | ⟨b, o, c1, e, h1, h2, h3, h4⟩
 ·
  cases e
  exact .inl ⟨a, c, by rw [show m = 0 by omega], by omega, h1, h2⟩
 ·
  cases e
  refine .inr ⟨b, o, c, rfl, by omega, h2, h3, fun j u hj => h4 j u ?_⟩
  rw [List.getElem?_take] at hj
  split at hj
  ·
   exact hj
  ·
   cases hj
theorem Mid.cut {w : World} {base : Nat} {e : TypeId} {size n : Nat} {a : Option Addr} {c : Nat} {xs : List Value} (h : Mid w base e size (.slice a n c) n xs) (m : Nat) (hm : m ≤ n) : Mid w base e size (.slice a m c) m (xs.take (m * size)) := by
 have hl : m * size ≤ n * size := Nat.mul_le_mul_right _ hm
 refine ⟨by rw [List.length_take, h.1]; omega, ?_⟩
 rcases h.2 with ⟨hv, h0⟩ | ⟨g, o, cap, cur, hv, hb, hg, hn, hx, hc, ht⟩
 ·
  cases hv
  exact .inl ⟨by rw [show m = 0 by omega], by omega⟩
 ·
  cases hv
  refine .inr ⟨g, o, c, cur, rfl, hb, hg, by omega, hx, hc, ?_⟩
  rw [← ht, List.take_take, Nat.min_eq_left hl]
theorem flat_take {α : Type} (f : α → List Value) (k : Nat) (hk : ∀ x, (f x).length = k) (l : List α) (m : Nat) : (l.flatMap f).take (m * k) = (l.take m).flatMap f := by
 induction m generalizing l with
 | zero => simp
 | succ m ih =>
  cases l with
  | nil => simp
  | cons x l =>
   rw [List.flatMap_cons, List.take_succ_cons, List.flatMap_cons, Nat.succ_mul, Nat.add_comm (m * k) k, ← hk x, List.take_length_add_append, hk x, ih]
theorem FrW.cut {w : World} {a : Option Addr} {n c : Nat} {fs : List Fr} (h : FrW w a n c fs) (m : Nat) (hm : m ≤ n) : FrW w a m c (fs.take m) :=
 ⟨by rw [List.length_take, h.len]; omega, by rw [← flat_take frCells 2 frCells_len]; exact h.sl.cut m hm, fun v hv => h.ok v (List.mem_of_mem_take hv)⟩
theorem RawW.cut {w : World} {ca : Option Addr} {cn cc : Nat} {ra : Option Addr} {rn rc : Nat} {cost : List Fr} {lines : List LRow} (h : RawW w ca cn cc ra rn rc cost lines) (i j : Nat) (hi : i ≤ cn) (hj : j ≤ rn) : RawW w ca i cc ra j rc (cost.take i) (lines.take j) :=
 ⟨h.cost.cut i hi, by rw [List.length_take, h.len]; omega, by rw [← flat_take lineCells 4 lineCells_len]; exact h.sl.cut j hj, fun r hr => h.ok r (List.mem_of_mem_take hr)⟩
section
variable {w0 W W' : World} {l : List Rat} {a : Option Addr} {n c : Nat} {vs : List Rv} {S : Nat → Prop}
theorem VB.keeps (h : VB w0 l a n c vs W) (hk : Keeps W W' S) (hn : ∀ z, (Value.slice a n c).ownBlock = some z → ¬ S z) (hw : ∀ z, S z → ¬ WordB W z) (hg : ∀ z, S z → w0.heap.size ≤ z) : VB w0 l a n c vs W' :=
 ⟨h.mid.keeps hk hn, h.len, fun v hv => (h.ok v hv).keeps hk hw, h.q, h.bel.trans (hk.below h.bel.size hg)⟩
theorem VB.cut (h : VB w0 l a n c vs W) (m : Nat) (hm : m ≤ n) : VB w0 (l.take m) a m c (vs.take m) W :=
 ⟨by rw [← flat_take Rv.cells 3 rvCells_len]; exact h.mid.cut m hm, by rw [List.length_take, h.len]; omega, fun v hv => h.ok v (List.mem_of_mem_take hv), by rw [← h.q]; unfold qs; rw [List.map_take], h.bel⟩
end
structure PrP (w0 : World) (ca : Option Addr) (cn cc : Nat) (cs : List Rv) (rows : List PRow) (W : World) : Prop where
 cost : VB w0 (qs cs) ca cn cc cs W
 ok : ∀ r, r ∈ rows → VB w0 (qs r.coef) r.a r.n r.c r.coef W ∧ r.rhs.ok W ∧ I64 r.kind ∧ ApartS r.a r.n r.c ca cn cc
 nod : rows.Pairwise fun r s => ApartS r.a r.n r.c s.a s.n s.c
 bel : Below w0.heap.size w0 W
section
variable {w0 W W' : World} {ca : Option Addr} {cn cc : Nat} {ra : Option Addr} {rn rc : Nat} {cs : List Rv} {rows : List PRow} {S : Nat → Prop}
theorem PrB.p (h : PrB w0 ca cn cc ra rn rc cs rows W) : PrP w0 ca cn cc cs rows W := ⟨h.cost, h.ok, h.nod, h.bel⟩
theorem PrP.b (h : PrP w0 ca cn cc cs rows W) (hm : Mid W w0.heap.size 45 5 (.slice ra rn rc) rn (rows.flatMap prowCells)) (hl : rows.length = rn) : PrB w0 ca cn cc ra rn rc cs rows W := ⟨h.cost, hm, hl, h.ok, h.nod, h.bel⟩
theorem PrP.call (h : PrP w0 ca cn cc cs rows W) (hb : Below W.heap.size W W') : PrP w0 ca cn cc cs rows W' :=
 ⟨h.cost.call hb, fun r hr => ⟨(h.ok r hr).1.call hb, (h.ok r hr).2.1.below hb, (h.ok r hr).2.2⟩, h.nod, bthen h.bel hb⟩
theorem PrP.foreign {U : TypeId} (h : PrP w0 ca cn cc cs rows W) (hf : Foreign W w0.heap.size U S) (hk : Keeps W W' S) (h1 : 40 ≠ U) (h3 : U ≠ 128) : PrP w0 ca cn cc cs rows W' :=
 ⟨h.cost.foreign hf hk h1 h3, fun r hr => ⟨(h.ok r hr).1.foreign hf hk h1 h3, hf.rv hk h3 (h.ok r hr).2.1, (h.ok r hr).2.2⟩, h.nod, h.bel.trans (hk.below h.bel.size hf.ge)⟩
theorem ApartS.symm {a a' : Option Addr} {n c n' c' : Nat} (h : ApartS a n c a' n' c') : ApartS a' n' c' a n c := fun z h1 h2 => h z h2 h1
theorem PrP.apart (h : PrP w0 ca cn cc cs rows W) {i j : Nat} {r s : PRow} (hi : rows[i]? = some r) (hj : rows[j]? = some s) (hne : i ≠ j) : ApartS r.a r.n r.c s.a s.n s.c := by
 obtain ⟨hi1, hi2⟩ := List.getElem?_eq_some_iff.1 hi
 obtain ⟨hj1, hj2⟩ := List.getElem?_eq_some_iff.1 hj
 have hp := List.pairwise_iff_getElem.1 h.nod
 rcases Nat.lt_or_gt_of_ne hne with hlt | hlt
 ·
  have := hp i j hi1 hj1 hlt; rw [hi2, hj2] at this; exact this
 ·
  have := hp j i hj1 hi1 hlt; rw [hi2, hj2] at this; exact this.symm
theorem PrP.upd (h : PrP w0 ca cn cc cs rows W) {k : Nat} {r r' : PRow} (hr : rows[k]? = some r) (hk : Keeps W W' fun z => (Value.slice r.a r.n r.c).ownBlock = some z) (hv : VB w0 (qs r'.coef) r'.a r'.n r'.c r'.coef W') (hq : r'.rhs.ok W') (hi : I64 r'.kind)
  (ho : ∀ z, (Value.slice r'.a r'.n r'.c).ownBlock = some z → (Value.slice r.a r.n r.c).ownBlock = some z ∨ W.heap.size ≤ z) : PrP w0 ca cn cc cs (rows.set k r') W' := by
 obtain ⟨hk1, hk2⟩ := List.getElem?_eq_some_iff.1 hr
 have hmem := List.mem_of_getElem? hr
 obtain ⟨q1, q2, q3, q4⟩ := h.ok r hmem
 have hw : ∀ z, (Value.slice r.a r.n r.c).ownBlock = some z → ¬ WordB W z := fun z hz => q1.mid.noWord (by decide) z hz
 have hg : ∀ z, (Value.slice r.a r.n r.c).ownBlock = some z → w0.heap.size ≤ z := fun z hz => (q1.mid.lt z hz).1
 have hoc : ApartS r'.a r'.n r'.c ca cn cc := fun z h1 h2 => by
  rcases ho z h1 with h3 | h3
  ·
   exact q4 z h3 h2
  ·
   have := (h.cost.mid.lt z h2).2; omega
 have hos : ∀ j s, rows[j]? = some s → j ≠ k → ApartS r'.a r'.n r'.c s.a s.n s.c := fun j s hj hne z h1 h2 => by
  rcases ho z h1 with h3 | h3
  ·
   exact h.apart hr hj (fun e => hne e.symm) z h3 h2
  ·
   have := ((h.ok s (List.mem_of_getElem? hj)).1.mid.lt z h2).2; omega
 refine ⟨h.cost.keeps hk (fun z h1 h2 => q4 z h2 h1) hw hg, fun s hs => ?_, ?_, h.bel.trans (hk.below h.bel.size hg)⟩
 ·
  obtain ⟨j, hj⟩ := List.mem_iff_getElem?.1 hs
  rw [List.getElem?_set] at hj
  by_cases hkj : k = j
  ·
   rw [if_pos hkj] at hj
   rw [if_pos hk1] at hj
   cases hj
   exact ⟨hv, hq, hi, hoc⟩
  ·
   rw [if_neg hkj] at hj
   obtain ⟨p1, p2, p3, p4⟩ := h.ok s (List.mem_of_getElem? hj)
   exact ⟨p1.keeps hk (fun z h1 h2 => h.apart hr hj hkj z h2 h1) hw hg, p2.keeps hk hw, p3, p4⟩
 ·
  refine List.pairwise_iff_getElem.2 fun i j h1 h2 hlt => ?_
  rw [List.length_set] at h1 h2
  rw [List.getElem_set, List.getElem_set]
  by_cases e1 : k = i
  ·
   rw [if_pos e1, if_neg (by omega)]
   exact hos j _ (List.getElem?_eq_getElem h2) (by omega)
  ·
   rw [if_neg e1]
   by_cases e2 : k = j
   ·
    rw [if_pos e2]
    exact (hos i _ (List.getElem?_eq_getElem h1) (by omega)).symm
   ·
    rw [if_neg e2]
    exact List.pairwise_iff_getElem.1 h.nod i j h1 h2 hlt
theorem prow_set0 (rows : List PRow) (k : Nat) (hk : k < rows.length) (r : PRow) (a : Option Addr) (n c : Nat) (vs : List Rv) (hr : rows[k] = r) : (rows.set k ⟨a, n, c, vs, r.kind, r.rhs⟩).flatMap prowCells = (rows.flatMap prowCells).set (k * 5 + 0) (.slice a n c) :=
 flat_set prowCells 5 prowCells_len rows k hk _ 0 (by omega) _ (by rw [hr]; rfl)
theorem prow_set1 (rows : List PRow) (k : Nat) (hk : k < rows.length) (r : PRow) (kd : Int) (hr : rows[k] = r) : (rows.set k ⟨r.a, r.n, r.c, r.coef, kd, r.rhs⟩).flatMap prowCells = (rows.flatMap prowCells).set (k * 5 + 1) (.int .i64 kd) :=
 flat_set prowCells 5 prowCells_len rows k hk _ 1 (by omega) _ (by rw [hr]; rfl)
end
end Go.Proofs.Ytndndfobkbeolaa
namespace Go.Proofs.Ytndndfobkbeolaa
open Go.RowKit Go.Extern.Stop Go.Stop Go.Extern
def fillQ (m n : Nat) : List Rat := (List.range' m (n - m)).map fun i : Nat => ((i : Int) : Rat)
def rightL (n : Nat) (l : List Rat) : List Rat := (l ++ fillQ l.length n).take n
def kindR (x : Int) : Int := 1 + x % 18446744073709551616 % 3
def rightQ (n : Nat) (t : List Rat × Int × Rat) : List Rat × Int × Rat := (rightL n t.1, kindR t.2.1, t.2.2)
theorem fillQ_nil (n : Nat) : fillQ n n = [] := by unfold fillQ; simp
theorem fillQ_step (m n : Nat) (h : m ≤ n) : fillQ m (n + 1) = fillQ m n ++ [((n : Int) : Rat)] := by
 unfold fillQ
 rw [show n + 1 - m = (n - m) + 1 by omega, List.range'_concat, List.map_append]
 show _ ++ [((((m + 1 * (n - m) : Nat)) : Int) : Rat)] = _
 rw [show m + 1 * (n - m) = n by omega]
theorem rightL_of (l : List Rat) (m n : Nat) (h1 : l.length ≤ n) (h2 : m ≤ n) (h3 : n ≤ m ∨ n = l.length) : (l ++ fillQ l.length n).take m = rightL m l := by
 unfold rightL
 rcases h3 with h3 | h3
 ·
  rw [show n = m by omega]
 ·
  subst h3
  rw [fillQ_nil, show fillQ l.length m = [] by unfold fillQ; rw [show m - l.length = 0 by omega]; rfl]
theorem prow_same {rows : List PRow} {k : Nat} {r : PRow} (h : rows[k]? = some r) : rows.set k ⟨r.a, r.n, r.c, r.coef, r.kind, r.rhs⟩ = rows := by
 obtain ⟨h1, h2⟩ := List.getElem?_eq_some_iff.1 h
 subst h2
 exact List.set_getElem_self h1
theorem Mid.prow {W : World} {base b o n c : Nat} {rows : List PRow} {k : Nat} {r : PRow} (h : Mid W base 45 5 (.slice (some ⟨b, o, none⟩) n c) n (rows.flatMap prowCells)) (hr : rows[k]? = some r) :
  W.cell? ⟨b, o + k * 5, none⟩ = some (.slice r.a r.n r.c) ∧ W.cell? ⟨b, o + k * 5 + 1, none⟩ = some (.int .i64 r.kind) ∧ W.cell? ⟨b, o + k * 5 + 2, none⟩ = some (.bool r.rhs.s) ∧ W.cell? ⟨b, o + k * 5 + 3, none⟩ = some (.slice r.rhs.a r.rhs.l r.rhs.c) ∧ W.cell? ⟨b, o + k * 5 + 4, none⟩ = some (.slice r.rhs.b r.rhs.m r.rhs.d) := by
 obtain ⟨h1, h2⟩ := List.getElem?_eq_some_iff.1 hr
 subst h2
 have hc := fun j u hj => h.cell _ u (flat_at prowCells 5 prowCells_len rows k h1 j u hj)
 have c0 := hc 0 _ rfl
 have c1 := hc 1 _ rfl
 have c2 := hc 2 _ rfl
 have c3 := hc 3 _ rfl
 have c4 := hc 4 _ rfl
 simp only [← Nat.add_assoc, Nat.add_zero] at c0 c1 c2 c3 c4
 exact ⟨c0, c1, c2, c3, c4⟩
theorem step_map {α : Type} (R : α → α) (A : List α) (k : Nat) (x : α) (hk : A[k]? = some x) : ((A.take k).map R ++ A.drop k).set k (R x) = (A.take (k + 1)).map R ++ A.drop (k + 1) := by
 obtain ⟨h1, h2⟩ := List.getElem?_eq_some_iff.1 hk
 have hl : ((A.take k).map R).length = k := by rw [List.length_map, List.length_take]; omega
 rw [List.set_append_right _ _ (by omega), hl, Nat.sub_self, List.drop_eq_getElem_cons h1, List.set_cons_zero, List.take_succ_eq_append_getElem h1, h2, List.map_append, List.append_assoc]
 rfl
theorem step_at {α : Type} (R : α → α) (A : List α) (k : Nat) : ((A.take k).map R ++ A.drop k)[k]? = A[k]? := by
 by_cases h : k < A.length
 ·
  have hl : ((A.take k).map R).length = k := by rw [List.length_map, List.length_take]; omega
  rw [List.getElem?_append_right (by omega), hl, Nat.sub_self, List.getElem?_drop, Nat.add_zero]
 ·
  rw [List.getElem?_eq_none (l := A) (by omega)]
  exact List.getElem?_eq_none (by simp; omega)
theorem own_len (a : Option Addr) (n c n' c' : Nat) : (Value.slice a n c).ownBlock = (Value.slice a n' c').ownBlock := by cases a <;> rfl
theorem qs_app (vs : List Rv) (v : Rv) : qs (vs ++ [v]) = qs vs ++ [v.q] := by unfold qs; rw [List.map_append]; rfl
theorem qs_take (vs : List Rv) (m : Nat) : qs (vs.take m) = (qs vs).take m := by unfold qs; rw [List.map_take]
def sliceLen (v : Value) : Nat := match v with | .slice _ n _ => n | _ => 0
theorem PrB.rebase {w w1 W : World} {ca : Option Addr} {cn cc : Nat} {ra : Option Addr} {rn rc : Nat} {cs : List Rv} {rows : List PRow} (h : PrB w1 ca cn cc ra rn rc cs rows W) (hb : Below w.heap.size w w1) : PrB w ca cn cc ra rn rc cs rows W :=
 ⟨h.cost.rebase hb, h.mid.mono hb.size, h.len, fun r hr => ⟨(h.ok r hr).1.rebase hb, (h.ok r hr).2⟩, h.nod, bthen hb h.bel⟩
theorem kind_eq (x : Int) : wrap64 (IntKind.u64.wrap (1 + (IntKind.u64.wrap x).tmod 3)) = kindR x := by
 have h0 : IntKind.u64.wrap x = x % 18446744073709551616 := by simp [IntKind.wrap, IntKind.bits, IntKind.signed]
 have h1 : 0 ≤ x % 18446744073709551616 := Int.emod_nonneg _ (by decide)
 rw [h0, Int.tmod_eq_emod_of_nonneg h1]
 unfold kindR
 have h2 : 0 ≤ x % 18446744073709551616 % 3 := Int.emod_nonneg _ (by decide)
 have h3 : x % 18446744073709551616 % 3 < 3 := Int.emod_lt_of_pos _ (by decide)
 generalize x % 18446744073709551616 % 3 = y at h2 h3 ⊢
 rw [show IntKind.u64.wrap (1 + y) = (1 + y) % 18446744073709551616 by simp [IntKind.wrap, IntKind.bits, IntKind.signed]]
 unfold wrap64
 omega
theorem kindR_ok (x : Int) : 1 ≤ kindR x ∧ kindR x ≤ 3 := by
 unfold kindR; omega
def RightR (cn rn : Nat) (cost : List Fr) (lines : List LRow) (w : World) (e : Ending) (w' : World) : Prop := ∃ ca cc ra rc cs rows, e = .returned (.agg #[.slice ca cn cc, .slice ra rn rc]) ∧ PrB w ca cn cc ra rn rc cs rows w' ∧ qs cs = cost.map fracQ ∧ rows.map prowQ = (lines.map lineQ).map (rightQ cn)
set_option maxRecDepth 100000 in
set_option maxHeartbeats 16000000 in
theorem right_any (xa : Option Addr) (cn xc : Nat) (ra : Option Addr) (rn rc : Nat) (cost : List Fr) (lines : List LRow) (w : World) (h : RawW w xa cn xc ra rn rc cost lines) (hln : ∀ r, r ∈ lines → r.n ≤ 1100000) :
  Calls Try.prog 20 #[.agg #[.slice xa cn xc, .slice ra rn rc]] w (RightR (min cn 5) (min rn 4) (cost.take (min cn 5)) (lines.take (min rn 4)) w) := by
 obtain ⟨tr, hi, hz0, hz1, hz2⟩ := info_parts Try.infoRat
 have hcI := h.cost.sl.lenI
 have hlI := h.sl.lenI
 obtain ⟨w1, hw1⟩ : ∃ w1, (w.alloc (.cells #[.slice xa cn xc, .slice ra rn rc] 25)).alloc (.cells #[.slice none 0 0, .slice none 0 0] 31) = w1 := ⟨_, rfl⟩
 have hq1 : w1.heap[w.heap.size]? = some (.cells #[.slice xa cn xc, .slice ra rn rc] 25 (0, 0)) := by rw [← hw1]; exact (heap2 w _ _).1
 have hz1 : w1.heap[w.heap.size + 1]? = some (.cells #[.slice none 0 0, .slice none 0 0] 31 (0, 0)) := by rw [← hw1]; exact (heap2 w _ _).2
 have hb1 : Below w.heap.size w w1 := by rw [← hw1]; exact belowBox2 w _ _
 obtain ⟨zb, hzb⟩ : ∃ zb, w.heap.size + 1 = zb := ⟨_, rfl⟩
 obtain ⟨qb, hqb⟩ : ∃ qb, w.heap.size = qb := ⟨_, rfl⟩
 have HGZ := Lib.hid (show w.heap.size ≤ zb by omega)
 have HGQ := Lib.hid (show w.heap.size ≤ qb by omega)
 have HZQ := Lib.hid (show zb ≠ qb by omega)
 rw [hzb] at hz1
 rw [hqb] at hq1
 have HRW := Lib.hid h
 have HLNS := Lib.hid hln
 have HBQ := Lib.hid hq1
 have HBR := Lib.hid hz1
 have HB1 := Lib.hid hb1
 have HW1 := Lib.hid hw1
 have HZE := Lib.hid hzb
 have HQE := Lib.hid hqb
 clear h hln hq1 hz1 hb1 hw1 hzb hqb
 go_enter Try.func20, Try.ntmps20
 go_upto_region 1 with fail
 (try simp only [HW1.out])
 (try simp only [HZE.out])
 (try simp only [HQE.out])
 clear HW1 HZE HQE
 have q0 := cell_of_block (j := 0) HBQ.out rfl
 have fq : w1.frozen? ⟨qb, 0, none⟩ = false := free_of_block HBQ.out
 go_upto_if 9 with fail
 go_cut [] (fun wx => wx.heap[qb]? = some (.cells #[.slice xa (min cn 5) xc, .slice ra rn rc] 25 (0, 0)) ∧ wx.heap[zb]? = some (.cells #[.slice none 0 0, .slice none 0 0] 31 (0, 0)) ∧ Below w.heap.size w wx)
 case first =>
  by_cases hc : 5 < cn
  ·
   go_wp2_with fail
   go_meet
   have hk := Keeps.setCell w1 ⟨qb, 0, none⟩ (.slice xa 5 xc) (S := fun z => z = qb) rfl
   exact ⟨by rw [show min cn 5 = 5 by omega]; exact heap_setCell_same w1 qb 0 _ _ (.slice xa 5 xc) HBQ.out, (hk.block zb (lt_of_block HBR.out) HZQ.out).trans HBR.out, HB1.out.trans (hk.below HB1.out.size fun z hz => by rw [hz]; exact HGQ.out)⟩
  ·
   go_wp2_with fail
   go_meet
   rw [Nat.min_eq_left (by omega)]
   exact ⟨HBQ.out, HBR.out, HB1.out⟩
 case' rest =>
  obtain ⟨w2, rfl⟩ : ∃ w2 : World, w2 = wc := ⟨_, rfl⟩
  obtain ⟨hbq, hbr, hb1⟩ := hcut
  obtain ⟨m, hm⟩ : ∃ m, min cn 5 = m := ⟨_, rfl⟩
  have hm2 : m ≤ 5 := by omega
  have hm3 : m ≤ cn := by omega
  rw [hm] at hbq
  have HEm := Lib.hid hm
  replace HBQ := Lib.hid hbq
  replace HBR := Lib.hid hbr
  replace HB1 := Lib.hid hb1
  clear hbq hbr hb1 q0 fq hm
 have q1 := cell_of_block (j := 1) HBQ.out rfl
 have fq : w2.frozen? ⟨qb, 1, none⟩ = false := free_of_block HBQ.out
 go_upto_if 17 with fail
 go_cut [] (fun wx => wx.heap[qb]? = some (.cells #[.slice xa m xc, .slice ra (min rn 4) rc] 25 (0, 0)) ∧ wx.heap[zb]? = some (.cells #[.slice none 0 0, .slice none 0 0] 31 (0, 0)) ∧ Below w.heap.size w wx)
 case first =>
  by_cases hc : 4 < rn
  ·
   go_wp2_with fail
   go_meet
   have hk := Keeps.setCell w2 ⟨qb, 1, none⟩ (.slice ra 4 rc) (S := fun z => z = qb) rfl
   exact ⟨by rw [show min rn 4 = 4 by omega]; exact heap_setCell_same w2 qb 1 _ _ (.slice ra 4 rc) HBQ.out, (hk.block zb (lt_of_block HBR.out) HZQ.out).trans HBR.out, HB1.out.trans (hk.below HB1.out.size fun z hz => by rw [hz]; exact HGQ.out)⟩
  ·
   go_wp2_with fail
   go_meet
   rw [Nat.min_eq_left (by omega)]
   exact ⟨HBQ.out, HBR.out, HB1.out⟩
 case' rest =>
  obtain ⟨w3, rfl⟩ : ∃ w3 : World, w3 = wc := ⟨_, rfl⟩
  obtain ⟨hbq, hbr, hb1⟩ := hcut
  obtain ⟨n, hn⟩ : ∃ n, min rn 4 = n := ⟨_, rfl⟩
  have hn2 : n ≤ 4 := by omega
  have hn3 : n ≤ rn := by omega
  rw [hn] at hbq
  have HEn := Lib.hid hn
  replace HBQ := Lib.hid hbq
  replace HBR := Lib.hid hbr
  replace HB1 := Lib.hid hb1
  clear hbq hbr hb1 q1 fq hn
 have q0 := cell_of_block (j := 0) HBQ.out rfl
 have q1 := cell_of_block (j := 1) HBQ.out rfl
 obtain ⟨ls, hls⟩ : ∃ ls, lines.take n = ls := ⟨_, rfl⟩
 obtain ⟨cst, hcst⟩ : ∃ cst, cost.take m = cst := ⟨_, rfl⟩
 have hraw := (HRW.out.below HB1.out).cut m n hm3 hn3
 have hlns : ∀ r, r ∈ lines.take n → r.n ≤ 1100000 := fun r hr => HLNS.out r (List.mem_of_mem_take hr)
 rw [hls] at hraw hlns
 rw [hcst] at hraw
 have HELS := Lib.hid hls
 have HECS := Lib.hid hcst
 have HMK := Lib.hid (make_any xa m xc ra n rc cst ls w3 hraw (by omega) (by omega) hlns)
 have HLL := Lib.hid hraw.len
 clear hraw hlns hls hcst HRW HLNS hcI hlI
 go_wp2_with fail
 clear q0 q1
 refine HMK.out.mono ?_
 rintro e w4 ⟨ca, cc, pa, pc, cs, rows0, rfl, hpr, hqc, hmp, -⟩
 have hal := belowBox w4 (.cells #[.slice ca m cc, .slice pa n pc] 31)
 have hzz := (hpr.bel.block zb (lt_of_block HBR.out)).trans HBR.out
 have HPB := Lib.hid ((hpr.rebase HB1.out).call hal)
 replace HBR := Lib.hid ((hal.block zb (lt_of_block hzz)).trans hzz)
 have HBX := Lib.hid (heap_alloc_new w4 (.cells #[.slice ca m cc, .slice pa n pc] 31))
 have HNE := Lib.hid (Nat.ne_of_lt (lt_of_block hzz))
 have HCQ := Lib.hid hqc
 have HMP := Lib.hid hmp
 clear hpr hal hzz hqc hmp HMK HB1 HBQ HGQ HZQ
 go_upto_region 6 with fail
 generalize w4.heap.size = pb at HBX HNE ⊢
 generalize w4.alloc (.cells #[.slice ca m cc, .slice pa n pc] 31) = w5 at HBX HBR HPB ⊢
 go_wp2_with fail
 go_loopw [4] (fun iv wr => ∃ (k : Nat) (rows : List PRow), k ≤ n ∧ iv = .int .i64 k ∧ PrB w ca m cc pa n pc cs rows wr ∧ rows.map prowQ = ((ls.map lineQ).take k).map (rightQ m) ++ (ls.map lineQ).drop k ∧ wr.heap[pb]? = some (.cells #[.slice ca m cc, .slice pa n pc] 31 (0, 0)) ∧ wr.heap[zb]? = some (.cells #[.slice none 0 0, .slice none 0 0] 31 (0, 0))) (fun iv _ => n - (intOf iv).toNat)
 case atStart => exact ⟨0, rows0, Nat.zero_le _, rfl, HPB.out, by simpa using HMP.out, HBX.out, HBR.out⟩
 case round =>
  obtain ⟨k, rows, hk, rfl, hpr, hmp, hbx, hbr⟩ := hrel
  have p0 := cell_of_block (j := 0) hbx rfl
  have p1 := cell_of_block (j := 1) hbx rfl
  replace HPB := Lib.hid hpr
  replace HBX := Lib.hid hbx
  replace HBR := Lib.hid hbr
  replace HMP := Lib.hid hmp
  by_cases hlt : k < n
  ·
   obtain ⟨b, o, r, e1, e2, hbl, y0, y1, y2, y3, y4, hok⟩ := hpr.prw.get k hlt
   have hkl : k < rows.length := by rw [hpr.len]; exact hlt
   have HKL := Lib.hid hkl
   have HRK := Lib.hid e2
   have HRQ := Lib.hid (show (qs r.coef).length = r.n by rw [qs_len, hok.vec.len])
   have i0 : (0 : Int) ≤ (k : Int) := by omega
   have i1 : (k : Int) < (n : Int) := by omega
   subst e1
   clear hpr hmp hbx hbr hok e2 hkl y1 y2 y3 y4
   go_upto_region 9 with fail
   go_wp2_with fail
   clear y0
   go_loopw [5] (fun cv wz => ∃ (a' : Option Addr) (n' c' : Nat) (vs : List Rv), cv = .slice a' n' c' ∧ PrP w ca m cc cs (rows.set k ⟨a', n', c', vs, r.kind, r.rhs⟩) wz ∧ Mid wz w.heap.size 45 5 (.slice (some ⟨b, o, none⟩) n pc) n (rows.flatMap prowCells) ∧ qs vs = qs r.coef ++ fillQ r.n n' ∧ r.n ≤ n' ∧ (n' ≤ m ∨ n' = r.n) ∧ wz.heap[pb]? = some (.cells #[.slice ca m cc, .slice (some ⟨b, o, none⟩) n pc] 31 (0, 0)) ∧ wz.heap[zb]? = some (.cells #[.slice none 0 0, .slice none 0 0] 31 (0, 0))) (fun cv _ => m - sliceLen cv)
   case atStart =>
    refine ⟨r.a, r.n, r.c, r.coef, rfl, ?_, HPB.out.mid, by rw [fillQ_nil, List.append_nil], Nat.le_refl _, .inr rfl, HBX.out, HBR.out⟩
    rw [prow_same HRK.out]; exact HPB.out.p
   case round =>
    obtain ⟨a', n', c', vs, rfl, hpp, hmd, hqv, hn1, hn2, hbx, hbr⟩ := hrel
    have z0 := cell_of_block (j := 0) hbx rfl
    have z1 := cell_of_block (j := 1) hbx rfl
    have HPP := Lib.hid hpp
    have HMD := Lib.hid hmd
    have HQV := Lib.hid hqv
    replace HBX := Lib.hid hbx
    replace HBR := Lib.hid hbr
    have HVB := Lib.hid (show VB w (qs vs) a' n' c' vs wr from (hpp.ok _ (List.mem_of_getElem? (List.getElem?_set_self HKL.out))).1)
    have HRH := Lib.hid (show r.rhs.ok wr from (hpp.ok _ (List.mem_of_getElem? (List.getElem?_set_self HKL.out))).2.1)
    have HRI := Lib.hid (show I64 r.kind from (hpp.ok _ (List.mem_of_getElem? (List.getElem?_set_self HKL.out))).2.2.1)
    have hlc : n' ≤ 9223372036854775807 ∧ n' ≤ c' ∧ c' ≤ 9223372036854775807 := HVB.out.vec.sl.lenI
    clear hpp hmd hqv hbx hbr p0 p1
    by_cases hl2 : n' < m
    ·
     have hl3 : (n' : Int) < (m : Int) := by omega
     go_wp2_with fail
     refine (vint_any (n' : Int) _ (by unfold I64; omega)).mono ?_
     rintro e w6 ⟨v, rfl, ho, hq, hb⟩
     unfold Rv.val
     replace HVB := Lib.hid (HVB.out.call hb)
     replace HPP := Lib.hid (HPP.out.call hb)
     replace HMD := Lib.hid (mid_under HMD.out hb)
     replace HRH := Lib.hid (HRH.out.below hb)
     replace HBX := Lib.hid ((hb.block pb (lt_of_block HBX.out)).trans HBX.out)
     replace HBR := Lib.hid ((hb.block zb (lt_of_block HBR.out)).trans HBR.out)
     have HO := Lib.hid ho
     have HQ := Lib.hid hq
     clear ho hq hb z0 z1
     have HM3 := Lib.hid (HVB.out.mid.alloc (.cells #[.bool v.s, .slice v.a v.l v.c, .slice v.b v.m v.d] 40))
     have HS3 := Lib.hid (show Src Try.prog 3 28 (.slice (some ⟨w6.heap.size, 0, none⟩) 1 1) 1 v.cells (w6.alloc (.cells #[.bool v.s, .slice v.a v.l v.c, .slice v.b v.m v.d] 40)) from
      (Sl.lit w6 40 3 1 v.cells (by unfold maxLen; omega) rfl).src (P := Try.prog) Try.underlying28 (fun u hu => rv_one [v] u (by simpa using hu)))
     have HW3 := Lib.hid (show w.heap.size ≤ (w6.alloc (.cells #[.bool v.s, .slice v.a v.l v.c, .slice v.b v.m v.d] 40)).heap.size by have := HVB.out.bel.size; simp; omega)
     go_wp2_with (at_builtin; refine wpList_append_mid (v := .slice a' n' c') rfl _ _ 28 28 rfl tr (.agg #[.bool false, .slice none 0 0, .slice none 0 0]) 56 Try.underlying28 hi hz0 hz1 hz2 rfl rfl HM3.out _ rfl 1 _ HS3.out (by unfold maxLen; omega) (by omega) HW3.out ?_; intro a4 c4 w7 hmo hgo hbo; have HMO4 := Lib.hid hmo; have HGO4 := Lib.hid hgo; have HBO4 := Lib.hid hbo; clear hmo hgo hbo)
     go_roundw
     case rel =>
      have hkp := grown_keeps HGO4.out
      have hf := Foreign.mid HVB.out.mid
      refine ⟨a4, n' + 1, c4, vs ++ [v], rfl, ?_, hf.mids hkp (by decide) HMD.out, by rw [qs_app, HQV.out, fillQ_step _ _ hn1, HQ.out, List.append_assoc], by omega, .inl (by omega), hf.box hkp (by decide) HBX.out, hf.box hkp (by decide) HBR.out⟩
      have h1 := HPP.out.upd (r' := ⟨a4, n' + 1, c4, vs ++ [v], r.kind, r.rhs⟩) (List.getElem?_set_self HKL.out) hkp (by have := HVB.out.push HO.out HMO4.out HGO4.out; exact ⟨this.mid, this.len, this.ok, rfl, this.bel⟩) ((HVB.out.grown HGO4.out).1 _ HRH.out) HRI.out (fun z hz => by
       rcases HBO4.out with h2 | h2
       ·
        exact .inl (h2.symm.trans hz)
       ·
        have h3 : (w6.alloc (.cells #[.bool v.s, .slice v.a v.l v.c, .slice v.b v.m v.d] 40)).heap.size = z := Option.some.inj (h2.symm.trans hz)
        simp at h3
        right; omega)
      rw [List.set_set] at h1
      exact h1
     case measure => simp [sliceLen]; omega
    ·
     have hl3 : ¬ (n' : Int) < (m : Int) := by omega
     obtain ⟨y0, y1, -, -, -⟩ := HMD.out.prow HRK.out
     have g0 : wr.frozen? ⟨b, o + k * 5, none⟩ = false := HMD.out.frozen _
     have hmc : (m : Int) ≤ (c' : Int) := by omega
     have hm0 : (0 : Int) ≤ (m : Int) := by omega
     go_upto_region 12 with fail
     go_cut [] (fun wx => ∃ wv : World, wx = wv.drew ∧ wv = wr.setCell ⟨b, o + k * 5, none⟩ (.slice a' m c'))
     case first =>
      go_region
      all_goals
       go_wp2_with fail
       go_meet
       exact ⟨_, rfl, rfl⟩
     case rest =>
      obtain ⟨w8, hwc⟩ : ∃ W : World, W = wc := ⟨_, rfl⟩
      subst hwc
      obtain ⟨wv, rfl, hwv⟩ := hcut
      have hkp : Keeps wr wv (fun z => z = b) := by rw [hwv]; exact Keeps.setCell wr ⟨b, o + k * 5, none⟩ _ (S := fun z => z = b) rfl
      have hf : Foreign wr w.heap.size 45 (fun z => z = b) := ⟨fun z hz => by rw [hz]; exact HMD.out.typed rfl, fun z hz => by rw [hz]; exact (HMD.out.lt b rfl).1⟩
      have hpp := HPP.out.foreign hf hkp (by decide) (by decide)
      have hcut1 := (show VB w (qs vs) a' n' c' vs wv from HVB.out.foreign hf hkp (by decide) (by decide)).cut m (by omega)
      have hpp2 := hpp.upd (r' := ⟨a', m, c', vs.take m, r.kind, r.rhs⟩) (List.getElem?_set_self HKL.out) (Keeps.refl wv _) ⟨hcut1.mid, hcut1.len, hcut1.ok, rfl, hcut1.bel⟩ (hf.rv hkp (by decide) HRH.out) HRI.out (fun z hz => .inl ((own_len a' m c' n' c').symm.trans hz))
      rw [List.set_set] at hpp2
      have hmd := HMD.out.stored (k * 5) (.slice a' m c')
      rw [← hwv, ← Nat.add_zero (k * 5), ← prow_set0 rows k HKL.out r a' m c' (vs.take m) (List.getElem?_eq_some_iff.1 HRK.out).2] at hmd
      have hbd : Below wv.heap.size wv wv.drew := Below.drawn wv 1
      replace HBX := Lib.hid ((hbd.block pb (lt_of_block (hf.box hkp (by decide) HBX.out))).trans (hf.box hkp (by decide) HBX.out))
      replace HBR := Lib.hid ((hbd.block zb (lt_of_block (hf.box hkp (by decide) HBR.out))).trans (hf.box hkp (by decide) HBR.out))
      replace HPP := Lib.hid (hpp2.call hbd)
      replace HMD := Lib.hid (mid_under hmd hbd)
      have HRK2 := Lib.hid (show (rows.set k ⟨a', m, c', vs.take m, r.kind, r.rhs⟩)[k]? = some ⟨a', m, c', vs.take m, r.kind, r.rhs⟩ from List.getElem?_set_self HKL.out)
      clear hwv hkp hf hpp hcut1 hpp2 hmd hbd y0 y1 g0 z0 z1 HVB
      generalize wv.drew = w9 at HBX HBR HPP HMD ⊢
      have z1 := cell_of_block (j := 1) HBX.out rfl
      obtain ⟨-, y1, -, -, -⟩ := HMD.out.prow HRK2.out
      have g1 : w9.frozen? ⟨b, o + k * 5 + 1, none⟩ = false := HMD.out.frozen _
      go_upto_region 13 with fail
      go_region
      all_goals
       go_wp2_with fail
       go_roundw
       case rel =>
        rw [kind_eq]
        obtain ⟨wv, hwv⟩ : ∃ wv : World, w9.setCell ⟨b, o + k * 5 + 1, none⟩ (.int .i64 (kindR r.kind)) = wv := ⟨_, rfl⟩
        rw [hwv]
        have hkp : Keeps w9 wv (fun z => z = b) := by rw [← hwv]; exact Keeps.setCell w9 ⟨b, o + k * 5 + 1, none⟩ _ (S := fun z => z = b) rfl
        have hf : Foreign w9 w.heap.size 45 (fun z => z = b) := ⟨fun z hz => by rw [hz]; exact HMD.out.typed rfl, fun z hz => by rw [hz]; exact (HMD.out.lt b rfl).1⟩
        have hpp := HPP.out.foreign hf hkp (by decide) (by decide)
        have hok := hpp.ok _ (List.mem_of_getElem? HRK2.out)
        have hpp2 := hpp.upd (r' := ⟨a', m, c', vs.take m, kindR r.kind, r.rhs⟩) HRK2.out (Keeps.refl wv _) hok.1 hok.2.1 (show I64 (kindR r.kind) by have := kindR_ok r.kind; unfold I64; omega) (fun z hz => .inl hz)
        rw [List.set_set] at hpp2
        have hmd := HMD.out.stored (k * 5 + 1) (.int .i64 (kindR r.kind))
        rw [← Nat.add_assoc, hwv, ← prow_set1 _ k (by rw [List.length_set]; exact HKL.out) _ (kindR r.kind) (List.getElem?_eq_some_iff.1 HRK2.out).2, List.set_set] at hmd
        have hbd : Below wv.heap.size wv wv.drew := Below.drawn wv 1
        have h1 : (ls.map lineQ)[k]? = some (prowQ r) := by
         rw [← step_at (rightQ m), ← HMP.out, List.getElem?_map, HRK.out]; rfl
        have h2 : prowQ ⟨a', m, c', vs.take m, kindR r.kind, r.rhs⟩ = rightQ m (prowQ r) := by
         show (qs (vs.take m), kindR r.kind, r.rhs.q) = (rightL m (qs r.coef), kindR r.kind, r.rhs.q)
         rw [qs_take, HQV.out, ← HRQ.out, rightL_of _ _ _ (by rw [HRQ.out]; exact hn1) (by omega) (by rw [HRQ.out]; exact hn2)]
        exact ⟨k + 1, _, by omega, by go_num, (hpp2.b hmd (by rw [List.length_set]; exact HPB.out.len)).call hbd, by rw [List.map_set, HMP.out, h2, step_map _ _ _ _ h1], (hbd.block pb (lt_of_block (hf.box hkp (by decide) HBX.out))).trans (hf.box hkp (by decide) HBX.out), (hbd.block zb (lt_of_block (hf.box hkp (by decide) HBR.out))).trans (hf.box hkp (by decide) HBR.out)⟩
       case measure => simp [intOf]; omega
  ·
   obtain rfl : k = n := by omega
   rw [List.take_of_length_le (by rw [List.length_map, HLL.out]; exact Nat.le_refl _), List.drop_of_length_le (by rw [List.length_map, HLL.out]; exact Nat.le_refl _), List.append_nil] at hmp
   replace HMP := Lib.hid hmp
   have m0 := p0
   have m1 := p1
   have r0 := cell_of_block (j := 0) hbr rfl
   have r1 := cell_of_block (j := 1) hbr rfl
   have f0 : wr.frozen? ⟨zb, 0, none⟩ = false := free_of_block hbr
   have f1 : wr.frozen? ⟨zb, 1, none⟩ = false := free_of_block hbr
   clear hpr hmp hbx hbr p0 p1
   go_wp2_with fail
   have s1 := heap_setCell_same wr zb 0 _ _ (.slice ca m cc) HBR.out
   have s2 := heap_setCell_same _ zb 1 _ _ (.slice pa k pc) s1
   have j0 := cell_of_block (j := 0) s2 rfl
   have j1 := cell_of_block (j := 1) s2 rfl
   refine bodyPost_ret (v := .agg #[.slice ca m cc, .slice pa k pc]) (by simp [results, Try.results20, go_sem, j0, j1]) rfl ?_
   have hk2 := (Keeps.setCell wr ⟨zb, 0, none⟩ (.slice ca m cc) (S := fun z => z = zb) rfl).trans (Keeps.setCell _ ⟨zb, 1, none⟩ (.slice pa k pc) (S := fun z => z = zb) rfl) fun _ _ h => h
   rw [HEm.out, HEn.out, HELS.out, HECS.out]
   exact ⟨ca, cc, pa, pc, cs, rows, rfl, HPB.out.foreign (Foreign.one HBR.out HGZ.out) hk2 (by decide) (by decide) (by decide), HCQ.out, HMP.out⟩
end Go.Proofs.Ytndndfobkbeolaa
namespace Go.Proofs.Ytndndfobkbeolaa
open Go.RowKit Go.Extern.Stop Go.Stop Go.Extern
def FewL (l : List Rat) : Prop := ∀ q, q ∈ l → Few q
end Go.Proofs.Ytndndfobkbeolaa
namespace Go.Proofs.Ytndndfobkbeolaa
open Go.RowKit Go.Extern.Stop Go.Stop Go.Extern
section
variable {w0 W W' : World} {ca : Option Addr} {cn cc : Nat} {ra : Option Addr} {rn rc : Nat} {cs : List Rv} {rows : List PRow} {S : Nat → Prop}
theorem PrB.typed (h : PrB w0 ca cn cc ra rn rc cs rows W) {z : Nat} (hz : (Value.slice ca cn cc).ownBlock = some z) : ∃ ds, W.heap[z]? = some (.cells ds 40 (0, 0)) := h.cost.mid.typed hz
end
def Short (q : Rat) : Prop := lenW q.num.natAbs ≤ 1 ∧ lenW q.den ≤ 1
theorem Short.few {q : Rat} (h : Short q) : Few q := ⟨Nat.le_trans h.1 (by omega), h.2⟩
theorem short_nat {n : Nat} (h : n < W64) : Short ((n : Int) : Rat) := ⟨lenW_word.2 h, by show lenW 1 ≤ 1; exact lenW_word.2 (by unfold W64; omega)⟩
theorem short_frac {fs : List Fr} (h : ∀ v, v ∈ fs → I64 v.1 ∧ I64 v.2) : ∀ q, q ∈ fs.map fracQ → Short q := fun q hq => by
 obtain ⟨v, hv, rfl⟩ := List.mem_map.1 hq
 exact fracQ_small (h v hv).1 (h v hv).2
theorem short_right {m : Nat} {l : List Rat} (hm : m ≤ 5) (h : ∀ q, q ∈ l → Short q) : ∀ q, q ∈ rightL m l → Short q := fun q hq => by
 unfold rightL at hq
 rcases List.mem_append.1 (List.mem_of_mem_take hq) with h1 | h1
 ·
  exact h q h1
 ·
  unfold fillQ at h1
  obtain ⟨i, hi, rfl⟩ := List.mem_map.1 h1
  have h2 := List.mem_range'_1.1 hi
  exact short_nat (by unfold W64; omega)
theorem rightL_len (m : Nat) (l : List Rat) : (rightL m l).length = m := by
 unfold rightL fillQ
 rw [List.length_take, List.length_append, List.length_map, List.length_range']
 omega
structure RightL (m : Nat) (rows : List PRow) : Prop where
 coef : ∀ r, r ∈ rows → ∀ q, q ∈ qs r.coef → Short q
 rhs : ∀ r, r ∈ rows → Short r.rhs.q
 len : ∀ r, r ∈ rows → (qs r.coef).length = m
 kind : ∀ r, r ∈ rows → 1 ≤ r.kind ∧ r.kind ≤ 3
theorem rightL_rows {w : World} {m : Nat} (hm : m ≤ 5) {rows : List PRow} {ls : List LRow} (ho : ∀ r, r ∈ ls → r.ok w) (h : rows.map prowQ = (ls.map lineQ).map (rightQ m)) : RightL m rows := by
 have hx : ∀ r, r ∈ rows → ∃ t, t ∈ ls ∧ prowQ r = rightQ m (lineQ t) := fun r hr => by
  have h1 : prowQ r ∈ rows.map prowQ := List.mem_map_of_mem hr
  rw [h, List.map_map] at h1
  obtain ⟨t, ht, e⟩ := List.mem_map.1 h1
  exact ⟨t, ht, e.symm⟩
 have h1 : ∀ r t, prowQ r = rightQ m (lineQ t) → qs r.coef = rightL m (t.fs.map fracQ) ∧ r.kind = kindR t.kind ∧ r.rhs.q = fracQ t.rhs := fun r t e =>
  ⟨congrArg (fun z => z.1) e, congrArg (fun z => z.2.1) e, congrArg (fun z => z.2.2) e⟩
 refine ⟨fun r hr q hq => ?_, fun r hr => ?_, fun r hr => ?_, fun r hr => ?_⟩
 all_goals obtain ⟨t, ht, e⟩ := hx r hr
 all_goals obtain ⟨e1, e2, e3⟩ := h1 r t e
 ·
  rw [e1] at hq
  exact short_right hm (short_frac (ho t ht).fr.ok) q hq
 ·
  rw [e3]; exact fracQ_small (ho t ht).rhs.1 (ho t ht).rhs.2
 ·
  rw [e1, rightL_len]
 ·
  rw [e2]; exact kindR_ok _
theorem RightL.few {m : Nat} {rows : List PRow} (h : RightL m rows) : ∀ r, r ∈ rows → FewL (qs r.coef) ∧ Few r.rhs.q := fun r hr => ⟨fun q hq => (h.coef r hr q hq).few, (h.rhs r hr).few⟩
end Go.Proofs.Ytndndfobkbeolaa
