/-
  What the laws stand on, part L: contracts and plain laws of PMake, PPrP, PRight, PPCopy, PSameP, PPrSet; the conditions are each law's own.
-/
import Derived.Test.YtndndfobkbeolaaSS
import Derived.Deep.DeepCutAuto
import Derived.Test.YtndndfobkbeolaaSV
set_option linter.unusedVariables false
set_option linter.unusedSimpArgs false
namespace Go.Proofs.Ytndndfobkbeolaa
open Go.RowKit Go.Extern.Stop Go.Stop Go.Extern
theorem Try.infoPRow : (Try.prog.info? 45).map (fun i => (i.zero, i.size, i.bytes)) = some (some (.agg #[.slice none 0 0, .int .i64 0, .bool false, .slice none 0 0, .slice none 0 0]), 5, 88) := by kernel_rfl
theorem frCells_len (v : Fr) : (frCells v).length = 2 := rfl
structure FrW (w : World) (a : Option Addr) (n c : Nat) (fs : List Fr) : Prop where
  len : fs.length = n
  sl : Sl w 2 (.slice a n c) n (fs.flatMap frCells)
  ok : ∀ v, v ∈ fs → I64 v.1 ∧ I64 v.2
theorem FrW.below {w w' : World} {a : Option Addr} {n c : Nat} {fs : List Fr} (h : FrW w a n c fs) (hb : Below w.heap.size w w') : FrW w' a n c fs := ⟨h.len, h.sl.below hb, h.ok⟩
theorem FrW.get {w : World} {a : Option Addr} {n c : Nat} {fs : List Fr} (h : FrW w a n c fs) (k : Nat) (hk : k < n) : ∃ b o v, a = some ⟨b, o, none⟩ ∧ fs[k]? = some v ∧ w.cell? ⟨b, o + k * 2, none⟩ = some (.int .i64 v.1) ∧ w.cell? ⟨b, o + k * 2 + 1, none⟩ = some (.int .i64 v.2) ∧ I64 v.1 ∧ I64 v.2 := by
  obtain ⟨hl, hs, ho⟩ := h
  subst hl
  obtain ⟨b, o, c', e, h1, h2, h3, h4⟩ := hs.plain (by omega)
  cases e
  have hc := fun j u hj => h4 _ u (flat_at frCells 2 frCells_len fs k hk j u hj)
  have c0 := hc 0 _ rfl
  have c1 := hc 1 _ rfl
  simp only [← Nat.add_assoc, Nat.add_zero] at c0 c1
  exact ⟨b, o, fs[k], rfl, List.getElem?_eq_getElem hk, c0, c1, (ho _ (List.getElem_mem hk)).1, (ho _ (List.getElem_mem hk)).2⟩
structure LRow where
  a : Option Addr
  n : Nat
  c : Nat
  fs : List Fr
  kind : Int
  rhs : Fr
def lineCells (r : LRow) : List Value := [.slice r.a r.n r.c, .int .i64 r.kind, .int .i64 r.rhs.1, .int .i64 r.rhs.2]
theorem lineCells_len (r : LRow) : (lineCells r).length = 4 := rfl
structure LRow.ok (w : World) (r : LRow) : Prop where
  fr : FrW w r.a r.n r.c r.fs
  kind : I64 r.kind
  rhs : I64 r.rhs.1 ∧ I64 r.rhs.2
structure RawW (w : World) (ca : Option Addr) (cn cc : Nat) (ra : Option Addr) (rn rc : Nat) (cost : List Fr) (lines : List LRow) : Prop where
  cost : FrW w ca cn cc cost
  len : lines.length = rn
  sl : Sl w 4 (.slice ra rn rc) rn (lines.flatMap lineCells)
  ok : ∀ r, r ∈ lines → r.ok w
theorem RawW.below {w w' : World} {ca : Option Addr} {cn cc : Nat} {ra : Option Addr} {rn rc : Nat} {cost : List Fr} {lines : List LRow} (h : RawW w ca cn cc ra rn rc cost lines) (hb : Below w.heap.size w w') : RawW w' ca cn cc ra rn rc cost lines :=
  ⟨h.cost.below hb, h.len, h.sl.below hb, fun r hr => ⟨(h.ok r hr).fr.below hb, (h.ok r hr).kind, (h.ok r hr).rhs⟩⟩
theorem RawW.get {w : World} {ca : Option Addr} {cn cc : Nat} {ra : Option Addr} {rn rc : Nat} {cost : List Fr} {lines : List LRow} (h : RawW w ca cn cc ra rn rc cost lines) (k : Nat) (hk : k < rn) :
    ∃ b o r, ra = some ⟨b, o, none⟩ ∧ lines[k]? = some r ∧ w.cell? ⟨b, o + k * 4, none⟩ = some (.slice r.a r.n r.c) ∧ w.cell? ⟨b, o + k * 4 + 1, none⟩ = some (.int .i64 r.kind) ∧ w.cell? ⟨b, o + k * 4 + 2, none⟩ = some (.int .i64 r.rhs.1) ∧ w.cell? ⟨b, o + k * 4 + 3, none⟩ = some (.int .i64 r.rhs.2) ∧ r.ok w := by
  obtain ⟨_, hl, hs, ho⟩ := h
  subst hl
  obtain ⟨b, o, c', e, h1, h2, h3, h4⟩ := hs.plain (by omega)
  cases e
  have hc := fun j u hj => h4 _ u (flat_at lineCells 4 lineCells_len lines k hk j u hj)
  have c0 := hc 0 _ rfl
  have c1 := hc 1 _ rfl
  have c2 := hc 2 _ rfl
  have c3 := hc 3 _ rfl
  simp only [← Nat.add_assoc, Nat.add_zero] at c0 c1 c2 c3
  exact ⟨b, o, lines[k], rfl, List.getElem?_eq_getElem hk, c0, c1, c2, c3, ho _ (List.getElem_mem hk)⟩
set_option maxRecDepth 100000 in
set_option maxHeartbeats 4000000 in
theorem mk10_any (a : Option Addr) (n c : Nat) (fs : List Fr) (w : World) (h1 : Sl w 2 (.slice a n c) n (fs.flatMap frCells)) (hl : fs.length = n) (hI : ∀ v, v ∈ fs → I64 v.1 ∧ I64 v.2) (hn : n ≤ 1100000) : Calls Try.prog 10 #[.slice a n c] w fun e w' => ∃ a' c' vs, e = .returned (.slice a' n c') ∧ VB w (fs.map fracQ) a' n c' vs w' := by
  obtain ⟨tr, hi, hz0, hz1, hz2⟩ := info_parts Try.infoRat
  have hln := h1.lenI
  have H := Lib.hid (show FrW w a n c fs from ⟨hl, h1, hI⟩)
  clear h1 hI hl
  go_enter Try.func10, Try.ntmps10
  go_wp2
  go_loopw [3, 4] (fun ov iv wr => ∃ (k : Nat) (oa : Option Addr) (oc : Nat) (vs : List Rv), k ≤ n ∧ iv = .int .i64 k ∧ ov = .slice oa k oc ∧ VB w ((fs.map fracQ).take k) oa k oc vs wr) (fun _ iv _ => n - (intOf iv).toNat)
  case atStart => exact ⟨0, none, 0, [], Nat.zero_le _, rfl, rfl, VB.nil w⟩
  case round =>
    obtain ⟨k, oa, oc, vs, hk, rfl, rfl, hv⟩ := hrel
    by_cases hlt : k < n
    · obtain ⟨b, o, x, e1, e2, y0, y1, hx1, hx2⟩ := (H.out.below hv.bel).get k hlt
      have ht : (fs.map fracQ).take (k + 1) = (fs.map fracQ).take k ++ [fracQ x] := by
        rw [List.take_succ_eq_append_getElem (by rw [List.length_map, H.out.len]; exact hlt), List.getElem_map, (List.getElem?_eq_some_iff.1 e2).2]
      subst e1
      have HT := Lib.hid ht
      have HX := Lib.hid (And.intro hx1 hx2)
      have HVB := Lib.hid hv
      have i0 : (0 : Int) ≤ (k : Int) := by omega
      have i1 : (k : Int) < (n : Int) := by omega
      clear ht hx1 hx2 hv e2
      go_wp2_with fail
      refine (One_any x.1 x.2 _ HX.out.1 HX.out.2).mono ?_
      rintro e w1 ⟨v, rfl, ho, hq, hb⟩
      replace HVB := Lib.hid (HVB.out.call hb)
      have HO := Lib.hid ho
      have HQ := Lib.hid hq
      clear ho hq hb
      unfold Rv.val
      have HM3 := Lib.hid (HVB.out.mid.alloc (.cells #[.bool v.s, .slice v.a v.l v.c, .slice v.b v.m v.d] 40))
      have HS3 := Lib.hid (show Src Try.prog 3 28 (.slice (some ⟨w1.heap.size, 0, none⟩) 1 1) 1 v.cells (w1.alloc (.cells #[.bool v.s, .slice v.a v.l v.c, .slice v.b v.m v.d] 40)) from
        (Sl.lit w1 40 3 1 v.cells (by unfold maxLen; omega) rfl).src (P := Try.prog) Try.underlying28 (fun u hu => rv_one [v] u (by simpa using hu)))
      have HW3 := Lib.hid (show w.heap.size ≤ (w1.alloc (.cells #[.bool v.s, .slice v.a v.l v.c, .slice v.b v.m v.d] 40)).heap.size by have := HVB.out.bel.size; simp; omega)
      go_wp2_with (at_builtin; refine wpList_append_mid (v := .slice oa k oc) rfl _ _ 28 28 rfl tr (.agg #[.bool false, .slice none 0 0, .slice none 0 0]) 56 Try.underlying28 hi hz0 hz1 hz2 rfl rfl HM3.out _ rfl 1 _ HS3.out (by unfold maxLen; omega) (by omega) HW3.out ?_; intro a4 c4 w4 hmo hgo hbo; have HMO4 := Lib.hid hmo; have HGO4 := Lib.hid hgo; clear hmo hgo hbo)
      go_roundw
      case rel =>
        refine ⟨k + 1, a4, c4, vs ++ [v], by omega, by go_num, rfl, ?_⟩
        rw [HT.out, show fracQ x = v.q from HQ.out.symm]
        exact HVB.out.push HO.out HMO4.out HGO4.out
      case measure => simp [intOf]; omega
    · obtain rfl : k = n := by omega
      rw [List.take_of_length_le (by rw [List.length_map, H.out.len]; exact Nat.le_refl _)] at hv
      have HVB := Lib.hid hv
      clear hv
      go_wp2
      go_ret
      exact ⟨oa, oc, vs, rfl, HVB.out⟩
def ApartS (a : Option Addr) (n c : Nat) (a' : Option Addr) (n' c' : Nat) : Prop := ∀ z, (Value.slice a n c).ownBlock = some z → (Value.slice a' n' c').ownBlock ≠ some z
structure PrB (w0 : World) (ca : Option Addr) (cn cc : Nat) (ra : Option Addr) (rn rc : Nat) (cs : List Rv) (rows : List PRow) (W : World) : Prop where
  cost : VB w0 (qs cs) ca cn cc cs W
  mid : Mid W w0.heap.size 45 5 (.slice ra rn rc) rn (rows.flatMap prowCells)
  len : rows.length = rn
  ok : ∀ r, r ∈ rows → VB w0 (qs r.coef) r.a r.n r.c r.coef W ∧ r.rhs.ok W ∧ I64 r.kind ∧ ApartS r.a r.n r.c ca cn cc
  nod : rows.Pairwise fun r s => ApartS r.a r.n r.c s.a s.n s.c
  bel : Below w0.heap.size w0 W
section
variable {w0 W W' : World} {ca : Option Addr} {cn cc : Nat} {ra : Option Addr} {rn rc : Nat} {cs : List Rv} {rows : List PRow} {S : Nat → Prop}
theorem PrB.call (h : PrB w0 ca cn cc ra rn rc cs rows W) (hb : Below W.heap.size W W') : PrB w0 ca cn cc ra rn rc cs rows W' :=
  ⟨h.cost.call hb, mid_under h.mid hb, h.len, fun r hr => ⟨(h.ok r hr).1.call hb, (h.ok r hr).2.1.below hb, (h.ok r hr).2.2⟩, h.nod, bthen h.bel hb⟩
theorem PrB.foreign {U : TypeId} (h : PrB w0 ca cn cc ra rn rc cs rows W) (hf : Foreign W w0.heap.size U S) (hk : Keeps W W' S) (h1 : 40 ≠ U) (h2 : 45 ≠ U) (h3 : U ≠ 128) : PrB w0 ca cn cc ra rn rc cs rows W' :=
  ⟨h.cost.foreign hf hk h1 h3, hf.mids hk h2 h.mid, h.len, fun r hr => ⟨(h.ok r hr).1.foreign hf hk h1 h3, hf.rv hk h3 (h.ok r hr).2.1, (h.ok r hr).2.2⟩, h.nod, h.bel.trans (hk.below h.bel.size hf.ge)⟩
theorem PrB.prw (h : PrB w0 ca cn cc ra rn rc cs rows W) : PrW W ca cn cc ra rn rc cs rows := ⟨h.cost.vec, h.len, Sl.ofMid h.mid, fun r hr => ⟨(h.ok r hr).1.vec, (h.ok r hr).2.1, (h.ok r hr).2.2.1⟩⟩
theorem PrB.lts (h : PrB w0 ca cn cc ra rn rc cs rows W) : ∀ r, r ∈ rows → ∀ z, (Value.slice r.a r.n r.c).ownBlock = some z → z < W.heap.size := fun r hr z hz => ((h.ok r hr).1.mid.lt z hz).2
theorem PrB.ltc (h : PrB w0 ca cn cc ra rn rc cs rows W) : ∀ z, (Value.slice ca cn cc).ownBlock = some z → z < W.heap.size := fun z hz => (h.cost.mid.lt z hz).2
theorem PrB.push (h : PrB w0 ca cn cc ra rn rc cs rows W) {ob : Obj} {r : PRow} {a' : Option Addr} {c' : Nat} (hv : VB w0 (qs r.coef) r.a r.n r.c r.coef W) (hr : r.rhs.ok W) (hk : I64 r.kind)
    (hn : ∀ z, (Value.slice r.a r.n r.c).ownBlock = some z → ∀ q, q ∈ rows → (Value.slice q.a q.n q.c).ownBlock ≠ some z) (hc : ∀ z, (Value.slice r.a r.n r.c).ownBlock = some z → (Value.slice ca cn cc).ownBlock ≠ some z)
    (hm : Mid W' w0.heap.size 45 5 (.slice a' (rn + 1) c') (rn + 1) (rows.flatMap prowCells ++ prowCells r)) (hg : (W.alloc ob).grownBy W' (Value.slice ra rn rc).ownBlock) : PrB w0 ca cn cc a' (rn + 1) c' cs (rows ++ [r]) W' := by
  have hkp := grown_keeps hg
  have hf := Foreign.mid h.mid
  refine ⟨h.cost.foreign hf hkp (by decide) (by decide), by rw [List.flatMap_append]; simpa using hm, by rw [List.length_append, h.len]; rfl, fun q hq => ?_, List.pairwise_append.2 ⟨h.nod, List.pairwise_singleton _ _, fun x hx y hy => ?_⟩, h.bel.trans (hkp.below h.bel.size hf.ge)⟩
  · rcases List.mem_append.1 hq with hq | hq
    · exact ⟨(h.ok q hq).1.foreign hf hkp (by decide) (by decide), hf.rv hkp (by decide) (h.ok q hq).2.1, (h.ok q hq).2.2⟩
    · rw [List.mem_singleton.1 hq]
      exact ⟨hv.foreign hf hkp (by decide) (by decide), hf.rv hkp (by decide) hr, hk, hc⟩
  · rw [List.mem_singleton.1 hy]
    exact fun z hz e => hn z e x hx hz
end
def prowQ (r : PRow) : List Rat × Int × Rat := (qs r.coef, r.kind, r.rhs.q)
def lineQ (r : LRow) : List Rat × Int × Rat := (r.fs.map fracQ, r.kind, fracQ r.rhs)
def MakeR (cn rn : Nat) (cost : List Fr) (lines : List LRow) (w : World) (e : Ending) (w' : World) : Prop := ∃ ca cc ra rc cs rows, e = .returned (.agg #[.slice ca cn cc, .slice ra rn rc]) ∧ PrB w ca cn cc ra rn rc cs rows w' ∧ qs cs = cost.map fracQ ∧ rows.map prowQ = lines.map lineQ ∧ rows.map (·.n) = lines.map (·.n)
set_option maxRecDepth 100000 in
set_option maxHeartbeats 16000000 in
theorem make_any (xa : Option Addr) (cn xc : Nat) (ra : Option Addr) (rn rc : Nat) (cost : List Fr) (lines : List LRow) (w : World) (h : RawW w xa cn xc ra rn rc cost lines) (hcn : cn ≤ 1100000) (hrn : rn ≤ 1100000) (hln : ∀ r, r ∈ lines → r.n ≤ 1100000) :
    Calls Try.prog 9 #[.agg #[.slice xa cn xc, .slice ra rn rc]] w (MakeR cn rn cost lines w) := by
  obtain ⟨tp, hp1, hp2, hp3, hp4⟩ := info_parts Try.infoPRow
  have hlI := h.sl.lenI
  obtain ⟨w1, hw1⟩ : ∃ w1, (w.alloc (.cells #[.slice xa cn xc, .slice ra rn rc] 25)).alloc (.cells #[.slice none 0 0, .slice none 0 0] 31) = w1 := ⟨_, rfl⟩
  have hq1 : w1.heap[w.heap.size]? = some (.cells #[.slice xa cn xc, .slice ra rn rc] 25 (0, 0)) := by rw [← hw1]; exact (heap2 w _ _).1
  have hz1 : w1.heap[w.heap.size + 1]? = some (.cells #[.slice none 0 0, .slice none 0 0] 31 (0, 0)) := by rw [← hw1]; exact (heap2 w _ _).2
  have hb1 : Below w.heap.size w w1 := by rw [← hw1]; exact belowBox2 w _ _
  obtain ⟨zb, hzb⟩ : ∃ zb, w.heap.size + 1 = zb := ⟨_, rfl⟩
  obtain ⟨qb, hqb⟩ : ∃ qb, w.heap.size = qb := ⟨_, rfl⟩
  rw [hzb] at hz1
  rw [hqb] at hq1
  have HRW := Lib.hid (fun (W : World) (hb : Below w.heap.size w W) => h.below hb)
  have HLEN := Lib.hid h.len
  have HLNS := Lib.hid hln
  have HC10 := Lib.hid (mk10_any xa cn xc cost w1 (h.below hb1).cost.sl h.cost.len h.cost.ok hcn)
  have HBQ := Lib.hid hq1
  have HBR := Lib.hid hz1
  have HB1 := Lib.hid hb1
  have HGZ := Lib.hid (show w.heap.size ≤ zb by omega)
  have HW1 := Lib.hid hw1
  have HZE := Lib.hid hzb
  have HQE := Lib.hid hqb
  clear h hln hq1 hz1 hb1 hw1 hzb hqb
  go_enter Try.func9, Try.ntmps9
  go_upto_region 1 with fail
  (try simp only [HW1.out])
  (try simp only [HZE.out])
  (try simp only [HQE.out])
  clear HW1 HZE HQE
  have q0 := cell_of_block (j := 0) HBQ.out rfl
  go_wp2_with fail
  clear q0
  refine HC10.out.mono ?_
  rintro e w2 ⟨ca, cc, cs, rfl, hcv⟩
  have hal := belowBox w2 (.cells #[.slice ca cn cc, .slice none 0 0] 31)
  have hqq := (hcv.bel.block qb (lt_of_block HBQ.out)).trans HBQ.out
  have hzz := (hcv.bel.block zb (lt_of_block HBR.out)).trans HBR.out
  have hcw := (hcv.rebase HB1.out).call hal
  replace HBQ := Lib.hid ((hal.block qb (lt_of_block hqq)).trans hqq)
  replace HBR := Lib.hid ((hal.block zb (lt_of_block hzz)).trans hzz)
  have HBX := Lib.hid (heap_alloc_new w2 (.cells #[.slice ca cn cc, .slice none 0 0] 31))
  have HGP := Lib.hid (Nat.le_trans HB1.out.size hcv.bel.size)
  have HNE := Lib.hid (Nat.ne_of_lt (lt_of_block hzz))
  have HCQ := Lib.hid hcv.q
  have HPB := Lib.hid (show PrB w ca cn cc none 0 0 cs [] (w2.alloc (.cells #[.slice ca cn cc, .slice none 0 0] 31)) from
    ⟨⟨hcw.mid, hcw.len, hcw.ok, rfl, hcw.bel⟩, by simpa using Mid.nil _ _ 45 5, rfl, fun _ h => (by cases h), List.Pairwise.nil, hcw.bel⟩)
  clear hcv hal hqq hzz hcw HC10 HB1
  go_upto_region 2 with fail
  generalize w2.heap.size = pb at HBX HGP HNE ⊢
  generalize w2.alloc (.cells #[.slice ca cn cc, .slice none 0 0] 31) = w3 at HBX HBQ HBR HPB ⊢
  go_wp2_with fail
  go_loopw [4] (fun iv wr => ∃ (k : Nat) (pa : Option Addr) (pc : Nat) (rows : List PRow), k ≤ rn ∧ iv = .int .i64 k ∧ PrB w ca cn cc pa k pc cs rows wr ∧ rows.map prowQ = (lines.map lineQ).take k ∧ rows.map (·.n) = (lines.map (·.n)).take k ∧ wr.heap[pb]? = some (.cells #[.slice ca cn cc, .slice pa k pc] 31 (0, 0)) ∧ wr.heap[zb]? = some (.cells #[.slice none 0 0, .slice none 0 0] 31 (0, 0)) ∧ wr.heap[qb]? = some (.cells #[.slice xa cn xc, .slice ra rn rc] 25 (0, 0))) (fun iv _ => rn - (intOf iv).toNat)
  case atStart => exact ⟨0, none, 0, [], Nat.zero_le _, rfl, HPB.out, rfl, rfl, HBX.out, HBR.out, HBQ.out⟩
  case round =>
    obtain ⟨k, pa, pc, rows, hk, rfl, hpr, hmp, hmn, hbx, hbr, hbq⟩ := hrel
    replace HPB := Lib.hid hpr
    replace HBX := Lib.hid hbx
    replace HBR := Lib.hid hbr
    replace HBQ := Lib.hid hbq
    have HMP := Lib.hid hmp
    have HMN := Lib.hid hmn
    have q1 := cell_of_block (j := 1) hbq rfl
    by_cases hlt : k < rn
    · obtain ⟨b, o, r, e1, e2, _, _, _, _, hok⟩ := (HRW.out w (Below.refl _ _)).get k hlt
      have hlk : k < lines.length := by rw [HLEN.out]; exact hlt
      have hcel : ∀ W : World, Below w.heap.size w W → W.cell? ⟨b, o + k * 4, none⟩ = some (.slice r.a r.n r.c) ∧ W.cell? ⟨b, o + k * 4 + 1, none⟩ = some (.int .i64 r.kind) ∧ W.cell? ⟨b, o + k * 4 + 2, none⟩ = some (.int .i64 r.rhs.1) ∧ W.cell? ⟨b, o + k * 4 + 3, none⟩ = some (.int .i64 r.rhs.2) := fun W hb => by
        obtain ⟨b', o', r', e3, e4, y0, y1, y2, y3, _⟩ := (HRW.out W hb).get k hlt
        rw [e1] at e3
        cases e3
        rw [e2] at e4
        cases e4
        exact ⟨y0, y1, y2, y3⟩
      have HCEL := Lib.hid hcel
      have HLO := Lib.hid (fun (W : World) (hb : Below w.heap.size w W) => hok.fr.below hb)
      have HKI := Lib.hid hok.kind
      have HRI := Lib.hid hok.rhs
      have HLN := Lib.hid (HLNS.out r (List.mem_of_getElem? e2))
      have HTK := Lib.hid (show (lines.map lineQ).take (k + 1) = (lines.map lineQ).take k ++ [lineQ r] by
        rw [List.take_succ_eq_append_getElem (by rw [List.length_map]; exact hlk), List.getElem_map, (List.getElem?_eq_some_iff.1 e2).2])
      have HTN := Lib.hid (show (lines.map (·.n)).take (k + 1) = (lines.map (·.n)).take k ++ [r.n] by
        rw [List.take_succ_eq_append_getElem (by rw [List.length_map]; exact hlk), List.getElem_map, (List.getElem?_eq_some_iff.1 e2).2])
      have i0 : (0 : Int) ≤ (k : Int) := by omega
      have i1 : (k : Int) < (rn : Int) := by omega
      subst e1
      clear hpr hmp hmn hbx hbr hbq hcel hok e2 hlk
      go_upto_region 5 with fail
      replace HPB := Lib.hid (HPB.out.call (show Below wr.heap.size wr wr.drew from Below.drawn wr 1))
      replace HBX := Lib.hid (((show Below wr.heap.size wr wr.drew from Below.drawn wr 1).block pb (lt_of_block HBX.out)).trans HBX.out)
      replace HBR := Lib.hid (((show Below wr.heap.size wr wr.drew from Below.drawn wr 1).block zb (lt_of_block HBR.out)).trans HBR.out)
      replace HBQ := Lib.hid (((show Below wr.heap.size wr wr.drew from Below.drawn wr 1).block qb (lt_of_block HBQ.out)).trans HBQ.out)
      refine wp_region_held_drew (S := fun W => W.cell? ⟨qb, 1, none⟩ = some (.slice (some ⟨b, o, none⟩) rn rc) ∧ W.cell? ⟨b, o + k * 4, none⟩ = some (.slice r.a r.n r.c) ∧ W.cell? ⟨b, o + k * 4 + 1, none⟩ = some (.int .i64 r.kind) ∧ W.cell? ⟨b, o + k * 4 + 2, none⟩ = some (.int .i64 r.rhs.1) ∧ W.cell? ⟨b, o + k * 4 + 3, none⟩ = some (.int .i64 r.rhs.2)) (by kernel_rfl) (And.intro q1 (HCEL.out _ HPB.out.bel)) (fun hHeld => ?_)
      generalize wr.drew = wd at HPB HBX HBR HBQ hHeld ⊢
      have HLTW := Lib.hid HPB.out.lts
      have HLTC := Lib.hid HPB.out.ltc
      refine tk 0 (some 16) (v := ?_) rfl rfl ?_ ?_
      rotate_left
      · (intro w _; go_simp; (try with_reducible rfl))
      simp only [Act.put, stB, stZ, stS]
      refine tk 2 (some 18) (v := ?_) rfl rfl ?_ ?_
      rotate_left
      · (intro w _; go_simp; (try with_reducible rfl))
      simp only [Act.put, stB, stZ, stS]
      refine tk 3 (some 19) (v := ?_) rfl rfl ?_ ?_
      rotate_left
      · (intro w hSw; (try dsimp only at hSw); ((try obtain ⟨hS0, hS1, hS2, hS3, hS4⟩ := hSw); go_simp); (try with_reducible rfl))
      simp only [Act.put, stB, stZ, stS]
      refine tk 4 (some 20) (v := ?_) rfl rfl ?_ ?_
      rotate_left
      · (intro w _; go_simp; (try with_reducible rfl))
      simp only [Act.put, stB, stZ, stS]
      refine tk 5 (some 21) (v := ?_) rfl rfl ?_ ?_
      rotate_left
      · (intro w hSw; (try dsimp only at hSw); ((try obtain ⟨hS0, hS1, hS2, hS3, hS4⟩ := hSw); go_simp); (try with_reducible rfl))
      simp only [Act.put, stB, stZ, stS]
      refine tk 6 (some 22) (v := ?_) rfl rfl ?_ ?_
      rotate_left
      · (intro w _; go_simp; (try with_reducible rfl))
      simp only [Act.put, stB, stZ, stS]
      refine tk 7 (some 23) (v := ?_) rfl rfl ?_ ?_
      rotate_left
      · (intro w hSw; (try dsimp only at hSw); ((try obtain ⟨hS0, hS1, hS2, hS3, hS4⟩ := hSw); go_simp); (try with_reducible rfl))
      simp only [Act.put, stB, stZ, stS]
      refine tk 9 (some 25) (v := ?_) rfl rfl ?_ ?_
      rotate_left
      · (intro w _; go_simp; (try with_reducible rfl))
      simp only [Act.put, stB, stZ, stS]
      refine tk 10 (some 26) (v := ?_) rfl rfl ?_ ?_
      rotate_left
      · (intro w hSw; (try dsimp only at hSw); ((try obtain ⟨hS0, hS1, hS2, hS3, hS4⟩ := hSw); go_simp); (try with_reducible rfl))
      simp only [Act.put, stB, stZ, stS]
      refine tk 11 (some 27) (v := ?_) rfl rfl ?_ ?_
      rotate_left
      · (intro w _; go_simp; (try with_reducible rfl))
      simp only [Act.put, stB, stZ, stS]
      refine tk 12 (some 28) (v := ?_) rfl rfl ?_ ?_
      rotate_left
      · (intro w hSw; (try dsimp only at hSw); ((try obtain ⟨hS0, hS1, hS2, hS3, hS4⟩ := hSw); go_simp); (try with_reducible rfl))
      simp only [Act.put, stB, stZ, stS]
      refine tk 13 (some 29) (v := ?_) rfl rfl ?_ ?_
      rotate_left
      · (intro w _; go_simp; (try with_reducible rfl))
      simp only [Act.put, stB, stZ, stS]
      refine tk 14 (some 30) (v := ?_) rfl rfl ?_ ?_
      rotate_left
      · (intro w hSw; (try dsimp only at hSw); ((try obtain ⟨hS0, hS1, hS2, hS3, hS4⟩ := hSw); go_simp); (try with_reducible rfl))
      simp only [Act.put, stB, stZ, stS]
      refine tk 15 (some 31) (v := ?_) rfl rfl ?_ ?_
      rotate_left
      · (intro w _; go_simp; (try with_reducible rfl))
      simp only [Act.put, stB, stZ, stS]
      refine tk 16 (some 32) (v := ?_) rfl rfl ?_ ?_
      rotate_left
      · (intro w hSw; (try dsimp only at hSw); ((try obtain ⟨hS0, hS1, hS2, hS3, hS4⟩ := hSw); go_simp); (try with_reducible rfl))
      simp only [Act.put, stB, stZ, stS]
      refine tk 17 (some 33) (v := ?_) rfl rfl ?_ ?_
      rotate_left
      · (intro w _; go_simp; (try with_reducible rfl))
      simp only [Act.put, stB, stZ, stS]
      refine tk 18 (some 34) (v := ?_) rfl rfl ?_ ?_
      rotate_left
      · (intro w hSw; (try dsimp only at hSw); ((try obtain ⟨hS0, hS1, hS2, hS3, hS4⟩ := hSw); go_simp); (try with_reducible rfl))
      simp only [Act.put, stB, stZ, stS]
      refine tk 19 (some 35) (v := ?_) rfl rfl ?_ ?_
      rotate_left
      · (intro w _; go_simp; (try with_reducible rfl))
      simp only [Act.put, stB, stZ, stS]
      refine tk 20 (some 36) (v := ?_) rfl rfl ?_ ?_
      rotate_left
      · (intro w hSw; (try dsimp only at hSw); ((try obtain ⟨hS0, hS1, hS2, hS3, hS4⟩ := hSw); go_simp); (try with_reducible rfl))
      simp only [Act.put, stB, stZ, stS]
      refine wpAnyH_ready (rs := [1, 8]) (by kernel_rfl) (by simp) ?_
      refine (AllReadyH.cons (o := { dst := some 17, op := Op.load 29 (Operand.tmp 16), type := 29, pos := "law.go:47", after := #[{ on := 0, ground := Ground.data }], guard := none }) rfl (fun K hK => ?_) (AllReadyH.cons (o := { dst := some 24, op := Op.call { callee := Callee.value (Operand.func 10), args := #[Operand.tmp 23], argTypes := #[22] }, type := 28, pos := "law.go:47", after := #[{ on := 7, ground := Ground.data }], guard := none }) rfl (fun K hK => ?_) AllReadyH.nil))
      · skip
        have c1 := cell_of_block (j := 1) HBX.out rfl
        go_simp
        clear c1
        refine hK.out _ _ (hHeld) (fun hHeld2 => ?_)
        clear hK K hHeld
        rename _ => hHeld
        try simp only [Act.put, stB, stZ, stS]
        refine wpAnyH_ready (rs := [8]) (by kernel_rfl) (by simp) ?_
        refine (AllReadyH.cons (o := { dst := some 24, op := Op.call { callee := Callee.value (Operand.func 10), args := #[Operand.tmp 23], argTypes := #[22] }, type := 28, pos := "law.go:47", after := #[{ on := 7, ground := Ground.data }], guard := none }) rfl (fun K hK => ?_) AllReadyH.nil)
        go_simp
        have hlo := HLO.out wd HPB.out.bel
        refine (mk10_any r.a r.n r.c r.fs wd hlo.sl hlo.len hlo.ok HLN.out).mono ?_
        rintro e V1 ⟨a7, c7, v7, rfl, hv⟩
        have hb := hv.bel
        have HV7 := Lib.hid (hv.rebase HPB.out.bel)
        have HA7 := Lib.hid (show ∀ z, (Value.slice a7 r.n c7).ownBlock = some z → wd.heap.size ≤ z from fun z hz => (hv.mid.lt z hz).1)
        clear hv hlo
        replace HPB := Lib.hid (HPB.out.call hb)
        replace HBX := Lib.hid ((hb.block pb (lt_of_block HBX.out)).trans HBX.out)
        replace HBR := Lib.hid ((hb.block zb (lt_of_block HBR.out)).trans HBR.out)
        replace HBQ := Lib.hid ((hb.block qb (lt_of_block HBQ.out)).trans HBQ.out)
        have hKK := And.intro (cell_of_block (j := 1) HBQ.out rfl) (HCEL.out _ HPB.out.bel)
        clear hb
        refine hK.out _ _ (hKK) (fun hHeld2 => ?_)
        clear hK K hHeld
        rename _ => hHeld
        try simp only [Act.put, stB, stZ, stS]
        refine wpAnyH_ready (rs := [21]) (by kernel_rfl) (by simp) ?_
        refine (AllReadyH.cons (o := { dst := some 37, op := Op.call { callee := Callee.value (Operand.func 41), args := #[Operand.tmp 36], argTypes := #[96] }, type := 40, pos := "law.go:47", after := #[{ on := 20, ground := Ground.data }, { on := 8, ground := Ground.chain }], guard := none }) rfl (fun K hK => ?_) AllReadyH.nil)
        go_simp
        refine (One_any r.rhs.1 r.rhs.2 V1 HRI.out.1 HRI.out.2).mono ?_
        rintro e V2 ⟨v8, rfl, ho, hq, hb⟩
        unfold Rv.val
        have HO8 := Lib.hid ho
        have HQ8 := Lib.hid hq
        replace HV7 := Lib.hid (HV7.out.call hb)
        clear ho hq
        replace HPB := Lib.hid (HPB.out.call hb)
        replace HBX := Lib.hid ((hb.block pb (lt_of_block HBX.out)).trans HBX.out)
        replace HBR := Lib.hid ((hb.block zb (lt_of_block HBR.out)).trans HBR.out)
        replace HBQ := Lib.hid ((hb.block qb (lt_of_block HBQ.out)).trans HBQ.out)
        have hKK := And.intro (cell_of_block (j := 1) HBQ.out rfl) (HCEL.out _ HPB.out.bel)
        clear hb
        refine hK.out _ _ (hKK) (fun hHeld2 => ?_)
        clear hK K hHeld
        rename _ => hHeld
        try simp only [Act.put, stB, stZ, stS]
        refine tk 22 (some 38) (v := ?_) rfl rfl ?_ ?_
        rotate_left
        · (intro w _; go_simp; (try with_reducible rfl))
        simp only [Act.put, stB, stZ, stS]
        refine wpAnyH_ready (rs := [23]) (by kernel_rfl) (by simp) ?_
        refine (AllReadyH.cons (o := { dst := some 39, op := Op.buildSlice 29 1 #[(0, Operand.tmp 38)], type := 29, pos := "law.go:47", after := #[{ on := 22, ground := Ground.data }], guard := none }) rfl (fun K hK => ?_) AllReadyH.nil)
        go_simp
        have hb := belowBox V2 (.cells #[.slice a7 r.n c7, .int .i64 r.kind, .bool v8.s, .slice v8.a v8.l v8.c, .slice v8.b v8.m v8.d] 45)
        have HBX2 := Lib.hid ((hb.block pb (lt_of_block HBX.out)).trans HBX.out)
        have HM3 := Lib.hid (HPB.out.mid.alloc (.cells #[.slice a7 r.n c7, .int .i64 r.kind, .bool v8.s, .slice v8.a v8.l v8.c, .slice v8.b v8.m v8.d] 45))
        have HS3 := Lib.hid (show Src Try.prog 5 29 (.slice (some ⟨V2.heap.size, 0, none⟩) 1 1) 1 [.slice a7 r.n c7, .int .i64 r.kind, .bool v8.s, .slice v8.a v8.l v8.c, .slice v8.b v8.m v8.d] (V2.alloc (.cells #[.slice a7 r.n c7, .int .i64 r.kind, .bool v8.s, .slice v8.a v8.l v8.c, .slice v8.b v8.m v8.d] 45)) from
          (Sl.lit V2 45 5 1 [.slice a7 r.n c7, .int .i64 r.kind, .bool v8.s, .slice v8.a v8.l v8.c, .slice v8.b v8.m v8.d] (by unfold maxLen; omega) rfl).src (P := Try.prog) Try.underlying29 (fun u hu => by
            simp only [List.mem_cons, List.not_mem_nil, or_false] at hu
            rcases hu with rfl | rfl | rfl | rfl | rfl <;> rfl))
        have HW3 := Lib.hid (show w.heap.size ≤ (V2.alloc (.cells #[.slice a7 r.n c7, .int .i64 r.kind, .bool v8.s, .slice v8.a v8.l v8.c, .slice v8.b v8.m v8.d] 45)).heap.size by have := HPB.out.bel.size; simp; omega)
        have hKK := And.intro (hu hb (cell_of_block (j := 1) HBQ.out rfl)) (HCEL.out _ (bthen HPB.out.bel hb))
        clear hb
        refine hK.out _ _ (hKK) (fun hHeld2 => ?_)
        clear hK K hHeld
        rename _ => hHeld
        try simp only [Act.put, stB, stZ, stS]
        refine wpAnyH_ready (rs := [24]) (by kernel_rfl) (by simp) ?_
        refine (AllReadyH.cons (o := { dst := some 40, op := Op.call { callee := Callee.builtin Builtin.append, args := #[Operand.tmp 17, Operand.tmp 39], argTypes := #[29, 29] }, type := 29, pos := "law.go:47", after := #[{ on := 1, ground := Ground.data }, { on := 23, ground := Ground.data }, { on := 21, ground := Ground.chain }], guard := none }) rfl (fun K hK => ?_) AllReadyH.nil)
        refine step_append_mid (v := .slice pa k pc) (by rfl) _ _ 29 29 (by rfl) tp (.agg #[.slice none 0 0, .int .i64 0, .bool false, .slice none 0 0, .slice none 0 0]) 88 Try.underlying29 hp1 hp2 hp3 hp4 rfl (by rfl) HM3.out _ (by rfl) 1 _ HS3.out (by unfold maxLen; omega) (by omega) HW3.out ?_
        intro a9 c9 V4 hmo hgo hbo
        have hk := grown_keeps hgo
        have hf := Foreign.mid HPB.out.mid
        have HPX := Lib.hid (HPB.out.push (r := ⟨a7, r.n, c7, v7, r.kind, v8⟩) (show VB w (qs v7) a7 r.n c7 v7 V2 from ⟨HV7.out.mid, HV7.out.len, HV7.out.ok, rfl, HV7.out.bel⟩) HO8.out HKI.out (fun z hz q hq e => by have h1 := HA7.out z hz; have h2 := HLTW.out q hq z e; omega) (fun z hz e => by have h1 := HA7.out z hz; have h2 := HLTC.out z e; omega) hmo hgo)
        replace HBX := Lib.hid (hf.box hk (by decide) HBX.out)
        replace HBR := Lib.hid (hf.box hk (by decide) HBR.out)
        replace HBQ := Lib.hid (hf.box hk (by decide) HBQ.out)
        clear hmo hgo hbo hk hf
        dsimp only
        refine hK.out _ _ (And.intro (cell_of_block (j := 1) HBQ.out rfl) (HCEL.out _ HPX.out.bel)) (fun hHeld2 => ?_)
        clear hK K hHeld
        rename _ => hHeld
        try simp only [Act.put, stB, stZ, stS]
        refine tk 25 (some 41) (v := ?_) rfl rfl ?_ ?_
        rotate_left
        · (intro w _; go_simp; (try with_reducible rfl))
        simp only [Act.put, stB, stZ, stS]
        refine wpAnyH_ready (rs := [26]) (by kernel_rfl) (by simp) ?_
        refine (AllReadyH.cons (o := { dst := none, op := Op.store 29 (Operand.tmp 41) (Operand.tmp 40), type := 0, pos := "law.go:47", after := #[{ on := 25, ground := Ground.data }, { on := 24, ground := Ground.data }, { on := 24, ground := Ground.chain }, { on := 0, ground := Ground.phase }, { on := 1, ground := Ground.phase }, { on := 2, ground := Ground.phase }, { on := 3, ground := Ground.phase }, { on := 4, ground := Ground.phase }, { on := 5, ground := Ground.phase }, { on := 6, ground := Ground.phase }, { on := 7, ground := Ground.phase }, { on := 8, ground := Ground.phase }, { on := 9, ground := Ground.phase }, { on := 10, ground := Ground.phase }, { on := 11, ground := Ground.phase }, { on := 12, ground := Ground.phase }, { on := 13, ground := Ground.phase }, { on := 14, ground := Ground.phase }, { on := 15, ground := Ground.phase }, { on := 16, ground := Ground.phase }, { on := 17, ground := Ground.phase }, { on := 18, ground := Ground.phase }, { on := 19, ground := Ground.phase }, { on := 20, ground := Ground.phase }, { on := 21, ground := Ground.phase }, { on := 22, ground := Ground.phase }, { on := 23, ground := Ground.phase }, { on := 24, ground := Ground.phase }], guard := none }) rfl (fun K hK => ?_) AllReadyH.nil)
        have c1 := cell_of_block (j := 1) HBX.out rfl
        have f1 : V4.frozen? ⟨pb, 1, none⟩ = false := free_of_block HBX.out
        go_simp
        clear c1 f1
        have hk := Keeps.setCell V4 ⟨pb, 1, none⟩ (.slice a9 (k + 1) c9) (S := fun z => z = pb) rfl
        have hf := Foreign.one HBX.out HGP.out
        have HPY := Lib.hid (HPX.out.foreign hf hk (by decide) (by decide) (by decide))
        have HBY := Lib.hid (heap_setCell_same V4 pb 1 _ _ (.slice a9 (k + 1) c9) HBX.out)
        have HBRY := Lib.hid ((hk.block zb (lt_of_block HBR.out) HNE.out).trans HBR.out)
        have HBQY := Lib.hid (hf.box hk (by decide) HBQ.out)
        clear hk hf
        refine hK.out _ _ (And.intro (cell_of_block (j := 1) HBQY.out rfl) (HCEL.out _ HPY.out.bel)) (fun hHeld2 => ?_)
        clear hK K hHeld
        rename _ => hHeld
        try simp only [Act.put, stB, stZ, stS]
        refine wpAnyH_done (by kernel_rfl) ?_ _
        (try simp only [Exit.inBlock, Exit.then])
        clear hHeld
        go_wp2_with fail
        go_roundw
        case rel => exact ⟨k + 1, a9, c9, rows ++ [⟨a7, r.n, c7, v7, r.kind, v8⟩], by omega, by go_num, HPY.out, by rw [List.map_append, HMP.out, HTK.out]; exact congrArg (fun z => _ ++ [z]) (by show (qs v7, r.kind, v8.q) = _; rw [HV7.out.q, HQ8.out]; rfl), by rw [List.map_append, HMN.out, HTN.out]; rfl, HBY.out, HBRY.out, HBQY.out⟩
        case measure => simp [intOf]; omega
      · skip
        go_simp
        have hlo := HLO.out wd HPB.out.bel
        refine (mk10_any r.a r.n r.c r.fs wd hlo.sl hlo.len hlo.ok HLN.out).mono ?_
        rintro e V1 ⟨a7, c7, v7, rfl, hv⟩
        have hb := hv.bel
        have HV7 := Lib.hid (hv.rebase HPB.out.bel)
        have HA7 := Lib.hid (show ∀ z, (Value.slice a7 r.n c7).ownBlock = some z → wd.heap.size ≤ z from fun z hz => (hv.mid.lt z hz).1)
        clear hv hlo
        replace HPB := Lib.hid (HPB.out.call hb)
        replace HBX := Lib.hid ((hb.block pb (lt_of_block HBX.out)).trans HBX.out)
        replace HBR := Lib.hid ((hb.block zb (lt_of_block HBR.out)).trans HBR.out)
        replace HBQ := Lib.hid ((hb.block qb (lt_of_block HBQ.out)).trans HBQ.out)
        have hKK := And.intro (cell_of_block (j := 1) HBQ.out rfl) (HCEL.out _ HPB.out.bel)
        clear hb
        refine hK.out _ _ (hKK) (fun hHeld2 => ?_)
        clear hK K hHeld
        rename _ => hHeld
        try simp only [Act.put, stB, stZ, stS]
        refine wpAnyH_ready (rs := [1, 21]) (by kernel_rfl) (by simp) ?_
        refine (AllReadyH.cons (o := { dst := some 17, op := Op.load 29 (Operand.tmp 16), type := 29, pos := "law.go:47", after := #[{ on := 0, ground := Ground.data }], guard := none }) rfl (fun K hK => ?_) (AllReadyH.cons (o := { dst := some 37, op := Op.call { callee := Callee.value (Operand.func 41), args := #[Operand.tmp 36], argTypes := #[96] }, type := 40, pos := "law.go:47", after := #[{ on := 20, ground := Ground.data }, { on := 8, ground := Ground.chain }], guard := none }) rfl (fun K hK => ?_) AllReadyH.nil))
        · skip
          have c1 := cell_of_block (j := 1) HBX.out rfl
          go_simp
          clear c1
          refine hK.out _ _ (hHeld) (fun hHeld2 => ?_)
          clear hK K hHeld
          rename _ => hHeld
          try simp only [Act.put, stB, stZ, stS]
          refine wpAnyH_ready (rs := [21]) (by kernel_rfl) (by simp) ?_
          refine (AllReadyH.cons (o := { dst := some 37, op := Op.call { callee := Callee.value (Operand.func 41), args := #[Operand.tmp 36], argTypes := #[96] }, type := 40, pos := "law.go:47", after := #[{ on := 20, ground := Ground.data }, { on := 8, ground := Ground.chain }], guard := none }) rfl (fun K hK => ?_) AllReadyH.nil)
          go_simp
          refine (One_any r.rhs.1 r.rhs.2 V1 HRI.out.1 HRI.out.2).mono ?_
          rintro e V2 ⟨v8, rfl, ho, hq, hb⟩
          unfold Rv.val
          have HO8 := Lib.hid ho
          have HQ8 := Lib.hid hq
          replace HV7 := Lib.hid (HV7.out.call hb)
          clear ho hq
          replace HPB := Lib.hid (HPB.out.call hb)
          replace HBX := Lib.hid ((hb.block pb (lt_of_block HBX.out)).trans HBX.out)
          replace HBR := Lib.hid ((hb.block zb (lt_of_block HBR.out)).trans HBR.out)
          replace HBQ := Lib.hid ((hb.block qb (lt_of_block HBQ.out)).trans HBQ.out)
          have hKK := And.intro (cell_of_block (j := 1) HBQ.out rfl) (HCEL.out _ HPB.out.bel)
          clear hb
          refine hK.out _ _ (hKK) (fun hHeld2 => ?_)
          clear hK K hHeld
          rename _ => hHeld
          try simp only [Act.put, stB, stZ, stS]
          refine tk 22 (some 38) (v := ?_) rfl rfl ?_ ?_
          rotate_left
          · (intro w _; go_simp; (try with_reducible rfl))
          simp only [Act.put, stB, stZ, stS]
          refine wpAnyH_ready (rs := [23]) (by kernel_rfl) (by simp) ?_
          refine (AllReadyH.cons (o := { dst := some 39, op := Op.buildSlice 29 1 #[(0, Operand.tmp 38)], type := 29, pos := "law.go:47", after := #[{ on := 22, ground := Ground.data }], guard := none }) rfl (fun K hK => ?_) AllReadyH.nil)
          go_simp
          have hb := belowBox V2 (.cells #[.slice a7 r.n c7, .int .i64 r.kind, .bool v8.s, .slice v8.a v8.l v8.c, .slice v8.b v8.m v8.d] 45)
          have HBX2 := Lib.hid ((hb.block pb (lt_of_block HBX.out)).trans HBX.out)
          have HM3 := Lib.hid (HPB.out.mid.alloc (.cells #[.slice a7 r.n c7, .int .i64 r.kind, .bool v8.s, .slice v8.a v8.l v8.c, .slice v8.b v8.m v8.d] 45))
          have HS3 := Lib.hid (show Src Try.prog 5 29 (.slice (some ⟨V2.heap.size, 0, none⟩) 1 1) 1 [.slice a7 r.n c7, .int .i64 r.kind, .bool v8.s, .slice v8.a v8.l v8.c, .slice v8.b v8.m v8.d] (V2.alloc (.cells #[.slice a7 r.n c7, .int .i64 r.kind, .bool v8.s, .slice v8.a v8.l v8.c, .slice v8.b v8.m v8.d] 45)) from
            (Sl.lit V2 45 5 1 [.slice a7 r.n c7, .int .i64 r.kind, .bool v8.s, .slice v8.a v8.l v8.c, .slice v8.b v8.m v8.d] (by unfold maxLen; omega) rfl).src (P := Try.prog) Try.underlying29 (fun u hu => by
              simp only [List.mem_cons, List.not_mem_nil, or_false] at hu
              rcases hu with rfl | rfl | rfl | rfl | rfl <;> rfl))
          have HW3 := Lib.hid (show w.heap.size ≤ (V2.alloc (.cells #[.slice a7 r.n c7, .int .i64 r.kind, .bool v8.s, .slice v8.a v8.l v8.c, .slice v8.b v8.m v8.d] 45)).heap.size by have := HPB.out.bel.size; simp; omega)
          have hKK := And.intro (hu hb (cell_of_block (j := 1) HBQ.out rfl)) (HCEL.out _ (bthen HPB.out.bel hb))
          clear hb
          refine hK.out _ _ (hKK) (fun hHeld2 => ?_)
          clear hK K hHeld
          rename _ => hHeld
          try simp only [Act.put, stB, stZ, stS]
          refine wpAnyH_ready (rs := [24]) (by kernel_rfl) (by simp) ?_
          refine (AllReadyH.cons (o := { dst := some 40, op := Op.call { callee := Callee.builtin Builtin.append, args := #[Operand.tmp 17, Operand.tmp 39], argTypes := #[29, 29] }, type := 29, pos := "law.go:47", after := #[{ on := 1, ground := Ground.data }, { on := 23, ground := Ground.data }, { on := 21, ground := Ground.chain }], guard := none }) rfl (fun K hK => ?_) AllReadyH.nil)
          refine step_append_mid (v := .slice pa k pc) (by rfl) _ _ 29 29 (by rfl) tp (.agg #[.slice none 0 0, .int .i64 0, .bool false, .slice none 0 0, .slice none 0 0]) 88 Try.underlying29 hp1 hp2 hp3 hp4 rfl (by rfl) HM3.out _ (by rfl) 1 _ HS3.out (by unfold maxLen; omega) (by omega) HW3.out ?_
          intro a9 c9 V4 hmo hgo hbo
          have hk := grown_keeps hgo
          have hf := Foreign.mid HPB.out.mid
          have HPX := Lib.hid (HPB.out.push (r := ⟨a7, r.n, c7, v7, r.kind, v8⟩) (show VB w (qs v7) a7 r.n c7 v7 V2 from ⟨HV7.out.mid, HV7.out.len, HV7.out.ok, rfl, HV7.out.bel⟩) HO8.out HKI.out (fun z hz q hq e => by have h1 := HA7.out z hz; have h2 := HLTW.out q hq z e; omega) (fun z hz e => by have h1 := HA7.out z hz; have h2 := HLTC.out z e; omega) hmo hgo)
          replace HBX := Lib.hid (hf.box hk (by decide) HBX.out)
          replace HBR := Lib.hid (hf.box hk (by decide) HBR.out)
          replace HBQ := Lib.hid (hf.box hk (by decide) HBQ.out)
          clear hmo hgo hbo hk hf
          dsimp only
          refine hK.out _ _ (And.intro (cell_of_block (j := 1) HBQ.out rfl) (HCEL.out _ HPX.out.bel)) (fun hHeld2 => ?_)
          clear hK K hHeld
          rename _ => hHeld
          try simp only [Act.put, stB, stZ, stS]
          refine tk 25 (some 41) (v := ?_) rfl rfl ?_ ?_
          rotate_left
          · (intro w _; go_simp; (try with_reducible rfl))
          simp only [Act.put, stB, stZ, stS]
          refine wpAnyH_ready (rs := [26]) (by kernel_rfl) (by simp) ?_
          refine (AllReadyH.cons (o := { dst := none, op := Op.store 29 (Operand.tmp 41) (Operand.tmp 40), type := 0, pos := "law.go:47", after := #[{ on := 25, ground := Ground.data }, { on := 24, ground := Ground.data }, { on := 24, ground := Ground.chain }, { on := 0, ground := Ground.phase }, { on := 1, ground := Ground.phase }, { on := 2, ground := Ground.phase }, { on := 3, ground := Ground.phase }, { on := 4, ground := Ground.phase }, { on := 5, ground := Ground.phase }, { on := 6, ground := Ground.phase }, { on := 7, ground := Ground.phase }, { on := 8, ground := Ground.phase }, { on := 9, ground := Ground.phase }, { on := 10, ground := Ground.phase }, { on := 11, ground := Ground.phase }, { on := 12, ground := Ground.phase }, { on := 13, ground := Ground.phase }, { on := 14, ground := Ground.phase }, { on := 15, ground := Ground.phase }, { on := 16, ground := Ground.phase }, { on := 17, ground := Ground.phase }, { on := 18, ground := Ground.phase }, { on := 19, ground := Ground.phase }, { on := 20, ground := Ground.phase }, { on := 21, ground := Ground.phase }, { on := 22, ground := Ground.phase }, { on := 23, ground := Ground.phase }, { on := 24, ground := Ground.phase }], guard := none }) rfl (fun K hK => ?_) AllReadyH.nil)
          have c1 := cell_of_block (j := 1) HBX.out rfl
          have f1 : V4.frozen? ⟨pb, 1, none⟩ = false := free_of_block HBX.out
          go_simp
          clear c1 f1
          have hk := Keeps.setCell V4 ⟨pb, 1, none⟩ (.slice a9 (k + 1) c9) (S := fun z => z = pb) rfl
          have hf := Foreign.one HBX.out HGP.out
          have HPY := Lib.hid (HPX.out.foreign hf hk (by decide) (by decide) (by decide))
          have HBY := Lib.hid (heap_setCell_same V4 pb 1 _ _ (.slice a9 (k + 1) c9) HBX.out)
          have HBRY := Lib.hid ((hk.block zb (lt_of_block HBR.out) HNE.out).trans HBR.out)
          have HBQY := Lib.hid (hf.box hk (by decide) HBQ.out)
          clear hk hf
          refine hK.out _ _ (And.intro (cell_of_block (j := 1) HBQY.out rfl) (HCEL.out _ HPY.out.bel)) (fun hHeld2 => ?_)
          clear hK K hHeld
          rename _ => hHeld
          try simp only [Act.put, stB, stZ, stS]
          refine wpAnyH_done (by kernel_rfl) ?_ _
          (try simp only [Exit.inBlock, Exit.then])
          clear hHeld
          go_wp2_with fail
          go_roundw
          case rel => exact ⟨k + 1, a9, c9, rows ++ [⟨a7, r.n, c7, v7, r.kind, v8⟩], by omega, by go_num, HPY.out, by rw [List.map_append, HMP.out, HTK.out]; exact congrArg (fun z => _ ++ [z]) (by show (qs v7, r.kind, v8.q) = _; rw [HV7.out.q, HQ8.out]; rfl), by rw [List.map_append, HMN.out, HTN.out]; rfl, HBY.out, HBRY.out, HBQY.out⟩
          case measure => simp [intOf]; omega
        · skip
          go_simp
          refine (One_any r.rhs.1 r.rhs.2 V1 HRI.out.1 HRI.out.2).mono ?_
          rintro e V2 ⟨v8, rfl, ho, hq, hb⟩
          unfold Rv.val
          have HO8 := Lib.hid ho
          have HQ8 := Lib.hid hq
          replace HV7 := Lib.hid (HV7.out.call hb)
          clear ho hq
          replace HPB := Lib.hid (HPB.out.call hb)
          replace HBX := Lib.hid ((hb.block pb (lt_of_block HBX.out)).trans HBX.out)
          replace HBR := Lib.hid ((hb.block zb (lt_of_block HBR.out)).trans HBR.out)
          replace HBQ := Lib.hid ((hb.block qb (lt_of_block HBQ.out)).trans HBQ.out)
          have hKK := And.intro (cell_of_block (j := 1) HBQ.out rfl) (HCEL.out _ HPB.out.bel)
          clear hb
          refine hK.out _ _ (hKK) (fun hHeld2 => ?_)
          clear hK K hHeld
          rename _ => hHeld
          try simp only [Act.put, stB, stZ, stS]
          refine tk 22 (some 38) (v := ?_) rfl rfl ?_ ?_
          rotate_left
          · (intro w _; go_simp; (try with_reducible rfl))
          simp only [Act.put, stB, stZ, stS]
          refine wpAnyH_ready (rs := [1, 23]) (by kernel_rfl) (by simp) ?_
          refine (AllReadyH.cons (o := { dst := some 17, op := Op.load 29 (Operand.tmp 16), type := 29, pos := "law.go:47", after := #[{ on := 0, ground := Ground.data }], guard := none }) rfl (fun K hK => ?_) (AllReadyH.cons (o := { dst := some 39, op := Op.buildSlice 29 1 #[(0, Operand.tmp 38)], type := 29, pos := "law.go:47", after := #[{ on := 22, ground := Ground.data }], guard := none }) rfl (fun K hK => ?_) AllReadyH.nil))
          · skip
            have c1 := cell_of_block (j := 1) HBX.out rfl
            go_simp
            clear c1
            refine hK.out _ _ (hHeld) (fun hHeld2 => ?_)
            clear hK K hHeld
            rename _ => hHeld
            try simp only [Act.put, stB, stZ, stS]
            refine wpAnyH_ready (rs := [23]) (by kernel_rfl) (by simp) ?_
            refine (AllReadyH.cons (o := { dst := some 39, op := Op.buildSlice 29 1 #[(0, Operand.tmp 38)], type := 29, pos := "law.go:47", after := #[{ on := 22, ground := Ground.data }], guard := none }) rfl (fun K hK => ?_) AllReadyH.nil)
            go_simp
            have hb := belowBox V2 (.cells #[.slice a7 r.n c7, .int .i64 r.kind, .bool v8.s, .slice v8.a v8.l v8.c, .slice v8.b v8.m v8.d] 45)
            have HBX2 := Lib.hid ((hb.block pb (lt_of_block HBX.out)).trans HBX.out)
            have HM3 := Lib.hid (HPB.out.mid.alloc (.cells #[.slice a7 r.n c7, .int .i64 r.kind, .bool v8.s, .slice v8.a v8.l v8.c, .slice v8.b v8.m v8.d] 45))
            have HS3 := Lib.hid (show Src Try.prog 5 29 (.slice (some ⟨V2.heap.size, 0, none⟩) 1 1) 1 [.slice a7 r.n c7, .int .i64 r.kind, .bool v8.s, .slice v8.a v8.l v8.c, .slice v8.b v8.m v8.d] (V2.alloc (.cells #[.slice a7 r.n c7, .int .i64 r.kind, .bool v8.s, .slice v8.a v8.l v8.c, .slice v8.b v8.m v8.d] 45)) from
              (Sl.lit V2 45 5 1 [.slice a7 r.n c7, .int .i64 r.kind, .bool v8.s, .slice v8.a v8.l v8.c, .slice v8.b v8.m v8.d] (by unfold maxLen; omega) rfl).src (P := Try.prog) Try.underlying29 (fun u hu => by
                simp only [List.mem_cons, List.not_mem_nil, or_false] at hu
                rcases hu with rfl | rfl | rfl | rfl | rfl <;> rfl))
            have HW3 := Lib.hid (show w.heap.size ≤ (V2.alloc (.cells #[.slice a7 r.n c7, .int .i64 r.kind, .bool v8.s, .slice v8.a v8.l v8.c, .slice v8.b v8.m v8.d] 45)).heap.size by have := HPB.out.bel.size; simp; omega)
            have hKK := And.intro (hu hb (cell_of_block (j := 1) HBQ.out rfl)) (HCEL.out _ (bthen HPB.out.bel hb))
            clear hb
            refine hK.out _ _ (hKK) (fun hHeld2 => ?_)
            clear hK K hHeld
            rename _ => hHeld
            try simp only [Act.put, stB, stZ, stS]
            refine wpAnyH_ready (rs := [24]) (by kernel_rfl) (by simp) ?_
            refine (AllReadyH.cons (o := { dst := some 40, op := Op.call { callee := Callee.builtin Builtin.append, args := #[Operand.tmp 17, Operand.tmp 39], argTypes := #[29, 29] }, type := 29, pos := "law.go:47", after := #[{ on := 1, ground := Ground.data }, { on := 23, ground := Ground.data }, { on := 21, ground := Ground.chain }], guard := none }) rfl (fun K hK => ?_) AllReadyH.nil)
            refine step_append_mid (v := .slice pa k pc) (by rfl) _ _ 29 29 (by rfl) tp (.agg #[.slice none 0 0, .int .i64 0, .bool false, .slice none 0 0, .slice none 0 0]) 88 Try.underlying29 hp1 hp2 hp3 hp4 rfl (by rfl) HM3.out _ (by rfl) 1 _ HS3.out (by unfold maxLen; omega) (by omega) HW3.out ?_
            intro a9 c9 V4 hmo hgo hbo
            have hk := grown_keeps hgo
            have hf := Foreign.mid HPB.out.mid
            have HPX := Lib.hid (HPB.out.push (r := ⟨a7, r.n, c7, v7, r.kind, v8⟩) (show VB w (qs v7) a7 r.n c7 v7 V2 from ⟨HV7.out.mid, HV7.out.len, HV7.out.ok, rfl, HV7.out.bel⟩) HO8.out HKI.out (fun z hz q hq e => by have h1 := HA7.out z hz; have h2 := HLTW.out q hq z e; omega) (fun z hz e => by have h1 := HA7.out z hz; have h2 := HLTC.out z e; omega) hmo hgo)
            replace HBX := Lib.hid (hf.box hk (by decide) HBX.out)
            replace HBR := Lib.hid (hf.box hk (by decide) HBR.out)
            replace HBQ := Lib.hid (hf.box hk (by decide) HBQ.out)
            clear hmo hgo hbo hk hf
            dsimp only
            refine hK.out _ _ (And.intro (cell_of_block (j := 1) HBQ.out rfl) (HCEL.out _ HPX.out.bel)) (fun hHeld2 => ?_)
            clear hK K hHeld
            rename _ => hHeld
            try simp only [Act.put, stB, stZ, stS]
            refine tk 25 (some 41) (v := ?_) rfl rfl ?_ ?_
            rotate_left
            · (intro w _; go_simp; (try with_reducible rfl))
            simp only [Act.put, stB, stZ, stS]
            refine wpAnyH_ready (rs := [26]) (by kernel_rfl) (by simp) ?_
            refine (AllReadyH.cons (o := { dst := none, op := Op.store 29 (Operand.tmp 41) (Operand.tmp 40), type := 0, pos := "law.go:47", after := #[{ on := 25, ground := Ground.data }, { on := 24, ground := Ground.data }, { on := 24, ground := Ground.chain }, { on := 0, ground := Ground.phase }, { on := 1, ground := Ground.phase }, { on := 2, ground := Ground.phase }, { on := 3, ground := Ground.phase }, { on := 4, ground := Ground.phase }, { on := 5, ground := Ground.phase }, { on := 6, ground := Ground.phase }, { on := 7, ground := Ground.phase }, { on := 8, ground := Ground.phase }, { on := 9, ground := Ground.phase }, { on := 10, ground := Ground.phase }, { on := 11, ground := Ground.phase }, { on := 12, ground := Ground.phase }, { on := 13, ground := Ground.phase }, { on := 14, ground := Ground.phase }, { on := 15, ground := Ground.phase }, { on := 16, ground := Ground.phase }, { on := 17, ground := Ground.phase }, { on := 18, ground := Ground.phase }, { on := 19, ground := Ground.phase }, { on := 20, ground := Ground.phase }, { on := 21, ground := Ground.phase }, { on := 22, ground := Ground.phase }, { on := 23, ground := Ground.phase }, { on := 24, ground := Ground.phase }], guard := none }) rfl (fun K hK => ?_) AllReadyH.nil)
            have c1 := cell_of_block (j := 1) HBX.out rfl
            have f1 : V4.frozen? ⟨pb, 1, none⟩ = false := free_of_block HBX.out
            go_simp
            clear c1 f1
            have hk := Keeps.setCell V4 ⟨pb, 1, none⟩ (.slice a9 (k + 1) c9) (S := fun z => z = pb) rfl
            have hf := Foreign.one HBX.out HGP.out
            have HPY := Lib.hid (HPX.out.foreign hf hk (by decide) (by decide) (by decide))
            have HBY := Lib.hid (heap_setCell_same V4 pb 1 _ _ (.slice a9 (k + 1) c9) HBX.out)
            have HBRY := Lib.hid ((hk.block zb (lt_of_block HBR.out) HNE.out).trans HBR.out)
            have HBQY := Lib.hid (hf.box hk (by decide) HBQ.out)
            clear hk hf
            refine hK.out _ _ (And.intro (cell_of_block (j := 1) HBQY.out rfl) (HCEL.out _ HPY.out.bel)) (fun hHeld2 => ?_)
            clear hK K hHeld
            rename _ => hHeld
            try simp only [Act.put, stB, stZ, stS]
            refine wpAnyH_done (by kernel_rfl) ?_ _
            (try simp only [Exit.inBlock, Exit.then])
            clear hHeld
            go_wp2_with fail
            go_roundw
            case rel => exact ⟨k + 1, a9, c9, rows ++ [⟨a7, r.n, c7, v7, r.kind, v8⟩], by omega, by go_num, HPY.out, by rw [List.map_append, HMP.out, HTK.out]; exact congrArg (fun z => _ ++ [z]) (by show (qs v7, r.kind, v8.q) = _; rw [HV7.out.q, HQ8.out]; rfl), by rw [List.map_append, HMN.out, HTN.out]; rfl, HBY.out, HBRY.out, HBQY.out⟩
            case measure => simp [intOf]; omega
          · skip
            go_simp
            have hb := belowBox V2 (.cells #[.slice a7 r.n c7, .int .i64 r.kind, .bool v8.s, .slice v8.a v8.l v8.c, .slice v8.b v8.m v8.d] 45)
            have HBX2 := Lib.hid ((hb.block pb (lt_of_block HBX.out)).trans HBX.out)
            have HM3 := Lib.hid (HPB.out.mid.alloc (.cells #[.slice a7 r.n c7, .int .i64 r.kind, .bool v8.s, .slice v8.a v8.l v8.c, .slice v8.b v8.m v8.d] 45))
            have HS3 := Lib.hid (show Src Try.prog 5 29 (.slice (some ⟨V2.heap.size, 0, none⟩) 1 1) 1 [.slice a7 r.n c7, .int .i64 r.kind, .bool v8.s, .slice v8.a v8.l v8.c, .slice v8.b v8.m v8.d] (V2.alloc (.cells #[.slice a7 r.n c7, .int .i64 r.kind, .bool v8.s, .slice v8.a v8.l v8.c, .slice v8.b v8.m v8.d] 45)) from
              (Sl.lit V2 45 5 1 [.slice a7 r.n c7, .int .i64 r.kind, .bool v8.s, .slice v8.a v8.l v8.c, .slice v8.b v8.m v8.d] (by unfold maxLen; omega) rfl).src (P := Try.prog) Try.underlying29 (fun u hu => by
                simp only [List.mem_cons, List.not_mem_nil, or_false] at hu
                rcases hu with rfl | rfl | rfl | rfl | rfl <;> rfl))
            have HW3 := Lib.hid (show w.heap.size ≤ (V2.alloc (.cells #[.slice a7 r.n c7, .int .i64 r.kind, .bool v8.s, .slice v8.a v8.l v8.c, .slice v8.b v8.m v8.d] 45)).heap.size by have := HPB.out.bel.size; simp; omega)
            have hKK := And.intro (hu hb (cell_of_block (j := 1) HBQ.out rfl)) (HCEL.out _ (bthen HPB.out.bel hb))
            clear hb
            refine hK.out _ _ (hKK) (fun hHeld2 => ?_)
            clear hK K hHeld
            rename _ => hHeld
            try simp only [Act.put, stB, stZ, stS]
            refine wpAnyH_ready (rs := [1]) (by kernel_rfl) (by simp) ?_
            refine (AllReadyH.cons (o := { dst := some 17, op := Op.load 29 (Operand.tmp 16), type := 29, pos := "law.go:47", after := #[{ on := 0, ground := Ground.data }], guard := none }) rfl (fun K hK => ?_) AllReadyH.nil)
            have c1 := cell_of_block (j := 1) HBX2.out rfl
            go_simp
            clear c1
            refine hK.out _ _ (hHeld) (fun hHeld2 => ?_)
            clear hK K hHeld
            rename _ => hHeld
            try simp only [Act.put, stB, stZ, stS]
            refine wpAnyH_ready (rs := [24]) (by kernel_rfl) (by simp) ?_
            refine (AllReadyH.cons (o := { dst := some 40, op := Op.call { callee := Callee.builtin Builtin.append, args := #[Operand.tmp 17, Operand.tmp 39], argTypes := #[29, 29] }, type := 29, pos := "law.go:47", after := #[{ on := 1, ground := Ground.data }, { on := 23, ground := Ground.data }, { on := 21, ground := Ground.chain }], guard := none }) rfl (fun K hK => ?_) AllReadyH.nil)
            refine step_append_mid (v := .slice pa k pc) (by rfl) _ _ 29 29 (by rfl) tp (.agg #[.slice none 0 0, .int .i64 0, .bool false, .slice none 0 0, .slice none 0 0]) 88 Try.underlying29 hp1 hp2 hp3 hp4 rfl (by rfl) HM3.out _ (by rfl) 1 _ HS3.out (by unfold maxLen; omega) (by omega) HW3.out ?_
            intro a9 c9 V4 hmo hgo hbo
            have hk := grown_keeps hgo
            have hf := Foreign.mid HPB.out.mid
            have HPX := Lib.hid (HPB.out.push (r := ⟨a7, r.n, c7, v7, r.kind, v8⟩) (show VB w (qs v7) a7 r.n c7 v7 V2 from ⟨HV7.out.mid, HV7.out.len, HV7.out.ok, rfl, HV7.out.bel⟩) HO8.out HKI.out (fun z hz q hq e => by have h1 := HA7.out z hz; have h2 := HLTW.out q hq z e; omega) (fun z hz e => by have h1 := HA7.out z hz; have h2 := HLTC.out z e; omega) hmo hgo)
            replace HBX := Lib.hid (hf.box hk (by decide) HBX.out)
            replace HBR := Lib.hid (hf.box hk (by decide) HBR.out)
            replace HBQ := Lib.hid (hf.box hk (by decide) HBQ.out)
            clear hmo hgo hbo hk hf
            dsimp only
            refine hK.out _ _ (And.intro (cell_of_block (j := 1) HBQ.out rfl) (HCEL.out _ HPX.out.bel)) (fun hHeld2 => ?_)
            clear hK K hHeld
            rename _ => hHeld
            try simp only [Act.put, stB, stZ, stS]
            refine tk 25 (some 41) (v := ?_) rfl rfl ?_ ?_
            rotate_left
            · (intro w _; go_simp; (try with_reducible rfl))
            simp only [Act.put, stB, stZ, stS]
            refine wpAnyH_ready (rs := [26]) (by kernel_rfl) (by simp) ?_
            refine (AllReadyH.cons (o := { dst := none, op := Op.store 29 (Operand.tmp 41) (Operand.tmp 40), type := 0, pos := "law.go:47", after := #[{ on := 25, ground := Ground.data }, { on := 24, ground := Ground.data }, { on := 24, ground := Ground.chain }, { on := 0, ground := Ground.phase }, { on := 1, ground := Ground.phase }, { on := 2, ground := Ground.phase }, { on := 3, ground := Ground.phase }, { on := 4, ground := Ground.phase }, { on := 5, ground := Ground.phase }, { on := 6, ground := Ground.phase }, { on := 7, ground := Ground.phase }, { on := 8, ground := Ground.phase }, { on := 9, ground := Ground.phase }, { on := 10, ground := Ground.phase }, { on := 11, ground := Ground.phase }, { on := 12, ground := Ground.phase }, { on := 13, ground := Ground.phase }, { on := 14, ground := Ground.phase }, { on := 15, ground := Ground.phase }, { on := 16, ground := Ground.phase }, { on := 17, ground := Ground.phase }, { on := 18, ground := Ground.phase }, { on := 19, ground := Ground.phase }, { on := 20, ground := Ground.phase }, { on := 21, ground := Ground.phase }, { on := 22, ground := Ground.phase }, { on := 23, ground := Ground.phase }, { on := 24, ground := Ground.phase }], guard := none }) rfl (fun K hK => ?_) AllReadyH.nil)
            have c1 := cell_of_block (j := 1) HBX.out rfl
            have f1 : V4.frozen? ⟨pb, 1, none⟩ = false := free_of_block HBX.out
            go_simp
            clear c1 f1
            have hk := Keeps.setCell V4 ⟨pb, 1, none⟩ (.slice a9 (k + 1) c9) (S := fun z => z = pb) rfl
            have hf := Foreign.one HBX.out HGP.out
            have HPY := Lib.hid (HPX.out.foreign hf hk (by decide) (by decide) (by decide))
            have HBY := Lib.hid (heap_setCell_same V4 pb 1 _ _ (.slice a9 (k + 1) c9) HBX.out)
            have HBRY := Lib.hid ((hk.block zb (lt_of_block HBR.out) HNE.out).trans HBR.out)
            have HBQY := Lib.hid (hf.box hk (by decide) HBQ.out)
            clear hk hf
            refine hK.out _ _ (And.intro (cell_of_block (j := 1) HBQY.out rfl) (HCEL.out _ HPY.out.bel)) (fun hHeld2 => ?_)
            clear hK K hHeld
            rename _ => hHeld
            try simp only [Act.put, stB, stZ, stS]
            refine wpAnyH_done (by kernel_rfl) ?_ _
            (try simp only [Exit.inBlock, Exit.then])
            clear hHeld
            go_wp2_with fail
            go_roundw
            case rel => exact ⟨k + 1, a9, c9, rows ++ [⟨a7, r.n, c7, v7, r.kind, v8⟩], by omega, by go_num, HPY.out, by rw [List.map_append, HMP.out, HTK.out]; exact congrArg (fun z => _ ++ [z]) (by show (qs v7, r.kind, v8.q) = _; rw [HV7.out.q, HQ8.out]; rfl), by rw [List.map_append, HMN.out, HTN.out]; rfl, HBY.out, HBRY.out, HBQY.out⟩
            case measure => simp [intOf]; omega
    · obtain rfl : k = rn := by omega
      rw [List.take_of_length_le (by rw [List.length_map, HLEN.out]; exact Nat.le_refl _)] at hmp hmn
      replace HMP := Lib.hid hmp
      replace HMN := Lib.hid hmn
      have m0 := cell_of_block (j := 0) hbx rfl
      have m1 := cell_of_block (j := 1) hbx rfl
      have r0 := cell_of_block (j := 0) hbr rfl
      have r1 := cell_of_block (j := 1) hbr rfl
      have f0 : wr.frozen? ⟨zb, 0, none⟩ = false := free_of_block hbr
      have f1 : wr.frozen? ⟨zb, 1, none⟩ = false := free_of_block hbr
      clear hpr hmp hmn hbx hbr hbq
      go_wp2_with fail
      have s1 := heap_setCell_same wr zb 0 _ _ (.slice ca cn cc) HBR.out
      have s2 := heap_setCell_same _ zb 1 _ _ (.slice pa k pc) s1
      have j0 := cell_of_block (j := 0) s2 rfl
      have j1 := cell_of_block (j := 1) s2 rfl
      refine bodyPost_ret (v := .agg #[.slice ca cn cc, .slice pa k pc]) (by simp [results, Try.results9, go_sem, j0, j1]) rfl ?_
      have hk2 := (Keeps.setCell wr ⟨zb, 0, none⟩ (.slice ca cn cc) (S := fun z => z = zb) rfl).trans (Keeps.setCell _ ⟨zb, 1, none⟩ (.slice pa k pc) (S := fun z => z = zb) rfl) fun _ _ h => h
      exact ⟨ca, cc, pa, pc, cs, rows, rfl, HPB.out.foreign (Foreign.one HBR.out HGZ.out) hk2 (by decide) (by decide) (by decide), HCQ.out, HMP.out, HMN.out⟩
end Go.Proofs.Ytndndfobkbeolaa
namespace Go.Proofs.Ytndndfobkbeolaa
open Go.RowKit Go.Extern.Stop Go.Stop Go.Extern
section
variable {w0 W W' : World} {l : List Rat} {a : Option Addr} {n c : Nat} {vs : List Rv} {S : Nat → Prop}
theorem VB.keeps (h : VB w0 l a n c vs W) (hk : Keeps W W' S) (hn : ∀ z, (Value.slice a n c).ownBlock = some z → ¬ S z) (hw : ∀ z, S z → ¬ WordB W z) (hg : ∀ z, S z → w0.heap.size ≤ z) : VB w0 l a n c vs W' :=
  ⟨h.mid.keeps hk hn, h.len, fun v hv => (h.ok v hv).keeps hk hw, h.q, h.bel.trans (hk.below h.bel.size hg)⟩
end
structure PrP (w0 : World) (ca : Option Addr) (cn cc : Nat) (cs : List Rv) (rows : List PRow) (W : World) : Prop where
  cost : VB w0 (qs cs) ca cn cc cs W
  ok : ∀ r, r ∈ rows → VB w0 (qs r.coef) r.a r.n r.c r.coef W ∧ r.rhs.ok W ∧ I64 r.kind ∧ ApartS r.a r.n r.c ca cn cc
  nod : rows.Pairwise fun r s => ApartS r.a r.n r.c s.a s.n s.c
  bel : Below w0.heap.size w0 W
section
variable {w0 W W' : World} {ca : Option Addr} {cn cc : Nat} {ra : Option Addr} {rn rc : Nat} {cs : List Rv} {rows : List PRow} {S : Nat → Prop}
theorem PrB.p (h : PrB w0 ca cn cc ra rn rc cs rows W) : PrP w0 ca cn cc cs rows W := ⟨h.cost, h.ok, h.nod, h.bel⟩
theorem PrP.b (h : PrP w0 ca cn cc cs rows W) (hm : Mid W w0.heap.size 45 5 (.slice ra rn rc) rn (rows.flatMap prowCells)) (hl : rows.length = rn) : PrB w0 ca cn cc ra rn rc cs rows W := ⟨h.cost, hm, hl, h.ok, h.nod, h.bel⟩
theorem PrP.call (h : PrP w0 ca cn cc cs rows W) (hb : Below W.heap.size W W') : PrP w0 ca cn cc cs rows W' :=
  ⟨h.cost.call hb, fun r hr => ⟨(h.ok r hr).1.call hb, (h.ok r hr).2.1.below hb, (h.ok r hr).2.2⟩, h.nod, bthen h.bel hb⟩
theorem PrP.foreign {U : TypeId} (h : PrP w0 ca cn cc cs rows W) (hf : Foreign W w0.heap.size U S) (hk : Keeps W W' S) (h1 : 40 ≠ U) (h3 : U ≠ 128) : PrP w0 ca cn cc cs rows W' :=
  ⟨h.cost.foreign hf hk h1 h3, fun r hr => ⟨(h.ok r hr).1.foreign hf hk h1 h3, hf.rv hk h3 (h.ok r hr).2.1, (h.ok r hr).2.2⟩, h.nod, h.bel.trans (hk.below h.bel.size hf.ge)⟩
theorem ApartS.symm {a a' : Option Addr} {n c n' c' : Nat} (h : ApartS a n c a' n' c') : ApartS a' n' c' a n c := fun z h1 h2 => h z h2 h1
theorem PrP.apart (h : PrP w0 ca cn cc cs rows W) {i j : Nat} {r s : PRow} (hi : rows[i]? = some r) (hj : rows[j]? = some s) (hne : i ≠ j) : ApartS r.a r.n r.c s.a s.n s.c := by
  obtain ⟨hi1, hi2⟩ := List.getElem?_eq_some_iff.1 hi
  obtain ⟨hj1, hj2⟩ := List.getElem?_eq_some_iff.1 hj
  have hp := List.pairwise_iff_getElem.1 h.nod
  rcases Nat.lt_or_gt_of_ne hne with hlt | hlt
  · have := hp i j hi1 hj1 hlt; rw [hi2, hj2] at this; exact this
  · have := hp j i hj1 hi1 hlt; rw [hi2, hj2] at this; exact this.symm
end
end Go.Proofs.Ytndndfobkbeolaa
namespace Go.Proofs.Ytndndfobkbeolaa
open Go.RowKit Go.Extern.Stop Go.Stop Go.Extern
theorem PrB.rebase {w w1 W : World} {ca : Option Addr} {cn cc : Nat} {ra : Option Addr} {rn rc : Nat} {cs : List Rv} {rows : List PRow} (h : PrB w1 ca cn cc ra rn rc cs rows W) (hb : Below w.heap.size w w1) : PrB w ca cn cc ra rn rc cs rows W :=
  ⟨h.cost.rebase hb, h.mid.mono hb.size, h.len, fun r hr => ⟨(h.ok r hr).1.rebase hb, (h.ok r hr).2⟩, h.nod, bthen hb h.bel⟩
end Go.Proofs.Ytndndfobkbeolaa
namespace Go.Proofs.Ytndndfobkbeolaa
open Go.RowKit Go.Extern.Stop Go.Stop Go.Extern
def FewL (l : List Rat) : Prop := ∀ q, q ∈ l → Few q
end Go.Proofs.Ytndndfobkbeolaa
namespace Go.Proofs.Ytndndfobkbeolaa
open Go.RowKit Go.Extern.Stop Go.Stop Go.Extern
section
variable {w0 W W' : World} {ca : Option Addr} {cn cc : Nat} {ra : Option Addr} {rn rc : Nat} {cs : List Rv} {rows : List PRow} {S : Nat → Prop}
theorem PrB.typed (h : PrB w0 ca cn cc ra rn rc cs rows W) {z : Nat} (hz : (Value.slice ca cn cc).ownBlock = some z) : ∃ ds, W.heap[z]? = some (.cells ds 40 (0, 0)) := h.cost.mid.typed hz
end
def Short (q : Rat) : Prop := lenW q.num.natAbs ≤ 1 ∧ lenW q.den ≤ 1
theorem Short.few {q : Rat} (h : Short q) : Few q := ⟨Nat.le_trans h.1 (by omega), h.2⟩
structure RightL (m : Nat) (rows : List PRow) : Prop where
  coef : ∀ r, r ∈ rows → ∀ q, q ∈ qs r.coef → Short q
  rhs : ∀ r, r ∈ rows → Short r.rhs.q
  len : ∀ r, r ∈ rows → (qs r.coef).length = m
  kind : ∀ r, r ∈ rows → 1 ≤ r.kind ∧ r.kind ≤ 3
theorem RightL.few {m : Nat} {rows : List PRow} (h : RightL m rows) : ∀ r, r ∈ rows → FewL (qs r.coef) ∧ Few r.rhs.q := fun r hr => ⟨fun q hq => (h.coef r hr q hq).few, (h.rhs r hr).few⟩
end Go.Proofs.Ytndndfobkbeolaa
