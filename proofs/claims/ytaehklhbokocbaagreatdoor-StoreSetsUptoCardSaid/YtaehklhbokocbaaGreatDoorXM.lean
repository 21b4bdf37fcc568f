/-
  What the laws of a store stand on, part M: contracts and plain laws of LPlay, LInts, LFrame, LBack0; the conditions are each law's own.
-/
import Derived.Test.YtaehklhbokocbaaGreatDoorXL
import Derived.BigQuiet
set_option linter.unusedVariables false
set_option linter.unusedSimpArgs false
namespace Go.Proofs.YtaehklhbokocbaaGreatDoor
open Go.RowKit Go.Extern.Stop Go.Stop Go.Extern
abbrev ZA := XA × Option Addr × Nat
def zCells (z : ZA) : List Value := [IV z.1.d, IV z.1.row, IV z.1.col, IV z.1.kind, IV z.1.v.1, IV z.1.v.2, .slice z.2.1 z.1.es.length z.2.2]
theorem zCells_len (z : ZA) : (zCells z).length = 7 := rfl
structure Scr (w : World) (v : Value) (zs : List ZA) : Prop where
  sl : Sl w 7 v zs.length (zs.flatMap zCells)
  ok : ∀ z, z ∈ zs → XOk z.1 ∧ Sl w 3 (.slice z.2.1 z.1.es.length z.2.2) z.1.es.length (z.1.es.flatMap enCells)
def acts (zs : List ZA) : List XA := zs.map (·.1)
theorem Scr.below {w w' : World} {v : Value} {zs : List ZA} (h : Scr w v zs) (hb : Below w.heap.size w w') : Scr w' v zs := ⟨h.sl.below hb, fun z hz => ⟨(h.ok z hz).1, (h.ok z hz).2.below hb⟩⟩
theorem z_get {w : World} {a : Option Addr} {c : Nat} {zs : List ZA} (h : Sl w 7 (.slice a zs.length c) zs.length (zs.flatMap zCells)) (k : Nat) (hk : k < zs.length) : ∃ b o, a = some ⟨b, o, none⟩ ∧ b < w.heap.size ∧ w.cell? ⟨b, o + k * 7, none⟩ = some (.int .i64 zs[k].1.d) ∧ w.cell? ⟨b, o + k * 7 + 1, none⟩ = some (.int .i64 zs[k].1.row) ∧ w.cell? ⟨b, o + k * 7 + 2, none⟩ = some (.int .i64 zs[k].1.col) ∧ w.cell? ⟨b, o + k * 7 + 3, none⟩ = some (.int .i64 zs[k].1.kind) ∧ w.cell? ⟨b, o + k * 7 + 4, none⟩ = some (.int .i64 zs[k].1.v.1) ∧ w.cell? ⟨b, o + k * 7 + 5, none⟩ = some (.int .i64 zs[k].1.v.2) ∧ w.cell? ⟨b, o + k * 7 + 6, none⟩ = some (.slice zs[k].2.1 zs[k].1.es.length zs[k].2.2) := by
  obtain ⟨b, o, c', e, h1, h2, h3, h4⟩ := h.plain (by omega)
  cases e
  have hc := fun j u hj => h4 _ u (flat_at zCells 7 zCells_len zs k hk j u hj)
  have c0 := hc 0 _ rfl
  have c1 := hc 1 _ rfl
  have c2 := hc 2 _ rfl
  have c3 := hc 3 _ rfl
  have c4 := hc 4 _ rfl
  have c5 := hc 5 _ rfl
  have c6 := hc 6 _ rfl
  simp only [← Nat.add_assoc, Nat.add_zero] at c0 c1 c2 c3 c4 c5 c6
  exact ⟨b, o, rfl, h3, c0, c1, c2, c3, c4, c5, c6⟩
theorem rb_new (w : World) : RB (w.alloc (.cells #[.slice none 0 0, .slice none 0 0, .slice none 0 0, .slice none 0 0, .slice none 0 0, .slice none 0 0, .int .i64 0, .int .i64 0] 32)) w.heap.size (fun k => k = w.heap.size) RM.new := by
  refine ⟨⟨none, none, none, none, none, none, 0, 0, 0, 0, 0, 0⟩, ⟨heap_alloc_new _ _, ⟨fun p hp => ?_, ?_⟩, rfl, fun k hk => ?_, fun k hk => by rw [hk]; simp⟩, fun k hk => ?_⟩
  · simp only [RH.ps, RM.new, List.map_nil, List.flatMap_nil, List.length_nil, List.mem_cons, List.not_mem_nil, or_false] at hp
    rcases hp with rfl | rfl | rfl | rfl | rfl | rfl <;> exact Mid.nil _ _ _ _
  · unfold RH.ps RM.new
    refine List.Pairwise.cons (fun q _ k h => ?_) (List.Pairwise.cons (fun q _ k h => ?_) (List.Pairwise.cons (fun q _ k h => ?_) (List.Pairwise.cons (fun q _ k h => ?_) (List.Pairwise.cons (fun q _ k h => ?_) (List.pairwise_singleton _ _)))))
    all_goals cases h
  · obtain ⟨p, hp, hv⟩ := hk
    simp only [RH.ps, RM.new, List.map_nil, List.flatMap_nil, List.length_nil, List.mem_cons, List.not_mem_nil, or_false] at hp
    rcases hp with rfl | rfl | rfl | rfl | rfl | rfl <;> cases hv
  · rw [hk]
    exact noWord_of (heap_alloc_new _ _) (by decide)
theorem load_act {zs : List ZA} {z : ZA} (h : z ∈ zs) : z.1.es.length + 1 ≤ load (acts zs) := by
  unfold load acts
  induction zs with
  | nil => cases h
  | cons y r ih =>
    simp only [List.map_cons, List.sum_cons]
    rcases List.mem_cons.1 h with rfl | h
    · omega
    · have := ih h; omega
theorem acts_len (zs : List ZA) : (acts zs).length = zs.length := by unfold acts; rw [List.length_map]
structure Behind (xs : List XA) (k : Nat) : Prop where
  wf : WF (AS.new.run (xs.take k))
  rw : RWf (RM.new.run (xs.take k))
  co : Coup (AS.new.run (xs.take k)) (RM.new.run (xs.take k))
  lr : (AS.new.run (xs.take k)).lr ≤ (load xs : Int)
  lc : (AS.new.run (xs.take k)).lc ≤ (load xs : Int)
  lr' : (RM.new.run (xs.take k)).lr ≤ (load xs : Int)
  lc' : (RM.new.run (xs.take k)).lc ≤ (load xs : Int)
  cells : (RM.new.run (xs.take k)).cells.length ≤ load xs
theorem behind (xs : List XA) (k : Nat) : Behind xs k := by
  have h := Played.upto xs k
  have h1 := load_take xs k
  have h2 := load_len (xs.take k)
  have h3 := h.lr
  have h4 := h.lc
  have h5 := h.cells
  refine ⟨h.wf, h.co.wf h.wf, h.co, by omega, by omega, by rw [h.co.lr]; omega, by rw [h.co.lc]; omega, by omega⟩
theorem acts_get {zs : List ZA} {k : Nat} (hk : k < zs.length) : (acts zs)[k]'(by rw [acts_len]; exact hk) = zs[k].1 := by simp [acts]
theorem run_next (zs : List ZA) (k : Nat) (hk : k < zs.length) : AS.new.run ((acts zs).take (k + 1)) = ((AS.new.run ((acts zs).take k)).act zs[k].1).2 := by
  rw [AS.run_take _ _ _ (by rw [acts_len]; exact hk), acts_get hk]
theorem rrun_next (zs : List ZA) (k : Nat) (hk : k < zs.length) : RM.new.run ((acts zs).take (k + 1)) = ((RM.new.run ((acts zs).take k)).act zs[k].1).2 := by
  rw [RM.run_take _ _ _ (by rw [acts_len]; exact hk), acts_get hk]
theorem does_at (w0 w : World) (sb rb : Nat) (G H : Nat → Prop) (a : Option Addr) (c : Nat) (zs : List ZA) (k : Nat) (hk : k < zs.length) (hs : Scr w0 (.slice a zs.length c) zs) (hg : Hg w0) (hB : load (acts zs) ≤ 1048576)
    (hc : Ctx w0 w sb G (AS.new.run ((acts zs).take k)) rb H (RM.new.run ((acts zs).take k))) :
    Calls Tryz.prog 12 #[.pointer (some ⟨sb, 0, none⟩), .pointer (some ⟨rb, 0, none⟩), actV zs[k].1 zs[k].2.1 zs[k].2.2] w fun e w' => e = .returned (.bool true) ∧ CtxA w0 w sb G (AS.new.run ((acts zs).take (k + 1))) rb H (RM.new.run ((acts zs).take (k + 1))) w' := by
  have hb := behind (acts zs) k
  have hm : zs[k] ∈ zs := List.getElem_mem hk
  have hl := load_act hm
  have h1 := hb.lr
  have h2 := hb.lc
  have h3 := hb.lr'
  have h4 := hb.lc'
  have h5 := hb.cells
  refine (does_any w0 w sb rb G H _ _ zs[k].1 zs[k].2.1 zs[k].2.2 hc hb.wf hb.rw (hs.ok _ hm).1 (hs.ok _ hm).2 hg (by omega) (by omega) (by omega) (by omega) (by omega) (by omega)).mono ?_
  rintro e w' ⟨b, rfl, hbt, ha⟩
  rw [← run_next zs k hk, ← rrun_next zs k hk] at ha
  exact ⟨by rw [hbt (hb.co.act hb.wf zs[k].1).1], ha⟩
theorem actV_eq (z : ZA) : actV z.1 z.2.1 z.2.2 = .agg #[.int .i64 z.1.d, .int .i64 z.1.row, .int .i64 z.1.col, .int .i64 z.1.kind, .int .i64 z.1.v.1, .int .i64 z.1.v.2, .slice z.2.1 z.1.es.length z.2.2] := rfl
set_option maxRecDepth 100000 in
set_option maxHeartbeats 8000000 in
theorem played_any (a : Option Addr) (c : Nat) (zs : List ZA) (w : World) (hs : Scr w (.slice a zs.length c) zs) (hg : Hg w) (hB : load (acts zs) ≤ 1048576) :
    Calls Tryz.prog 18 #[.slice a zs.length c] w (FreshS w (AS.new.run (acts zs))) := by
  have hlen := hs.sl.lenI
  have HS := Lib.hid hs
  have HG := Lib.hid hg
  clear hs hg
  go_enter Tryz.func18, Tryz.ntmps18
  go_wp2_with fail
  refine (as_new w).mono ?_
  rintro e w1 ⟨sb, G1, rfl, hsa1, hg1, hb1⟩
  obtain ⟨w2, hw2⟩ : ∃ w2, w1.alloc (.cells #[.slice none 0 0, .slice none 0 0, .slice none 0 0, .slice none 0 0, .slice none 0 0, .slice none 0 0, .int .i64 0, .int .i64 0] 32) = w2 := ⟨_, rfl⟩
  obtain ⟨rb, hrb⟩ : ∃ rb, w1.heap.size = rb := ⟨_, rfl⟩
  have hc : Ctx w w2 sb G1 AS.new rb (fun k => k = rb) RM.new := by
    have hb2 := belowBox w1 (.cells #[.slice none 0 0, .slice none 0 0, .slice none 0 0, .slice none 0 0, .slice none 0 0, .slice none 0 0, .int .i64 0, .int .i64 0] 32)
    have hr := rb_new w1
    have hz := hb1.size
    rw [hw2] at hb2 hr
    rw [hrb] at hr hz
    exact ⟨hsa1.below hb2, hr, fun k h1 h2 => by have := hsa1.lt k h1; omega, hg1, fun k h => by omega, hb1.trans (hb2.mono hb1.size)⟩
  have HC := Lib.hid hc
  have HW2 := Lib.hid hw2
  have HRB := Lib.hid hrb
  clear hsa1 hg1 hb1 hc hw2 hrb
  go_upto_region 2 with fail
  (try simp only [HW2.out, HRB.out])
  clear HW2 HRB
  go_wp2_with fail
  go_loopw [5] (fun iv wr => ∃ (k : Nat) (G H : Nat → Prop), k ≤ zs.length ∧ iv = .int .i64 k ∧ Ctx w wr sb G (AS.new.run ((acts zs).take k)) rb H (RM.new.run ((acts zs).take k))) (fun iv _ => zs.length - (intOf iv).toNat)
  case atStart => exact ⟨0, G1, _, Nat.zero_le _, rfl, by rw [List.take_zero]; exact HC.out⟩
  case round =>
    obtain ⟨k, G, H, hk, rfl, hc⟩ := hrel
    by_cases hlt : k < zs.length
    · obtain ⟨b, o, e1, hbl, y0, y1, y2, y3, y4, y5, y6⟩ := z_get (HS.out.below hc.bl).sl k hlt
      obtain ⟨z, hz⟩ : ∃ z, zs[k] = z := ⟨_, rfl⟩
      have hd := does_at w wr sb rb G H a c zs k hlt HS.out HG.out hB hc
      rw [hz] at y0 y1 y2 y3 y4 y5 y6 hd
      rw [actV_eq] at hd
      have HD := Lib.hid hd
      have i0 : (0 : Int) ≤ (k : Int) := by omega
      have i1 : (k : Int) < (zs.length : Int) := by omega
      subst e1
      clear hd hc hz
      go_wp2_with fail
      refine HD.out.mono ?_
      rintro e w3 ⟨rfl, ha⟩
      have HA := Lib.hid ha
      clear ha y0 y1 y2 y3 y4 y5 y6
      go_wp2_with fail
      go_roundw
      case rel =>
        obtain ⟨G3, H3, hc3, _⟩ := HA.out
        exact ⟨k + 1, G3, H3, by omega, by go_num, hc3⟩
      case measure => simp [intOf]; omega
    · obtain rfl : k = zs.length := by omega
      rw [← acts_len zs, List.take_length] at hc
      have HC9 := Lib.hid hc
      clear hc
      go_wp2_with fail
      go_ret
      exact ⟨sb, G, rfl, HC9.out.sa, HC9.out.g0, HC9.out.bl⟩
end Go.Proofs.YtaehklhbokocbaaGreatDoor
namespace Go.Proofs.YtaehklhbokocbaaGreatDoor
open Go.RowKit Go.Extern.Stop Go.Stop Go.Extern
theorem ints_take {la lb : List Int} {k : Nat} (h : la.take k = lb.take k) (h1 : k < la.length) (h2 : k < lb.length) (he : la[k] = lb[k]) : la.take (k + 1) = lb.take (k + 1) := by
  rw [List.take_succ_eq_append_getElem h1, List.take_succ_eq_append_getElem h2, h, he]
theorem ints_not {la lb : List Int} {k : Nat} (h1 : k < la.length) (h2 : k < lb.length) (he : la[k] ≠ lb[k]) : la ≠ lb := fun h => by subst h; exact he rfl
set_option maxRecDepth 100000 in
set_option maxHeartbeats 4000000 in
theorem ints_any (a b : Option Addr) (c d : Nat) (la lb : List Int) (w : World) (ha : Sl w 1 (.slice a la.length c) la.length (la.map IV)) (hb : Sl w 1 (.slice b lb.length d) lb.length (lb.map IV)) :
    Calls Tryz.prog 33 #[.slice a la.length c, .slice b lb.length d] w fun e w' => e = .returned (.bool (decide (la = lb))) ∧ Below w.heap.size w w' := by
  have hla := ha.lenI
  have hlb := hb.lenI
  by_cases hl : la.length = lb.length
  · have HA := Lib.hid ha
    have HB := Lib.hid hb
    have HL := Lib.hid hl
    have hnn : ((la.length : Int) != (lb.length : Int)) = false := by rw [hl]; simp
    clear ha hb
    go_enter Tryz.func33, Tryz.ntmps33
    go_wp2
    go_loopw [5] (fun iv wr => ∃ k : Nat, k ≤ la.length ∧ iv = .int .i64 k ∧ la.take k = lb.take k ∧ Below w.heap.size w wr) (fun iv _ => la.length - (intOf iv).toNat)
    case atStart => exact ⟨0, Nat.zero_le _, rfl, by simp, Below.refl _ _⟩
    case round =>
      obtain ⟨k, hk, rfl, ht, hbl⟩ := hrel
      by_cases hlt : k < la.length
      · have hlt2 : k < lb.length := by rw [← HL.out]; exact hlt
        obtain ⟨b1, o1, e1, h1, y1⟩ := int_get (HA.out.below hbl) k hlt hlt
        obtain ⟨b2, o2, e2, h2, y2⟩ := int_get (HB.out.below hbl) k hlt2 hlt2
        obtain ⟨x, hx⟩ : ∃ x, la[k] = x := ⟨_, rfl⟩
        obtain ⟨y, hy⟩ : ∃ y, lb[k] = y := ⟨_, rfl⟩
        rw [hx] at y1
        rw [hy] at y2
        have i0 : (0 : Int) ≤ (k : Int) := by omega
        have i1 : (k : Int) < (la.length : Int) := by omega
        have i2 : (k : Int) < (lb.length : Int) := by omega
        subst e1 e2
        have HT := Lib.hid ht
        have HBL := Lib.hid hbl
        by_cases he : x = y
        · have HE := Lib.hid (show la.take (k + 1) = lb.take (k + 1) from ints_take ht hlt hlt2 (by rw [hx, hy, he]))
          have hnx : (x != y) = false := by simp [he]
          clear ht hbl hx hy hl hnn
          go_wp2_with fail
          go_quiet (fail)
          go_wp2
          go_roundw
          case rel => exact ⟨k + 1, by omega, by go_num, HE.out, HBL.out.trans ((Below.drawn _ _).mono HBL.out.size)⟩
          case measure => simp [intOf]; omega
        · have HE := Lib.hid (show la ≠ lb from ints_not hlt hlt2 (by rw [hx, hy]; exact he))
          have hnx : (x != y) = true := by simp [he]
          clear ht hbl hx hy hl hnn
          go_wp2_with fail
          go_quiet (fail)
          go_wp2
          go_ret
          exact ⟨by rw [decide_eq_false HE.out]; try rfl, HBL.out.trans ((Below.drawn _ _).mono HBL.out.size)⟩
      · obtain rfl : k = la.length := by omega
        have HE := Lib.hid (show la = lb by rw [List.take_length] at ht; rw [ht, HL.out, List.take_length])
        have HBL := Lib.hid hbl
        clear ht hbl hl hnn
        go_wp2
        go_ret
        exact ⟨by rw [decide_eq_true HE.out]; try rfl, HBL.out⟩
  · have HE := Lib.hid (show la ≠ lb from fun h => hl (by rw [h]))
    have hnn : ((la.length : Int) != (lb.length : Int)) = true := by simp; omega
    clear ha hb hl
    go_enter Tryz.func33, Tryz.ntmps33
    go_wp2
    go_ret
    exact ⟨by rw [decide_eq_false HE.out]; try rfl, Below.refl _ _⟩
theorem prow_get {w : World} {a : Option Addr} {c : Nat} {rows : List Rw} (h : Sl w 5 (.slice a rows.length c) rows.length (rows.flatMap prowCells)) (k : Nat) (hk : k < rows.length) :
    ∃ b o, a = some ⟨b, o, none⟩ ∧ b < w.heap.size ∧ w.cell? ⟨b, o + k * 5, none⟩ = some rows[k].cv ∧ w.cell? ⟨b, o + k * 5 + 1, none⟩ = some (.int .i64 rows[k].kind) ∧ w.cell? ⟨b, o + k * 5 + 2, none⟩ = some (.bool rows[k].rhs.s) ∧ w.cell? ⟨b, o + k * 5 + 3, none⟩ = some (.slice rows[k].rhs.a rows[k].rhs.l rows[k].rhs.c) ∧ w.cell? ⟨b, o + k * 5 + 4, none⟩ = some (.slice rows[k].rhs.b rows[k].rhs.m rows[k].rhs.d) := by
  obtain ⟨b, o, c', e, h1, h2, h3, h4⟩ := h.plain (by omega)
  cases e
  have hc := fun j u hj => h4 _ u (flat_at prowCells 5 prowCells_len rows k hk j u hj)
  have c0 := hc 0 _ rfl
  have c1 := hc 1 _ rfl
  have c2 := hc 2 _ rfl
  have c3 := hc 3 _ rfl
  have c4 := hc 4 _ rfl
  simp only [← Nat.add_assoc, Nat.add_zero] at c0 c1 c2 c3 c4
  exact ⟨b, o, rfl, h3, c0, c1, c2, c3, c4⟩
section
variable {w w' : World} {F S : Nat → Prop} {ca ra : Option Addr} {cc rc : Nat} {cs : List Rv} {rows : List Rw} {c : List Rat} {rs : List AR}
theorem PA.keeps (h : PA w F ca ra cc rc cs rows c rs) (hk : Keeps w w' S) (hd : ∀ k, F k → ¬ S k) (hs : ∀ k, S k → ¬ WordB w k) : PA w' F ca ra cc rc cs rows c rs := by
  have hlt := h.pw.2.2
  refine ⟨⟨h.pw.1.keeps hk fun k hf => hd k (h.pw.2.1 k hf), h.pw.2.1, fun k hf => Nat.lt_of_lt_of_le (hlt k hf) hk.size⟩, fun k hf ⟨cs, hc⟩ => h.noW k hf ⟨cs, (hk.block k (hlt k hf) (hd k hf)).symm.trans hc⟩, h.cost, h.rws, fun v hv => ⟨(h.okc v hv).1.keeps hk hs, (h.okc v hv).2⟩, fun r hr => ⟨(h.okr r hr).1.keeps hk hs, (h.okr r hr).2⟩, fun r hr v hv => ⟨(h.okv r hr v hv).1.keeps hk hs, (h.okv r hr v hv).2⟩⟩
theorem PA.lt (h : PA w F ca ra cc rc cs rows c rs) : ∀ k, F k → k < w.heap.size := h.pw.2.2
theorem PA.below (h : PA w F ca ra cc rc cs rows c rs) (hb : Below w.heap.size w w') : PA w' F ca ra cc rc cs rows c rs :=
  h.keeps (Keeps.of_below hb (S := fun k => w.heap.size ≤ k) fun b h _ => h) (fun k hf hn => by have := h.lt k hf; omega) fun k hn hw => by have := hw.lt; omega
theorem PA.costs (h : PA w F ca ra cc rc cs rows c rs) : Sl w 3 (.slice ca cs.length cc) cs.length (cs.flatMap Rv.cells) := Sl.ofMid (show Mid w 0 51 3 _ _ _ from h.pw.1.get 0 (by simp [pPs]))
theorem PA.rowsl (h : PA w F ca ra cc rc cs rows c rs) : Sl w 5 (.slice ra rows.length rc) rows.length (rows.flatMap prowCells) := Sl.ofMid (show Mid w 0 82 5 _ _ _ from h.pw.1.get 1 (by simp [pPs]))
theorem PA.coefsl (h : PA w F ca ra cc rc cs rows c rs) {r : Rw} (hr : r ∈ rows) : Sl w 3 r.cv r.coef.length (r.coef.flatMap Rv.cells) := Sl.ofMid (show Mid w 0 51 3 _ _ _ from h.pw.1.1 (coefP r) (by simp only [pPs, List.mem_cons, List.mem_map]; exact .inr (.inr ⟨r, hr, rfl⟩)))
theorem PA.clen (h : PA w F ca ra cc rc cs rows c rs) : cs.length = c.length := by rw [← h.cost, List.length_map]
theorem PA.rlen (h : PA w F ca ra cc rc cs rows c rs) : rows.length = rs.length := by rw [← h.rws, List.length_map]
theorem PA.cvec (h : PA w F ca ra cc rc cs rows c rs) : VecW w ca cs.length cc cs := ⟨rfl, h.costs, fun v hv => (h.okc v hv).1, fun v hv => (h.okc v hv).2⟩
theorem PA.rvec (h : PA w F ca ra cc rc cs rows c rs) {r : Rw} (hr : r ∈ rows) : ∃ j jc, r.cv = .slice j r.coef.length jc ∧ VecW w j r.coef.length jc r.coef := by
  have hs := h.coefsl hr
  obtain ⟨j, jc, e, _⟩ := hs.len
  rw [e] at hs
  exact ⟨j, jc, e, rfl, hs, fun v hv => (h.okv r hr v hv).1, fun v hv => (h.okv r hr v hv).2⟩
end
set_option maxRecDepth 100000 in
set_option maxHeartbeats 16000000 in
theorem same_any (w : World) (F1 F2 : Nat → Prop) (ca1 ra1 ca2 ra2 : Option Addr) (cc1 rc1 cc2 rc2 : Nat) (cs1 cs2 : List Rv) (rows1 rows2 : List Rw) (c : List Rat) (rs : List AR) (h1 : PA w F1 ca1 ra1 cc1 rc1 cs1 rows1 c rs) (h2 : PA w F2 ca2 ra2 cc2 rc2 cs2 rows2 c rs) :
    Calls Tryz.prog 32 #[.agg #[.slice ca1 cs1.length cc1, .slice ra1 rows1.length rc1], .agg #[.slice ca2 cs2.length cc2, .slice ra2 rows2.length rc2]] w fun e w' => e = .returned (.bool true) ∧ Below w.heap.size w w' := by
  obtain ⟨w2, hw2⟩ : ∃ w2, (w.alloc (.cells #[.slice ca1 cs1.length cc1, .slice ra1 rows1.length rc1] 73)).alloc (.cells #[.slice ca2 cs2.length cc2, .slice ra2 rows2.length rc2] 73) = w2 := ⟨_, rfl⟩
  obtain ⟨pb, hpb⟩ : ∃ pb, w.heap.size = pb := ⟨_, rfl⟩
  have hb0 : Below w.heap.size w w2 := by rw [← hw2]; exact bthen (belowBox w (.cells #[.slice ca1 cs1.length cc1, .slice ra1 rows1.length rc1] 73)) (belowBox _ (.cells #[.slice ca2 cs2.length cc2, .slice ra2 rows2.length rc2] 73))
  have p0 : w2.cell? ⟨pb, 0, none⟩ = some (.slice ca1 cs1.length cc1) := by rw [← hw2, ← hpb]; simp
  have p1 : w2.cell? ⟨pb, 1, none⟩ = some (.slice ra1 rows1.length rc1) := by rw [← hw2, ← hpb]; simp
  have q0 : w2.cell? ⟨pb + 1, 0, none⟩ = some (.slice ca2 cs2.length cc2) := by rw [← hw2, ← hpb]; simp
  have q1 : w2.cell? ⟨pb + 1, 1, none⟩ = some (.slice ra2 rows2.length rc2) := by rw [← hw2, ← hpb]; simp
  have hsz : pb + 1 < w2.heap.size := by rw [← hw2, ← hpb]; simp
  have hlr : rows1.length = rows2.length := by rw [h1.rlen, h2.rlen]
  have hln := h1.rowsl.lenI
  have hln2 := h2.rowsl.lenI
  have hneq : ((rows1.length : Int) != (rows2.length : Int)) = false := by rw [hlr]; simp
  have hvs := vsame_any ca1 ca2 cs1.length cs2.length cc1 cc2 cs1 cs2 w2 (h1.below hb0).cvec (h2.below hb0).cvec
  rw [decide_eq_true (show sameQ cs1 cs2 from h1.cost.trans h2.cost.symm)] at hvs
  have HVS := Lib.hid hvs
  have H1 := Lib.hid (h1.below hb0)
  have H2 := Lib.hid (h2.below hb0)
  have HB0 := Lib.hid hb0
  have HLR := Lib.hid hlr
  have HW2 := Lib.hid hw2
  have HPB := Lib.hid hpb
  clear h1 h2 hvs hb0 hlr hw2 hpb
  go_enter Tryz.func32, Tryz.ntmps32
  go_upto_region 1 with fail
  (try simp only [HW2.out, HPB.out])
  clear HW2
  go_wp2_with fail
  refine HVS.out.mono ?_
  rintro e w3 ⟨rfl, hb3⟩
  have HB3 := Lib.hid hb3
  clear hb3 HVS
  go_wp2_with fail
  go_loopw [5] (fun iv wr => ∃ k : Nat, k ≤ rows1.length ∧ iv = .int .i64 k ∧ Below w2.heap.size w2 wr) (fun iv _ => rows1.length - (intOf iv).toNat)
  case atStart => exact ⟨0, Nat.zero_le _, rfl, HB3.out⟩
  case round =>
    obtain ⟨k, hk, rfl, hb⟩ := hrel
    have s1 := (hb.cell (p := ⟨pb, 1, none⟩) (show pb < w2.heap.size by omega)).trans p1
    have t1 := (hb.cell (p := ⟨pb + 1, 1, none⟩) hsz).trans q1
    have HB := Lib.hid hb
    by_cases hlt : k < rows1.length
    · have hlt2 : k < rows2.length := by rw [← HLR.out]; exact hlt
      obtain ⟨b1, o1, e1, hl1, x0, x1, x2, x3, x4⟩ := prow_get (H1.out.below hb).rowsl k hlt
      obtain ⟨b2, o2, e2, hl2, y0, y1, y2, y3, y4⟩ := prow_get (H2.out.below hb).rowsl k hlt2
      obtain ⟨r, hr⟩ : ∃ r, r = rows1[k] := ⟨_, rfl⟩
      obtain ⟨q, hq⟩ : ∃ q, q = rows2[k] := ⟨_, rfl⟩
      have hrm : r ∈ rows1 := by rw [hr]; exact List.getElem_mem hlt
      have hqm : q ∈ rows2 := by rw [hq]; exact List.getElem_mem hlt2
      rw [← hr] at x0 x1 x2 x3 x4
      rw [← hq] at y0 y1 y2 y3 y4
      have hrq : r.ar = q.ar := by
        have e9 := H1.out.rws.trans H2.out.rws.symm
        have e8 : (rows1.map Rw.ar)[k]? = (rows2.map Rw.ar)[k]? := by rw [e9]
        rw [List.getElem?_map, List.getElem?_map, List.getElem?_eq_getElem hlt, List.getElem?_eq_getElem hlt2, ← hr, ← hq] at e8
        exact Option.some.inj e8
      have hkd : r.kind = q.kind := congrArg AR.kind hrq
      have hrh : r.rhs.q = q.rhs.q := congrArg AR.rhs hrq
      have hco : sameQ r.coef q.coef := congrArg AR.coef hrq
      obtain ⟨rj, rcp, erv, hrv⟩ := (H1.out.below hb).rvec hrm
      obtain ⟨qj, qcp, eqv, hqv⟩ := (H2.out.below hb).rvec hqm
      rw [erv] at x0
      rw [eqv] at y0
      have HRS := Lib.hid (fun (W : World) (hW : Below wr.heap.size wr W) => show Calls Tryz.prog 63 #[.agg #[.bool r.rhs.s, .slice r.rhs.a r.rhs.l r.rhs.c, .slice r.rhs.b r.rhs.m r.rhs.d], .agg #[.bool q.rhs.s, .slice q.rhs.a q.rhs.l q.rhs.c, .slice q.rhs.b q.rhs.m q.rhs.d]] W (fun e w' => e = .returned (.bool true) ∧ Below wr.heap.size wr w') from (rv_same r.rhs q.rhs W ((H1.out.okr r hrm).1.below (hb.trans (hW.mono hb.size) |> fun h => h.mono (Nat.le_refl _))) ((H2.out.okr q hqm).1.below (hb.trans (hW.mono hb.size))) (H1.out.okr r hrm).2 (H2.out.okr q hqm).2).mono fun e w' ⟨he, hb9⟩ => ⟨by rw [he, decide_eq_true hrh], hW.trans (hb9.mono hW.size)⟩)
      have HVV := Lib.hid (fun (W : World) (hW : Below wr.heap.size wr W) => show Calls Tryz.prog 68 #[.slice rj r.coef.length rcp, .slice qj q.coef.length qcp] W (fun e w' => e = .returned (.bool true) ∧ Below wr.heap.size wr w') from (vsame_any rj qj _ _ rcp qcp r.coef q.coef W (hrv.below hW) (hqv.below hW)).mono fun e w' ⟨he, hb9⟩ => ⟨by rw [he, decide_eq_true hco], hW.trans (hb9.mono hW.size)⟩)
      have hke : (r.kind != q.kind) = false := by rw [hkd]; simp
      have i0 : (0 : Int) ≤ (k : Int) := by omega
      have i1 : (k : Int) < (rows1.length : Int) := by omega
      have i2 : (k : Int) < (rows2.length : Int) := by omega
      subst e1 e2
      have HKS := Lib.hid (fun (W : World) (hW : Below wr.heap.size wr W) => show W.cell? ⟨pb, 1, none⟩ = some (.slice (some ⟨b1, o1, none⟩) rows1.length rc1) ∧ W.cell? ⟨pb + 1, 1, none⟩ = some (.slice (some ⟨b2, o2, none⟩) rows2.length rc2) ∧ W.cell? ⟨b1, o1 + k * 5, none⟩ = some (.slice rj r.coef.length rcp) ∧ W.cell? ⟨b1, o1 + k * 5 + 1, none⟩ = some (.int .i64 r.kind) ∧ W.cell? ⟨b1, o1 + k * 5 + 2, none⟩ = some (.bool r.rhs.s) ∧ W.cell? ⟨b1, o1 + k * 5 + 3, none⟩ = some (.slice r.rhs.a r.rhs.l r.rhs.c) ∧ W.cell? ⟨b1, o1 + k * 5 + 4, none⟩ = some (.slice r.rhs.b r.rhs.m r.rhs.d) ∧ W.cell? ⟨b2, o2 + k * 5, none⟩ = some (.slice qj q.coef.length qcp) ∧ W.cell? ⟨b2, o2 + k * 5 + 1, none⟩ = some (.int .i64 q.kind) ∧ W.cell? ⟨b2, o2 + k * 5 + 2, none⟩ = some (.bool q.rhs.s) ∧ W.cell? ⟨b2, o2 + k * 5 + 3, none⟩ = some (.slice q.rhs.a q.rhs.l q.rhs.c) ∧ W.cell? ⟨b2, o2 + k * 5 + 4, none⟩ = some (.slice q.rhs.b q.rhs.m q.rhs.d) ∧ Below wr.heap.size wr W from ⟨(hW.cell (p := ⟨pb, 1, none⟩) (World.block_lt_of_cell? _ _ s1)).trans s1, (hW.cell (p := ⟨pb + 1, 1, none⟩) (World.block_lt_of_cell? _ _ t1)).trans t1, (hW.cell (p := ⟨b1, o1 + k * 5, none⟩) hl1).trans x0, (hW.cell (p := ⟨b1, o1 + k * 5 + 1, none⟩) hl1).trans x1, (hW.cell (p := ⟨b1, o1 + k * 5 + 2, none⟩) hl1).trans x2, (hW.cell (p := ⟨b1, o1 + k * 5 + 3, none⟩) hl1).trans x3, (hW.cell (p := ⟨b1, o1 + k * 5 + 4, none⟩) hl1).trans x4, (hW.cell (p := ⟨b2, o2 + k * 5, none⟩) hl2).trans y0, (hW.cell (p := ⟨b2, o2 + k * 5 + 1, none⟩) hl2).trans y1, (hW.cell (p := ⟨b2, o2 + k * 5 + 2, none⟩) hl2).trans y2, (hW.cell (p := ⟨b2, o2 + k * 5 + 3, none⟩) hl2).trans y3, (hW.cell (p := ⟨b2, o2 + k * 5 + 4, none⟩) hl2).trans y4, hW⟩)
      clear hb hr hq hrm hqm hrq hkd hrh hco erv hrv eqv hqv
      go_upto_region 6 with fail
      have hd0 : Below wr.heap.size wr wr.drew := Below.drawn wr 1
      go_region_held3 (fun W => W.cell? ⟨pb, 1, none⟩ = some (.slice (some ⟨b1, o1, none⟩) rows1.length rc1) ∧ W.cell? ⟨pb + 1, 1, none⟩ = some (.slice (some ⟨b2, o2, none⟩) rows2.length rc2) ∧ W.cell? ⟨b1, o1 + k * 5, none⟩ = some (.slice rj r.coef.length rcp) ∧ W.cell? ⟨b1, o1 + k * 5 + 1, none⟩ = some (.int .i64 r.kind) ∧ W.cell? ⟨b1, o1 + k * 5 + 2, none⟩ = some (.bool r.rhs.s) ∧ W.cell? ⟨b1, o1 + k * 5 + 3, none⟩ = some (.slice r.rhs.a r.rhs.l r.rhs.c) ∧ W.cell? ⟨b1, o1 + k * 5 + 4, none⟩ = some (.slice r.rhs.b r.rhs.m r.rhs.d) ∧ W.cell? ⟨b2, o2 + k * 5, none⟩ = some (.slice qj q.coef.length qcp) ∧ W.cell? ⟨b2, o2 + k * 5 + 1, none⟩ = some (.int .i64 q.kind) ∧ W.cell? ⟨b2, o2 + k * 5 + 2, none⟩ = some (.bool q.rhs.s) ∧ W.cell? ⟨b2, o2 + k * 5 + 3, none⟩ = some (.slice q.rhs.a q.rhs.l q.rhs.c) ∧ W.cell? ⟨b2, o2 + k * 5 + 4, none⟩ = some (.slice q.rhs.b q.rhs.m q.rhs.d) ∧ Below wr.heap.size wr W) (exact HKS.out _ (by first | assumption | (refine Below.drew ?_; assumption))) (first
        | (go_at_call 63; refine (HRS.out _ (by go_split_ands; assumption)).mono ?_; rintro e w14 ⟨rfl, hb4⟩)
        | (go_at_call 68; refine (HVV.out _ (by go_split_ands; assumption)).mono ?_; rintro e w15 ⟨rfl, hb5⟩))
      all_goals
        go_wp2_with fail
        go_roundw
        case rel => exact ⟨k + 1, by omega, by go_num, HB.out.trans (hb5.mono HB.out.size)⟩
        case measure => simp [intOf]; omega
    · obtain rfl : k = rows1.length := by omega
      clear hb
      go_wp2
      go_ret
      exact ⟨rfl, HB0.out.trans (HB.out.mono HB0.out.size)⟩
end Go.Proofs.YtaehklhbokocbaaGreatDoor
namespace Go.Proofs.YtaehklhbokocbaaGreatDoor
open Go.RowKit
def Frm (w0 : World) (K : Nat → Prop) (W W' : World) : Prop := ∃ S, Keeps W W' S ∧ (∀ k, K k → ¬ S k) ∧ (∀ k, S k → ¬ WordB W k) ∧ ∀ k, S k → w0.heap.size ≤ k
def LSt (w0 W : World) (sb : Nat) (s : AS) (K : Nat → Prop) : Prop := ∃ G, SA W sb G s ∧ (∀ k, G k → w0.heap.size ≤ k) ∧ Below w0.heap.size w0 W ∧ (∀ k, K k → ¬ G k) ∧ ∀ k, K k → k < W.heap.size
section
variable {w0 w W W' W1 : World} {sb : Nat} {s s1 : AS} {K X F : Nat → Prop}
theorem Frm.of_below (hb : Below W.heap.size W W') : Frm w0 K W W' := ⟨fun _ => False, below_keeps hb, fun _ _ h => h, fun _ h => h.elim, fun _ h => h.elim⟩
theorem Frm.size (h : Frm w0 K W W') : W.heap.size ≤ W'.heap.size := by obtain ⟨_, h, _⟩ := h; exact h.size
theorem Frm.cell {b : Nat} (h : Frm w0 K W W') (hK : K b) {j : Nat} {u : Value} (hc : W.cell? ⟨b, j, none⟩ = some u) : W'.cell? ⟨b, j, none⟩ = some u := by
  obtain ⟨S, h1, h2, _⟩ := h
  exact (h1.cell (a := ⟨b, j, none⟩) (World.block_lt_of_cell? _ _ hc) (h2 b hK)).trans hc
theorem Frm.low {b : Nat} (h : Frm w0 K W W') (hb : b < w0.heap.size) {j : Nat} {u : Value} (hc : W.cell? ⟨b, j, none⟩ = some u) : W'.cell? ⟨b, j, none⟩ = some u := by
  obtain ⟨S, h1, _, _, h4⟩ := h
  exact (h1.cell (a := ⟨b, j, none⟩) (World.block_lt_of_cell? _ _ hc) (fun hS => by have := h4 b hS; omega)).trans hc
theorem Frm.mid (h : Frm w0 K W W') {base size n : Nat} {e : TypeId} {v : Value} {xs : List Value} (hm : Mid W base e size v n xs) (hK : ∀ k, v.ownBlock = some k → K k) : Mid W' base e size v n xs := by
  obtain ⟨S, h1, h2, _⟩ := h
  exact hm.keeps h1 fun k hk => h2 k (hK k hk)
theorem Frm.rv (h : Frm w0 K W W') {v : Rv} (hv : v.ok W) : v.ok W' := by obtain ⟨S, h1, _, h3, _⟩ := h; exact hv.keeps h1 h3
theorem PA.frm {ca ra : Option Addr} {cc rc : Nat} {cs : List Rv} {rows : List Rw} {c : List Rat} {rs : List AR} (hp : PA W F ca ra cc rc cs rows c rs) (h : Frm w0 K W W') (hF : ∀ k, F k → K k) : PA W' F ca ra cc rc cs rows c rs := by
  obtain ⟨S, h1, h2, h3, _⟩ := h
  exact hp.keeps h1 (fun k hk => h2 k (hF k hk)) h3
theorem LSt.bl (h : LSt w0 W sb s K) : Below w0.heap.size w0 W := by obtain ⟨_, _, _, h, _⟩ := h; exact h
theorem LSt.below (h : LSt w0 W sb s K) (hb : Below W.heap.size W W') : LSt w0 W' sb s K := by
  obtain ⟨G, h1, h2, h3, h4, h5⟩ := h
  exact ⟨G, h1.below hb, h2, h3.trans (hb.mono h3.size), h4, fun k hk => Nat.lt_of_lt_of_le (h5 k hk) hb.size⟩
theorem LSt.more (h : LSt w0 W sb s K) (hb : Below W.heap.size W W') (hX : ∀ k, X k → W.heap.size ≤ k ∧ k < W'.heap.size) : LSt w0 W' sb s (fun k => K k ∨ X k) := by
  obtain ⟨G, h1, h2, h3, h4, h5⟩ := h
  refine ⟨G, h1.below hb, h2, h3.trans (hb.mono h3.size), fun k hk hG => ?_, fun k hk => ?_⟩
  · rcases hk with hk | hk
    · exact h4 k hk hG
    · have := h1.lt k hG; have := (hX k hk).1; omega
  · rcases hk with hk | hk
    · exact Nat.lt_of_lt_of_le (h5 k hk) hb.size
    · exact (hX k hk).2
theorem LSt.act (h : LSt w0 W sb s K) {f : FuncId} {args : Array Value} {R Q : Ending → World → Prop} (hc : ∀ G, SA W sb G s → Calls Tryz.prog f args W fun e W' => R e W' ∧ SAct W sb G s1 W') (hq : ∀ e W', R e W' → LSt w0 W' sb s1 K → Frm w0 K W W' → Q e W') : Calls Tryz.prog f args W Q := by
  obtain ⟨G, h1, h2, h3, h4, h5⟩ := h
  refine (hc G h1).mono ?_
  rintro e W' ⟨hp, G', g1, g2, g3⟩
  have hz := h3.size
  refine hq e W' hp ⟨G', g1, fun k hk => ?_, below_of_keeps h3 g3 h2, fun k hk hG => ?_, fun k hk => Nat.lt_of_lt_of_le (h5 k hk) g3.size⟩ ⟨G, g3, h4, h1.noWords, h2⟩
  · rcases g2 k hk with h7 | h7
    · exact h2 k h7
    · omega
  · rcases g2 k hG with h7 | h7
    · exact h4 k hk h7
    · have := h5 k hk; omega
theorem LSt.read (h : LSt w0 W sb s K) {f : FuncId} {args : Array Value} {R Q : Ending → World → Prop} (hc : ∀ G, SA W sb G s → Calls Tryz.prog f args W fun e W' => R e W' ∧ Below W.heap.size W W') (hq : ∀ e W', R e W' → LSt w0 W' sb s K → Below W.heap.size W W' → Q e W') : Calls Tryz.prog f args W Q := by
  obtain ⟨G, h1, h2, h3, h4, h5⟩ := id h
  refine (hc G h1).mono ?_
  rintro e W' ⟨hp, hb⟩
  exact hq e W' hp (h.below hb) hb
theorem LSt.setR (h : LSt w0 W sb s K) {f : FuncId} {args : Array Value} {fl : Fl} {Q : Ending → World → Prop} (hc : ∀ G, SA W sb G s → Calls Tryz.prog f args W (SetR W sb G (fl, s1))) (hq : ∀ ev W', ErrV W' W.heap.size fl ev → LSt w0 W' sb s1 K → Frm w0 K W W' → Q (.returned ev) W') : Calls Tryz.prog f args W Q :=
  h.act (s1 := s1) (R := fun e W' => ∃ ev, e = .returned ev ∧ ErrV W' W.heap.size fl ev) (fun G hs => (hc G hs).mono fun e W' ⟨v, h1, h2, h3⟩ => ⟨⟨v, h1, h2⟩, h3⟩) fun e W' ⟨ev, h1, h2⟩ h3 h4 => by rw [h1]; exact hq ev W' h2 h3 h4
theorem LSt.rows (h : LSt w0 W sb s K) (hw : WF s) {Q : Ending → World → Prop} (hq : ∀ a c W', Mid W' W.heap.size 3 1 (.slice a s.rids.length c) s.rids.length (s.rids.map IV) → LSt w0 W' sb s K → Below W.heap.size W W' → Q (.returned (.slice a s.rids.length c)) W') : Calls Tryz.prog 13 #[.pointer (some ⟨sb, 0, none⟩)] W Q := by
  obtain ⟨G, h1, _⟩ := id h
  refine (as_rows h1 hw).mono ?_
  rintro e W' ⟨a, c, rfl, hm, hb⟩
  exact hq a c W' hm (h.below hb) hb
theorem LSt.cols (h : LSt w0 W sb s K) (hw : WF s) {Q : Ending → World → Prop} (hq : ∀ a c W', Mid W' W.heap.size 3 1 (.slice a s.cids.length c) s.cids.length (s.cids.map IV) → LSt w0 W' sb s K → Below W.heap.size W W' → Q (.returned (.slice a s.cids.length c)) W') : Calls Tryz.prog 14 #[.pointer (some ⟨sb, 0, none⟩)] W Q := by
  obtain ⟨G, h1, _⟩ := id h
  refine (as_cols h1 hw).mono ?_
  rintro e W' ⟨a, c, rfl, hm, hb⟩
  exact hq a c W' hm (h.below hb) hb
theorem ErrV.cases {base : Nat} {f : Fl} {v : Value} (h : ErrV W base f v) : (f = noF ∧ v = .nilIface) ∨ (f ≠ noF ∧ ∃ n, v = eE n) ∨ (f ≠ noF ∧ ∃ b, v = eF b) := by
  rcases h with ⟨h1, h2⟩ | ⟨h1, h2, h3, h4⟩ | ⟨h1, h2, b, h3, h4, h5⟩
  · exact .inl ⟨h1, h2⟩
  · exact .inr (.inl ⟨fun e => h3 (by rw [e]; rfl), _, h4⟩)
  · exact .inr (.inr ⟨fun e => h1 (by rw [e]; rfl), b, h4⟩)
theorem ErrV.nil {base : Nat} {v : Value} (h : ErrV W base noF v) : v = .nilIface := nil_of h
end
end Go.Proofs.YtaehklhbokocbaaGreatDoor
namespace Go.Proofs.YtaehklhbokocbaaGreatDoor
open Go.RowKit Go.Extern.Stop Go.Stop Go.Extern
def XT (W : World) (xb : Nat) : Prop := ∃ cur, W.heap[xb]? = some (.cells cur 39 (0, 0))
theorem XT.noW {W : World} {xb : Nat} (h : XT W xb) : ¬ WordB W xb := by obtain ⟨_, h⟩ := h; exact noWord_of h (by decide)
theorem XT.set {W : World} {xb : Nat} (h : XT W xb) (j : Nat) (u : Value) : XT (W.setCell ⟨xb, j, none⟩ u) xb := by obtain ⟨cur, h⟩ := h; exact ⟨_, heap_setCell_same W xb j cur 39 u h⟩
theorem XT.frm {w0 W W' : World} {K : Nat → Prop} {xb : Nat} (h : XT W xb) (hf : Frm w0 K W W') (hK : K xb) : XT W' xb := by
  obtain ⟨cur, h⟩ := h
  obtain ⟨S, h1, h2, _⟩ := hf
  exact ⟨cur, (h1.block xb (lt_of_block h) (h2 xb hK)).trans h⟩
theorem XT.free {W : World} {xb : Nat} (h : XT W xb) : W.frozen? ⟨xb, 0, none⟩ = false := by obtain ⟨_, h⟩ := h; exact free_of_block h
theorem XOk.d {x : XA} (h : XOk x) (d : Int) : XOk ⟨d, x.row, x.col, x.kind, x.v, x.es⟩ := ⟨h.row, h.col, h.kind, h.p, h.q, h.es⟩
end Go.Proofs.YtaehklhbokocbaaGreatDoor
