/-
  What the laws of a store stand on, part M: contracts and plain laws of LPlay, LInts, LFrame, LBack0; the conditions are each law's own.
-/
import Derived.Test.YtaehklhbokocbaaGreatDoorZL
import Derived.BigQuiet
set_option linter.unusedVariables false
set_option linter.unusedSimpArgs false
namespace Go.Proofs.YtaehklhbokocbaaGreatDoor
open Go.RowKit Go.Extern.Stop Go.Stop Go.Extern
abbrev ZA := XA × Option Addr × Nat
def zCells (z : ZA) : List Value := [IV z.1.d, IV z.1.row, IV z.1.col, IV z.1.kind, IV z.1.v.1, IV z.1.v.2, .slice z.2.1 z.1.es.length z.2.2]
theorem zCells_len (z : ZA) : (zCells z).length = 7 := rfl
structure Scr (w : World) (v : Value) (zs : List ZA) : Prop where
  sl : Sl w 7 v zs.length (zs.flatMap zCells)
  ok : ∀ z, z ∈ zs → XOk z.1 ∧ Sl w 3 (.slice z.2.1 z.1.es.length z.2.2) z.1.es.length (z.1.es.flatMap enCells)
def acts (zs : List ZA) : List XA := zs.map (·.1)
theorem Scr.below {w w' : World} {v : Value} {zs : List ZA} (h : Scr w v zs) (hb : Below w.heap.size w w') : Scr w' v zs := ⟨h.sl.below hb, fun z hz => ⟨(h.ok z hz).1, (h.ok z hz).2.below hb⟩⟩
theorem z_get {w : World} {a : Option Addr} {c : Nat} {zs : List ZA} (h : Sl w 7 (.slice a zs.length c) zs.length (zs.flatMap zCells)) (k : Nat) (hk : k < zs.length) : ∃ b o, a = some ⟨b, o, none⟩ ∧ b < w.heap.size ∧ w.cell? ⟨b, o + k * 7, none⟩ = some (.int .i64 zs[k].1.d) ∧ w.cell? ⟨b, o + k * 7 + 1, none⟩ = some (.int .i64 zs[k].1.row) ∧ w.cell? ⟨b, o + k * 7 + 2, none⟩ = some (.int .i64 zs[k].1.col) ∧ w.cell? ⟨b, o + k * 7 + 3, none⟩ = some (.int .i64 zs[k].1.kind) ∧ w.cell? ⟨b, o + k * 7 + 4, none⟩ = some (.int .i64 zs[k].1.v.1) ∧ w.cell? ⟨b, o + k * 7 + 5, none⟩ = some (.int .i64 zs[k].1.v.2) ∧ w.cell? ⟨b, o + k * 7 + 6, none⟩ = some (.slice zs[k].2.1 zs[k].1.es.length zs[k].2.2) := by
  obtain ⟨b, o, c', e, h1, h2, h3, h4⟩ := h.plain (by omega)
  cases e
  have hc := fun j u hj => h4 _ u (flat_at zCells 7 zCells_len zs k hk j u hj)
  have c0 := hc 0 _ rfl
  have c1 := hc 1 _ rfl
  have c2 := hc 2 _ rfl
  have c3 := hc 3 _ rfl
  have c4 := hc 4 _ rfl
  have c5 := hc 5 _ rfl
  have c6 := hc 6 _ rfl
  simp only [← Nat.add_assoc, Nat.add_zero] at c0 c1 c2 c3 c4 c5 c6
  exact ⟨b, o, rfl, h3, c0, c1, c2, c3, c4, c5, c6⟩
theorem rb_new (w : World) : RB (w.alloc (.cells #[.slice none 0 0, .slice none 0 0, .slice none 0 0, .slice none 0 0, .slice none 0 0, .slice none 0 0, .int .i64 0, .int .i64 0] 32)) w.heap.size (fun k => k = w.heap.size) RM.new := by
  refine ⟨⟨none, none, none, none, none, none, 0, 0, 0, 0, 0, 0⟩, ⟨heap_alloc_new _ _, ⟨fun p hp => ?_, ?_⟩, rfl, fun k hk => ?_, fun k hk => by rw [hk]; simp⟩, fun k hk => ?_⟩
  · simp only [RH.ps, RM.new, List.map_nil, List.flatMap_nil, List.length_nil, List.mem_cons, List.not_mem_nil, or_false] at hp
    rcases hp with rfl | rfl | rfl | rfl | rfl | rfl <;> exact Mid.nil _ _ _ _
  · unfold RH.ps RM.new
    refine List.Pairwise.cons (fun q _ k h => ?_) (List.Pairwise.cons (fun q _ k h => ?_) (List.Pairwise.cons (fun q _ k h => ?_) (List.Pairwise.cons (fun q _ k h => ?_) (List.Pairwise.cons (fun q _ k h => ?_) (List.pairwise_singleton _ _)))))
    all_goals cases h
  · obtain ⟨p, hp, hv⟩ := hk
    simp only [RH.ps, RM.new, List.map_nil, List.flatMap_nil, List.length_nil, List.mem_cons, List.not_mem_nil, or_false] at hp
    rcases hp with rfl | rfl | rfl | rfl | rfl | rfl <;> cases hv
  · rw [hk]
    exact noWord_of (heap_alloc_new _ _) (by decide)
theorem load_act {zs : List ZA} {z : ZA} (h : z ∈ zs) : z.1.es.length + 1 ≤ load (acts zs) := by
  unfold load acts
  induction zs with
  | nil => cases h
  | cons y r ih =>
    simp only [List.map_cons, List.sum_cons]
    rcases List.mem_cons.1 h with rfl | h
    · omega
    · have := ih h; omega
theorem acts_len (zs : List ZA) : (acts zs).length = zs.length := by unfold acts; rw [List.length_map]
structure Behind (xs : List XA) (k : Nat) : Prop where
  wf : WF (AS.new.run (xs.take k))
  rw : RWf (RM.new.run (xs.take k))
  co : Coup (AS.new.run (xs.take k)) (RM.new.run (xs.take k))
  lr : (AS.new.run (xs.take k)).lr ≤ (load xs : Int)
  lc : (AS.new.run (xs.take k)).lc ≤ (load xs : Int)
  lr' : (RM.new.run (xs.take k)).lr ≤ (load xs : Int)
  lc' : (RM.new.run (xs.take k)).lc ≤ (load xs : Int)
  cells : (RM.new.run (xs.take k)).cells.length ≤ load xs
theorem behind (xs : List XA) (k : Nat) : Behind xs k := by
  have h := Played.upto xs k
  have h1 := load_take xs k
  have h2 := load_len (xs.take k)
  have h3 := h.lr
  have h4 := h.lc
  have h5 := h.cells
  refine ⟨h.wf, h.co.wf h.wf, h.co, by omega, by omega, by rw [h.co.lr]; omega, by rw [h.co.lc]; omega, by omega⟩
theorem acts_get {zs : List ZA} {k : Nat} (hk : k < zs.length) : (acts zs)[k]'(by rw [acts_len]; exact hk) = zs[k].1 := by simp [acts]
theorem run_next (zs : List ZA) (k : Nat) (hk : k < zs.length) : AS.new.run ((acts zs).take (k + 1)) = ((AS.new.run ((acts zs).take k)).act zs[k].1).2 := by
  rw [AS.run_take _ _ _ (by rw [acts_len]; exact hk), acts_get hk]
theorem rrun_next (zs : List ZA) (k : Nat) (hk : k < zs.length) : RM.new.run ((acts zs).take (k + 1)) = ((RM.new.run ((acts zs).take k)).act zs[k].1).2 := by
  rw [RM.run_take _ _ _ (by rw [acts_len]; exact hk), acts_get hk]
theorem does_at (w0 w : World) (sb rb : Nat) (G H : Nat → Prop) (a : Option Addr) (c : Nat) (zs : List ZA) (k : Nat) (hk : k < zs.length) (hs : Scr w0 (.slice a zs.length c) zs) (hg : Hg w0) (hB : load (acts zs) ≤ 1048576)
    (hc : Ctx w0 w sb G (AS.new.run ((acts zs).take k)) rb H (RM.new.run ((acts zs).take k))) :
    Calls Tryz.prog 12 #[.pointer (some ⟨sb, 0, none⟩), .pointer (some ⟨rb, 0, none⟩), actV zs[k].1 zs[k].2.1 zs[k].2.2] w fun e w' => e = .returned (.bool true) ∧ CtxA w0 w sb G (AS.new.run ((acts zs).take (k + 1))) rb H (RM.new.run ((acts zs).take (k + 1))) w' := by
  have hb := behind (acts zs) k
  have hm : zs[k] ∈ zs := List.getElem_mem hk
  have hl := load_act hm
  have h1 := hb.lr
  have h2 := hb.lc
  have h3 := hb.lr'
  have h4 := hb.lc'
  have h5 := hb.cells
  refine (does_any w0 w sb rb G H _ _ zs[k].1 zs[k].2.1 zs[k].2.2 hc hb.wf hb.rw (hs.ok _ hm).1 (hs.ok _ hm).2 hg (by omega) (by omega) (by omega) (by omega) (by omega) (by omega)).mono ?_
  rintro e w' ⟨b, rfl, hbt, ha⟩
  rw [← run_next zs k hk, ← rrun_next zs k hk] at ha
  exact ⟨by rw [hbt (hb.co.act hb.wf zs[k].1).1], ha⟩
theorem actV_eq (z : ZA) : actV z.1 z.2.1 z.2.2 = .agg #[.int .i64 z.1.d, .int .i64 z.1.row, .int .i64 z.1.col, .int .i64 z.1.kind, .int .i64 z.1.v.1, .int .i64 z.1.v.2, .slice z.2.1 z.1.es.length z.2.2] := rfl
end Go.Proofs.YtaehklhbokocbaaGreatDoor
namespace Go.Proofs.YtaehklhbokocbaaGreatDoor
open Go.RowKit Go.Extern.Stop Go.Stop Go.Extern
theorem ints_take {la lb : List Int} {k : Nat} (h : la.take k = lb.take k) (h1 : k < la.length) (h2 : k < lb.length) (he : la[k] = lb[k]) : la.take (k + 1) = lb.take (k + 1) := by
  rw [List.take_succ_eq_append_getElem h1, List.take_succ_eq_append_getElem h2, h, he]
theorem ints_not {la lb : List Int} {k : Nat} (h1 : k < la.length) (h2 : k < lb.length) (he : la[k] ≠ lb[k]) : la ≠ lb := fun h => by subst h; exact he rfl
set_option maxRecDepth 100000 in
set_option maxHeartbeats 4000000 in
theorem ints_any (a b : Option Addr) (c d : Nat) (la lb : List Int) (w : World) (ha : Sl w 1 (.slice a la.length c) la.length (la.map IV)) (hb : Sl w 1 (.slice b lb.length d) lb.length (lb.map IV)) :
    Calls Tryz.prog 33 #[.slice a la.length c, .slice b lb.length d] w fun e w' => e = .returned (.bool (decide (la = lb))) ∧ Below w.heap.size w w' := by
  have hla := ha.lenI
  have hlb := hb.lenI
  by_cases hl : la.length = lb.length
  · have HA := Lib.hid ha
    have HB := Lib.hid hb
    have HL := Lib.hid hl
    have hnn : ((la.length : Int) != (lb.length : Int)) = false := by rw [hl]; simp
    clear ha hb
    go_enter Tryz.func33, Tryz.ntmps33
    go_wp2
    go_loopw [5] (fun iv wr => ∃ k : Nat, k ≤ la.length ∧ iv = .int .i64 k ∧ la.take k = lb.take k ∧ Below w.heap.size w wr) (fun iv _ => la.length - (intOf iv).toNat)
    case atStart => exact ⟨0, Nat.zero_le _, rfl, by simp, Below.refl _ _⟩
    case round =>
      obtain ⟨k, hk, rfl, ht, hbl⟩ := hrel
      by_cases hlt : k < la.length
      · have hlt2 : k < lb.length := by rw [← HL.out]; exact hlt
        obtain ⟨b1, o1, e1, h1, y1⟩ := int_get (HA.out.below hbl) k hlt hlt
        obtain ⟨b2, o2, e2, h2, y2⟩ := int_get (HB.out.below hbl) k hlt2 hlt2
        obtain ⟨x, hx⟩ : ∃ x, la[k] = x := ⟨_, rfl⟩
        obtain ⟨y, hy⟩ : ∃ y, lb[k] = y := ⟨_, rfl⟩
        rw [hx] at y1
        rw [hy] at y2
        have i0 : (0 : Int) ≤ (k : Int) := by omega
        have i1 : (k : Int) < (la.length : Int) := by omega
        have i2 : (k : Int) < (lb.length : Int) := by omega
        subst e1 e2
        have HT := Lib.hid ht
        have HBL := Lib.hid hbl
        by_cases he : x = y
        · have HE := Lib.hid (show la.take (k + 1) = lb.take (k + 1) from ints_take ht hlt hlt2 (by rw [hx, hy, he]))
          have hnx : (x != y) = false := by simp [he]
          clear ht hbl hx hy hl hnn
          go_wp2_with fail
          go_quiet (fail)
          go_wp2
          go_roundw
          case rel => exact ⟨k + 1, by omega, by go_num, HE.out, HBL.out.trans ((Below.drawn _ _).mono HBL.out.size)⟩
          case measure => simp [intOf]; omega
        · have HE := Lib.hid (show la ≠ lb from ints_not hlt hlt2 (by rw [hx, hy]; exact he))
          have hnx : (x != y) = true := by simp [he]
          clear ht hbl hx hy hl hnn
          go_wp2_with fail
          go_quiet (fail)
          go_wp2
          go_ret
          exact ⟨by rw [decide_eq_false HE.out]; try rfl, HBL.out.trans ((Below.drawn _ _).mono HBL.out.size)⟩
      · obtain rfl : k = la.length := by omega
        have HE := Lib.hid (show la = lb by rw [List.take_length] at ht; rw [ht, HL.out, List.take_length])
        have HBL := Lib.hid hbl
        clear ht hbl hl hnn
        go_wp2
        go_ret
        exact ⟨by rw [decide_eq_true HE.out]; try rfl, HBL.out⟩
  · have HE := Lib.hid (show la ≠ lb from fun h => hl (by rw [h]))
    have hnn : ((la.length : Int) != (lb.length : Int)) = true := by simp; omega
    clear ha hb hl
    go_enter Tryz.func33, Tryz.ntmps33
    go_wp2
    go_ret
    exact ⟨by rw [decide_eq_false HE.out]; try rfl, Below.refl _ _⟩
theorem prow_get {w : World} {a : Option Addr} {c : Nat} {rows : List Rw} (h : Sl w 5 (.slice a rows.length c) rows.length (rows.flatMap prowCells)) (k : Nat) (hk : k < rows.length) :
    ∃ b o, a = some ⟨b, o, none⟩ ∧ b < w.heap.size ∧ w.cell? ⟨b, o + k * 5, none⟩ = some rows[k].cv ∧ w.cell? ⟨b, o + k * 5 + 1, none⟩ = some (.int .i64 rows[k].kind) ∧ w.cell? ⟨b, o + k * 5 + 2, none⟩ = some (.bool rows[k].rhs.s) ∧ w.cell? ⟨b, o + k * 5 + 3, none⟩ = some (.slice rows[k].rhs.a rows[k].rhs.l rows[k].rhs.c) ∧ w.cell? ⟨b, o + k * 5 + 4, none⟩ = some (.slice rows[k].rhs.b rows[k].rhs.m rows[k].rhs.d) := by
  obtain ⟨b, o, c', e, h1, h2, h3, h4⟩ := h.plain (by omega)
  cases e
  have hc := fun j u hj => h4 _ u (flat_at prowCells 5 prowCells_len rows k hk j u hj)
  have c0 := hc 0 _ rfl
  have c1 := hc 1 _ rfl
  have c2 := hc 2 _ rfl
  have c3 := hc 3 _ rfl
  have c4 := hc 4 _ rfl
  simp only [← Nat.add_assoc, Nat.add_zero] at c0 c1 c2 c3 c4
  exact ⟨b, o, rfl, h3, c0, c1, c2, c3, c4⟩
section
variable {w w' : World} {F S : Nat → Prop} {ca ra : Option Addr} {cc rc : Nat} {cs : List Rv} {rows : List Rw} {c : List Rat} {rs : List AR}
theorem PA.keeps (h : PA w F ca ra cc rc cs rows c rs) (hk : Keeps w w' S) (hd : ∀ k, F k → ¬ S k) (hs : ∀ k, S k → ¬ WordB w k) : PA w' F ca ra cc rc cs rows c rs := by
  have hlt := h.pw.2.2
  refine ⟨⟨h.pw.1.keeps hk fun k hf => hd k (h.pw.2.1 k hf), h.pw.2.1, fun k hf => Nat.lt_of_lt_of_le (hlt k hf) hk.size⟩, fun k hf ⟨cs, hc⟩ => h.noW k hf ⟨cs, (hk.block k (hlt k hf) (hd k hf)).symm.trans hc⟩, h.cost, h.rws, fun v hv => ⟨(h.okc v hv).1.keeps hk hs, (h.okc v hv).2⟩, fun r hr => ⟨(h.okr r hr).1.keeps hk hs, (h.okr r hr).2⟩, fun r hr v hv => ⟨(h.okv r hr v hv).1.keeps hk hs, (h.okv r hr v hv).2⟩⟩
theorem PA.lt (h : PA w F ca ra cc rc cs rows c rs) : ∀ k, F k → k < w.heap.size := h.pw.2.2
theorem PA.below (h : PA w F ca ra cc rc cs rows c rs) (hb : Below w.heap.size w w') : PA w' F ca ra cc rc cs rows c rs :=
  h.keeps (Keeps.of_below hb (S := fun k => w.heap.size ≤ k) fun b h _ => h) (fun k hf hn => by have := h.lt k hf; omega) fun k hn hw => by have := hw.lt; omega
theorem PA.costs (h : PA w F ca ra cc rc cs rows c rs) : Sl w 3 (.slice ca cs.length cc) cs.length (cs.flatMap Rv.cells) := Sl.ofMid (show Mid w 0 51 3 _ _ _ from h.pw.1.get 0 (by simp [pPs]))
theorem PA.rowsl (h : PA w F ca ra cc rc cs rows c rs) : Sl w 5 (.slice ra rows.length rc) rows.length (rows.flatMap prowCells) := Sl.ofMid (show Mid w 0 82 5 _ _ _ from h.pw.1.get 1 (by simp [pPs]))
theorem PA.coefsl (h : PA w F ca ra cc rc cs rows c rs) {r : Rw} (hr : r ∈ rows) : Sl w 3 r.cv r.coef.length (r.coef.flatMap Rv.cells) := Sl.ofMid (show Mid w 0 51 3 _ _ _ from h.pw.1.1 (coefP r) (by simp only [pPs, List.mem_cons, List.mem_map]; exact .inr (.inr ⟨r, hr, rfl⟩)))
theorem PA.clen (h : PA w F ca ra cc rc cs rows c rs) : cs.length = c.length := by rw [← h.cost, List.length_map]
theorem PA.rlen (h : PA w F ca ra cc rc cs rows c rs) : rows.length = rs.length := by rw [← h.rws, List.length_map]
theorem PA.rvec (h : PA w F ca ra cc rc cs rows c rs) {r : Rw} (hr : r ∈ rows) : ∃ j jc, r.cv = .slice j r.coef.length jc ∧ VecW w j r.coef.length jc r.coef := by
  have hs := h.coefsl hr
  obtain ⟨j, jc, e, _⟩ := hs.len
  rw [e] at hs
  exact ⟨j, jc, e, rfl, hs, fun v hv => (h.okv r hr v hv).1, fun v hv => (h.okv r hr v hv).2⟩
end
end Go.Proofs.YtaehklhbokocbaaGreatDoor
namespace Go.Proofs.YtaehklhbokocbaaGreatDoor
open Go.RowKit
def Frm (w0 : World) (K : Nat → Prop) (W W' : World) : Prop := ∃ S, Keeps W W' S ∧ (∀ k, K k → ¬ S k) ∧ (∀ k, S k → ¬ WordB W k) ∧ ∀ k, S k → w0.heap.size ≤ k
def LSt (w0 W : World) (sb : Nat) (s : AS) (K : Nat → Prop) : Prop := ∃ G, SA W sb G s ∧ (∀ k, G k → w0.heap.size ≤ k) ∧ Below w0.heap.size w0 W ∧ (∀ k, K k → ¬ G k) ∧ ∀ k, K k → k < W.heap.size
section
variable {w0 w W W' W1 : World} {sb : Nat} {s s1 : AS} {K X F : Nat → Prop}
theorem Frm.of_below (hb : Below W.heap.size W W') : Frm w0 K W W' := ⟨fun _ => False, below_keeps hb, fun _ _ h => h, fun _ h => h.elim, fun _ h => h.elim⟩
theorem Frm.size (h : Frm w0 K W W') : W.heap.size ≤ W'.heap.size := by obtain ⟨_, h, _⟩ := h; exact h.size
theorem Frm.cell {b : Nat} (h : Frm w0 K W W') (hK : K b) {j : Nat} {u : Value} (hc : W.cell? ⟨b, j, none⟩ = some u) : W'.cell? ⟨b, j, none⟩ = some u := by
  obtain ⟨S, h1, h2, _⟩ := h
  exact (h1.cell (a := ⟨b, j, none⟩) (World.block_lt_of_cell? _ _ hc) (h2 b hK)).trans hc
theorem Frm.low {b : Nat} (h : Frm w0 K W W') (hb : b < w0.heap.size) {j : Nat} {u : Value} (hc : W.cell? ⟨b, j, none⟩ = some u) : W'.cell? ⟨b, j, none⟩ = some u := by
  obtain ⟨S, h1, _, _, h4⟩ := h
  exact (h1.cell (a := ⟨b, j, none⟩) (World.block_lt_of_cell? _ _ hc) (fun hS => by have := h4 b hS; omega)).trans hc
theorem Frm.mid (h : Frm w0 K W W') {base size n : Nat} {e : TypeId} {v : Value} {xs : List Value} (hm : Mid W base e size v n xs) (hK : ∀ k, v.ownBlock = some k → K k) : Mid W' base e size v n xs := by
  obtain ⟨S, h1, h2, _⟩ := h
  exact hm.keeps h1 fun k hk => h2 k (hK k hk)
theorem Frm.rv (h : Frm w0 K W W') {v : Rv} (hv : v.ok W) : v.ok W' := by obtain ⟨S, h1, _, h3, _⟩ := h; exact hv.keeps h1 h3
theorem PA.frm {ca ra : Option Addr} {cc rc : Nat} {cs : List Rv} {rows : List Rw} {c : List Rat} {rs : List AR} (hp : PA W F ca ra cc rc cs rows c rs) (h : Frm w0 K W W') (hF : ∀ k, F k → K k) : PA W' F ca ra cc rc cs rows c rs := by
  obtain ⟨S, h1, h2, h3, _⟩ := h
  exact hp.keeps h1 (fun k hk => h2 k (hF k hk)) h3
theorem LSt.bl (h : LSt w0 W sb s K) : Below w0.heap.size w0 W := by obtain ⟨_, _, _, h, _⟩ := h; exact h
theorem LSt.below (h : LSt w0 W sb s K) (hb : Below W.heap.size W W') : LSt w0 W' sb s K := by
  obtain ⟨G, h1, h2, h3, h4, h5⟩ := h
  exact ⟨G, h1.below hb, h2, h3.trans (hb.mono h3.size), h4, fun k hk => Nat.lt_of_lt_of_le (h5 k hk) hb.size⟩
theorem LSt.more (h : LSt w0 W sb s K) (hb : Below W.heap.size W W') (hX : ∀ k, X k → W.heap.size ≤ k ∧ k < W'.heap.size) : LSt w0 W' sb s (fun k => K k ∨ X k) := by
  obtain ⟨G, h1, h2, h3, h4, h5⟩ := h
  refine ⟨G, h1.below hb, h2, h3.trans (hb.mono h3.size), fun k hk hG => ?_, fun k hk => ?_⟩
  · rcases hk with hk | hk
    · exact h4 k hk hG
    · have := h1.lt k hG; have := (hX k hk).1; omega
  · rcases hk with hk | hk
    · exact Nat.lt_of_lt_of_le (h5 k hk) hb.size
    · exact (hX k hk).2
theorem LSt.act (h : LSt w0 W sb s K) {f : FuncId} {args : Array Value} {R Q : Ending → World → Prop} (hc : ∀ G, SA W sb G s → Calls Tryz.prog f args W fun e W' => R e W' ∧ SAct W sb G s1 W') (hq : ∀ e W', R e W' → LSt w0 W' sb s1 K → Frm w0 K W W' → Q e W') : Calls Tryz.prog f args W Q := by
  obtain ⟨G, h1, h2, h3, h4, h5⟩ := h
  refine (hc G h1).mono ?_
  rintro e W' ⟨hp, G', g1, g2, g3⟩
  have hz := h3.size
  refine hq e W' hp ⟨G', g1, fun k hk => ?_, below_of_keeps h3 g3 h2, fun k hk hG => ?_, fun k hk => Nat.lt_of_lt_of_le (h5 k hk) g3.size⟩ ⟨G, g3, h4, h1.noWords, h2⟩
  · rcases g2 k hk with h7 | h7
    · exact h2 k h7
    · omega
  · rcases g2 k hG with h7 | h7
    · exact h4 k hk h7
    · have := h5 k hk; omega
theorem LSt.read (h : LSt w0 W sb s K) {f : FuncId} {args : Array Value} {R Q : Ending → World → Prop} (hc : ∀ G, SA W sb G s → Calls Tryz.prog f args W fun e W' => R e W' ∧ Below W.heap.size W W') (hq : ∀ e W', R e W' → LSt w0 W' sb s K → Below W.heap.size W W' → Q e W') : Calls Tryz.prog f args W Q := by
  obtain ⟨G, h1, h2, h3, h4, h5⟩ := id h
  refine (hc G h1).mono ?_
  rintro e W' ⟨hp, hb⟩
  exact hq e W' hp (h.below hb) hb
theorem LSt.rows (h : LSt w0 W sb s K) (hw : WF s) {Q : Ending → World → Prop} (hq : ∀ a c W', Mid W' W.heap.size 3 1 (.slice a s.rids.length c) s.rids.length (s.rids.map IV) → LSt w0 W' sb s K → Below W.heap.size W W' → Q (.returned (.slice a s.rids.length c)) W') : Calls Tryz.prog 13 #[.pointer (some ⟨sb, 0, none⟩)] W Q := by
  obtain ⟨G, h1, _⟩ := id h
  refine (as_rows h1 hw).mono ?_
  rintro e W' ⟨a, c, rfl, hm, hb⟩
  exact hq a c W' hm (h.below hb) hb
theorem LSt.cols (h : LSt w0 W sb s K) (hw : WF s) {Q : Ending → World → Prop} (hq : ∀ a c W', Mid W' W.heap.size 3 1 (.slice a s.cids.length c) s.cids.length (s.cids.map IV) → LSt w0 W' sb s K → Below W.heap.size W W' → Q (.returned (.slice a s.cids.length c)) W') : Calls Tryz.prog 14 #[.pointer (some ⟨sb, 0, none⟩)] W Q := by
  obtain ⟨G, h1, _⟩ := id h
  refine (as_cols h1 hw).mono ?_
  rintro e W' ⟨a, c, rfl, hm, hb⟩
  exact hq a c W' hm (h.below hb) hb
theorem ErrV.cases {base : Nat} {f : Fl} {v : Value} (h : ErrV W base f v) : (f = noF ∧ v = .nilIface) ∨ (f ≠ noF ∧ ∃ n, v = eE n) ∨ (f ≠ noF ∧ ∃ b, v = eF b) := by
  rcases h with ⟨h1, h2⟩ | ⟨h1, h2, h3, h4⟩ | ⟨h1, h2, b, h3, h4, h5⟩
  · exact .inl ⟨h1, h2⟩
  · exact .inr (.inl ⟨fun e => h3 (by rw [e]; rfl), _, h4⟩)
  · exact .inr (.inr ⟨fun e => h1 (by rw [e]; rfl), b, h4⟩)
theorem ErrV.nil {base : Nat} {v : Value} (h : ErrV W base noF v) : v = .nilIface := nil_of h
end
end Go.Proofs.YtaehklhbokocbaaGreatDoor
namespace Go.Proofs.YtaehklhbokocbaaGreatDoor
open Go.RowKit Go.Extern.Stop Go.Stop Go.Extern
def XT (W : World) (xb : Nat) : Prop := ∃ cur, W.heap[xb]? = some (.cells cur 39 (0, 0))
theorem XT.noW {W : World} {xb : Nat} (h : XT W xb) : ¬ WordB W xb := by obtain ⟨_, h⟩ := h; exact noWord_of h (by decide)
theorem XT.set {W : World} {xb : Nat} (h : XT W xb) (j : Nat) (u : Value) : XT (W.setCell ⟨xb, j, none⟩ u) xb := by obtain ⟨cur, h⟩ := h; exact ⟨_, heap_setCell_same W xb j cur 39 u h⟩
theorem XT.frm {w0 W W' : World} {K : Nat → Prop} {xb : Nat} (h : XT W xb) (hf : Frm w0 K W W') (hK : K xb) : XT W' xb := by
  obtain ⟨cur, h⟩ := h
  obtain ⟨S, h1, h2, _⟩ := hf
  exact ⟨cur, (h1.block xb (lt_of_block h) (h2 xb hK)).trans h⟩
theorem XT.free {W : World} {xb : Nat} (h : XT W xb) : W.frozen? ⟨xb, 0, none⟩ = false := by obtain ⟨_, h⟩ := h; exact free_of_block h
theorem XOk.d {x : XA} (h : XOk x) (d : Int) : XOk ⟨d, x.row, x.col, x.kind, x.v, x.es⟩ := ⟨h.row, h.col, h.kind, h.p, h.q, h.es⟩
end Go.Proofs.YtaehklhbokocbaaGreatDoor
