/-
  What the laws of a store stand on, part C: contracts and plain laws of SModel, SAt, SIds, SLayP, SLay, SAddRow, SSet, SDel, SDropRow, SClone, Vec1, SBits; the conditions are each law's own.
-/
import Derived.Test.YtaehklhbokocbaaGreatDoorXA
import Derived.Test.YtaehklhbokocbaaGreatDoorXB
import Derived.Shelf.Abstract
import Derived.Test.YtaehklhbokocbaaGreatDoorXW
import Derived.Deep.RegionLaw
import Derived.Deep.DeepCutAuto
import Derived.Lib.SliceRun
import Derived.OneCell
import Derived.Laws.Rows
import Derived.Deep.RegionHeld3
set_option linter.unusedVariables false
set_option linter.unusedSimpArgs false
namespace Go.Proofs.YtaehklhbokocbaaGreatDoor
open Go.RowKit
theorem WordB.below {w w' : World} {k : Nat} (h : WordB w k) (hb : Below w.heap.size w w') : WordB w' k := h.same (hb.block k h.lt)
structure Rv where
  s : Bool
  a : Option Addr
  l : Nat
  c : Nat
  b : Option Addr
  m : Nat
  d : Nat
  q : Rat
def Rv.cells (v : Rv) : List Value := [.bool v.s, .slice v.a v.l v.c, .slice v.b v.m v.d]
def Rv.val (v : Rv) : Value := .agg #[.bool v.s, .slice v.a v.l v.c, .slice v.b v.m v.d]
structure Rv.ok (w : World) (v : Rv) : Prop where
  s : v.s = decide (v.q.num < 0)
  l : v.l = lenW v.q.num.natAbs
  m : v.m = lenW (denN v.q.den)
  num : NatW w v.a v.c v.q.num.natAbs
  den : NatW w v.b v.d (denN v.q.den)
def Rv.small (v : Rv) : Prop := lenW v.q.num.natAbs ≤ 2 ∧ lenW v.q.den ≤ 1
theorem Rv.ok.below {w w' : World} {v : Rv} (h : v.ok w) (hb : Below w.heap.size w w') : v.ok w' := ⟨h.s, h.l, h.m, h.num.below hb, h.den.below hb⟩
theorem Rv.ok.keeps {w w' : World} {v : Rv} {S : Nat → Prop} (h : v.ok w) (hk : Keeps w w' S) (hs : ∀ k, S k → ¬ WordB w k) : v.ok w' := ⟨h.s, h.l, h.m, h.num.keeps hk hs, h.den.keeps hk hs⟩
theorem Rv.ok.val {w : World} {v : Rv} (h : v.ok w) : v.val = ratV v.a v.c v.b v.d v.q := by
  unfold Rv.val ratV
  rw [← h.s, ← h.l, ← h.m]
def Rv.zero : Rv := ⟨false, none, 0, 0, none, 0, 0, 0⟩
theorem Rv.zero_ok (w : World) : Rv.zero.ok w := ⟨rfl, lenW_zero.symm, lenW_zero.symm, NatW.zero w, NatW.zero w⟩
theorem Rv.zero_small : Rv.zero.small := ⟨by show lenW 0 ≤ 2; rw [lenW_zero]; omega, by show lenW 1 ≤ 1; rw [lenW_pos1]; exact Nat.le_refl _⟩
theorem RetR.rv {q : Rat} {w w' : World} {e : Ending} (h : RetR q w e w') : ∃ v : Rv, e = .returned v.val ∧ v.ok w' ∧ v.q = q ∧ Below w.heap.size w w' := by
  obtain ⟨a, c, b, d, he, h1, h2, h3⟩ := h
  exact ⟨⟨decide (q.num < 0), a, lenW q.num.natAbs, c, b, lenW (denN q.den), d, q⟩, he, ⟨rfl, rfl, rfl, h1, h2⟩, rfl, h3⟩
structure Rw where
  id : Int
  kind : Int
  rhs : Rv
  cv : Value
  coef : List Rv
structure Cl where
  id : Int
  cost : Rv
def rowCells (r : Rw) : List Value := [.int .i64 r.id, .int .i64 r.kind, .bool r.rhs.s, .slice r.rhs.a r.rhs.l r.rhs.c, .slice r.rhs.b r.rhs.m r.rhs.d, r.cv]
def colCells (c : Cl) : List Value := [.int .i64 c.id, .bool c.cost.s, .slice c.cost.a c.cost.l c.cost.c, .slice c.cost.b c.cost.m c.cost.d]
theorem rowCells_len (r : Rw) : (rowCells r).length = 6 := rfl
theorem colCells_len (c : Cl) : (colCells c).length = 4 := rfl
theorem rvCells_len (v : Rv) : v.cells.length = 3 := rfl
def coefP (r : Rw) : Pc := ⟨r.cv, 51, 3, r.coef.length, r.coef.flatMap Rv.cells⟩
def sPs (rv cv : Value) (rows : List Rw) (cols : List Cl) : List Pc :=
  ⟨rv, 111, 6, rows.length, rows.flatMap rowCells⟩ :: ⟨cv, 113, 4, cols.length, cols.flatMap colCells⟩ :: rows.map coefP
structure Nums (w : World) (rows : List Rw) (cols : List Cl) : Prop where
  rhs : ∀ r, r ∈ rows → r.rhs.ok w
  coef : ∀ r, r ∈ rows → ∀ v, v ∈ r.coef → v.ok w
  cost : ∀ c, c ∈ cols → c.cost.ok w
theorem Nums.below {w w' : World} {rows : List Rw} {cols : List Cl} (h : Nums w rows cols) (hb : Below w.heap.size w w') : Nums w' rows cols :=
  ⟨fun r hr => (h.rhs r hr).below hb, fun r hr v hv => (h.coef r hr v hv).below hb, fun c hc => (h.cost c hc).below hb⟩
theorem Nums.keeps {w w' : World} {rows : List Rw} {cols : List Cl} {S : Nat → Prop} (h : Nums w rows cols) (hk : Keeps w w' S) (hs : ∀ k, S k → ¬ WordB w k) : Nums w' rows cols :=
  ⟨fun r hr => (h.rhs r hr).keeps hk hs, fun r hr v hv => (h.coef r hr v hv).keeps hk hs, fun c hc => (h.cost c hc).keeps hk hs⟩
def SS (w : World) (sb : Nat) (G : Nat → Prop) (rows : List Rw) (cols : List Cl) (lr lc : Int) : Prop :=
  ∃ (ra ca : Option Addr) (rc cc : Nat), Box w sb 93 G [.slice ra rows.length rc, .slice ca cols.length cc, .int .i64 lr, .int .i64 lc] (sPs (.slice ra rows.length rc) (.slice ca cols.length cc) rows cols) ∧
    (∀ k, G k → ¬ WordB w k) ∧ Nums w rows cols
theorem Box.exact {w : World} {mb : Nat} {T : TypeId} {G : Nat → Prop} {hs : List Value} {ps : List Pc} (h : Box w mb T G hs ps) : Box w mb T (fun k => k = mb ∨ Foot ps k) hs ps := by
  obtain ⟨h1, h2, h3, h4, h5⟩ := h
  refine ⟨h1, h2, .inl rfl, fun k hf => ⟨.inr hf, (h4 k hf).2⟩, fun k hk => ?_⟩
  rcases hk with rfl | hf
  · exact lt_of_block h1
  · exact h2.lt k hf
theorem mid_type {w : World} {base size n : Nat} {e : TypeId} {v : Value} {xs : List Value} (h : Mid w base e size v n xs) (he : e ≠ 157) : ∀ k, v.ownBlock = some k → ¬ WordB w k := fun k hk ⟨cs, hc⟩ => by
  rcases h.2 with ⟨rfl, _⟩ | ⟨g, o, cap, cur, rfl, _, hg, _⟩
  · cases hk
  · simp only [Value.ownBlock, Option.some.injEq] at hk
    subst hk
    rw [hg] at hc
    injection hc with hc
    injection hc with _ ht
    exact he ht
theorem Box.noWords {w : World} {mb : Nat} {T : TypeId} {G : Nat → Prop} {hs : List Value} {ps : List Pc} (h : Box w mb T G hs ps) (hT : T ≠ 157) (he : ∀ p, p ∈ ps → p.e ≠ 157) : ∀ k, (k = mb ∨ Foot ps k) → ¬ WordB w k := fun k hk => by
  rcases hk with rfl | ⟨p, hp, hv⟩
  · rintro ⟨cs, hc⟩
    rw [h.1] at hc
    injection hc with hc
    injection hc with _ ht
    exact hT ht
  · exact mid_type (h.2.1.1 p hp) (he p hp) k hv
theorem sPs_types {rv cv : Value} {rows : List Rw} {cols : List Cl} : ∀ p, p ∈ sPs rv cv rows cols → p.e ≠ 157 := fun p hp => by
  simp only [sPs, List.mem_cons, List.mem_map] at hp
  rcases hp with rfl | rfl | ⟨r, _, rfl⟩
  · exact (by decide : (111 : Nat) ≠ 157)
  · exact (by decide : (113 : Nat) ≠ 157)
  · exact (by decide : (51 : Nat) ≠ 157)
theorem SS.mk {w : World} {sb : Nat} {G : Nat → Prop} {rows : List Rw} {cols : List Cl} {lr lc : Int} {ra ca : Option Addr} {rc cc : Nat}
    (h : Box w sb 93 G [.slice ra rows.length rc, .slice ca cols.length cc, .int .i64 lr, .int .i64 lc] (sPs (.slice ra rows.length rc) (.slice ca cols.length cc) rows cols)) (hn : Nums w rows cols) :
    ∃ G', SS w sb G' rows cols lr lc ∧ ∀ k, G' k → G k := by
  refine ⟨_, ⟨ra, ca, rc, cc, h.exact, h.noWords (by decide) sPs_types, hn⟩, fun k hk => ?_⟩
  rcases hk with rfl | hf
  · exact h.2.2.1
  · exact (h.2.2.2.1 k hf).1
section
variable {w w' : World} {sb : Nat} {G S : Nat → Prop} {rows : List Rw} {cols : List Cl} {lr lc : Int}
theorem SS.lt (h : SS w sb G rows cols lr lc) : ∀ k, G k → k < w.heap.size := by
  obtain ⟨_, _, _, _, h, _⟩ := h; exact h.lt
theorem SS.here (h : SS w sb G rows cols lr lc) : G sb := by
  obtain ⟨_, _, _, _, h, _⟩ := h; exact h.2.2.1
theorem SS.noWords (h : SS w sb G rows cols lr lc) : ∀ k, G k → ¬ WordB w k := by
  obtain ⟨_, _, _, _, _, h, _⟩ := h; exact h
theorem SS.nums (h : SS w sb G rows cols lr lc) : Nums w rows cols := by
  obtain ⟨_, _, _, _, _, _, h⟩ := h; exact h
theorem SS.keeps (h : SS w sb G rows cols lr lc) (hk : Keeps w w' S) (hd : ∀ k, G k → ¬ S k) (hs : ∀ k, S k → ¬ WordB w k) : SS w' sb G rows cols lr lc := by
  obtain ⟨ra, ca, rc, cc, h1, h2, h3⟩ := h
  refine ⟨ra, ca, rc, cc, h1.keeps hk hd, fun k hG ⟨cs, hc⟩ => h2 k hG ⟨cs, (hk.block k (h1.lt k hG) (hd k hG)).symm.trans hc⟩, h3.keeps hk hs⟩
theorem SS.below (h : SS w sb G rows cols lr lc) (hb : Below w.heap.size w w') : SS w' sb G rows cols lr lc :=
  h.keeps (Keeps.of_below hb (S := fun k => w.heap.size ≤ k) fun b h _ => h) (fun k hG hn => by have := h.lt k hG; omega) fun k hk hw => by have := hw.lt; omega
def StA (w : World) (sb : Nat) (G : Nat → Prop) (rows : List Rw) (cols : List Cl) (lr lc : Int) (w' : World) : Prop :=
  ∃ G', SS w' sb G' rows cols lr lc ∧ (∀ k, G' k → G k ∨ w.heap.size ≤ k) ∧ Keeps w w' G
theorem StA.of_below (h : SS w sb G rows cols lr lc) (hb : Below w.heap.size w w') : StA w sb G rows cols lr lc w' :=
  ⟨G, h.below hb, fun _ h => .inl h, Keeps.of_below hb fun b h1 h2 => by omega⟩
theorem StA.of {ra ca : Option Addr} {rc cc : Nat} (h : BoxA w sb 93 G [.slice ra rows.length rc, .slice ca cols.length cc, .int .i64 lr, .int .i64 lc] (sPs (.slice ra rows.length rc) (.slice ca cols.length cc) rows cols) w')
    (hG : ∀ k, G k → ¬ WordB w k) (hn : Nums w rows cols) : StA w sb G rows cols lr lc w' := by
  obtain ⟨G1, h1, h2, h3⟩ := h
  obtain ⟨G2, h4, h5⟩ := SS.mk h1 (hn.keeps h3 hG)
  exact ⟨G2, h4, fun k hk => h2 k (h5 k hk), h3⟩
structure SR (w : World) (sb : Nat) (ra ca : Option Addr) (rc cc : Nat) (rows : List Rw) (cols : List Cl) (lr lc : Int) : Prop where
  c0 : w.cell? ⟨sb, 0, none⟩ = some (.slice ra rows.length rc)
  c1 : w.cell? ⟨sb, 1, none⟩ = some (.slice ca cols.length cc)
  c2 : w.cell? ⟨sb, 2, none⟩ = some (.int .i64 lr)
  c3 : w.cell? ⟨sb, 3, none⟩ = some (.int .i64 lc)
  rws : Sl w 6 (.slice ra rows.length rc) rows.length (rows.flatMap rowCells)
  cls : Sl w 4 (.slice ca cols.length cc) cols.length (cols.flatMap colCells)
  coef : ∀ r, r ∈ rows → Sl w 3 r.cv r.coef.length (r.coef.flatMap Rv.cells)
theorem SS.read (h : SS w sb G rows cols lr lc) : ∃ ra ca rc cc, SR w sb ra ca rc cc rows cols lr lc := by
  obtain ⟨ra, ca, rc, cc, h, _⟩ := h
  have m0 := h.mid 0 rfl
  have m1 := h.mid 1 rfl
  exact ⟨ra, ca, rc, cc, h.cell 0 rfl, h.cell 1 rfl, h.cell 2 rfl, h.cell 3 rfl, Sl.ofMid (show Mid _ _ _ _ _ _ _ from m0), Sl.ofMid (show Mid _ _ _ _ _ _ _ from m1), fun r hr => by
    obtain ⟨i, hi, rfl⟩ := List.mem_iff_getElem.1 hr
    have := h.mid (i + 2) (p := coefP rows[i]) (by simp [sPs, hi])
    exact Sl.ofMid (show Mid _ _ _ _ _ _ _ from this)⟩
theorem SR.below {ra ca : Option Addr} {rc cc : Nat} (h : SR w sb ra ca rc cc rows cols lr lc) (hb : Below w.heap.size w w') : SR w' sb ra ca rc cc rows cols lr lc := by
  have hl := World.block_lt_of_cell? _ _ h.c0
  exact ⟨(hb.cell (p := ⟨sb, 0, none⟩) hl).trans h.c0, (hb.cell (p := ⟨sb, 1, none⟩) hl).trans h.c1, (hb.cell (p := ⟨sb, 2, none⟩) hl).trans h.c2, (hb.cell (p := ⟨sb, 3, none⟩) hl).trans h.c3, h.rws.below hb, h.cls.below hb, fun r hr => (h.coef r hr).below hb⟩
end
theorem row_get {w : World} {a : Option Addr} {c : Nat} {rows : List Rw} (h : Sl w 6 (.slice a rows.length c) rows.length (rows.flatMap rowCells)) (k : Nat) (hk : k < rows.length) :
    ∃ b o, a = some ⟨b, o, none⟩ ∧ b < w.heap.size ∧ w.cell? ⟨b, o + k * 6, none⟩ = some (.int .i64 rows[k].id) ∧ w.cell? ⟨b, o + k * 6 + 1, none⟩ = some (.int .i64 rows[k].kind) ∧ w.cell? ⟨b, o + k * 6 + 2, none⟩ = some (.bool rows[k].rhs.s) ∧
      w.cell? ⟨b, o + k * 6 + 3, none⟩ = some (.slice rows[k].rhs.a rows[k].rhs.l rows[k].rhs.c) ∧ w.cell? ⟨b, o + k * 6 + 4, none⟩ = some (.slice rows[k].rhs.b rows[k].rhs.m rows[k].rhs.d) ∧ w.cell? ⟨b, o + k * 6 + 5, none⟩ = some rows[k].cv := by
  obtain ⟨b, o, c', e, h1, h2, h3, h4⟩ := h.plain (by omega)
  cases e
  have hc := fun j u hj => h4 _ u (flat_at rowCells 6 rowCells_len rows k hk j u hj)
  have c0 := hc 0 _ rfl
  have c1 := hc 1 _ rfl
  have c2 := hc 2 _ rfl
  have c3 := hc 3 _ rfl
  have c4 := hc 4 _ rfl
  have c5 := hc 5 _ rfl
  simp only [← Nat.add_assoc, Nat.add_zero] at c0 c1 c2 c3 c4 c5
  exact ⟨b, o, rfl, h3, c0, c1, c2, c3, c4, c5⟩
theorem col_get {w : World} {a : Option Addr} {c : Nat} {cols : List Cl} (h : Sl w 4 (.slice a cols.length c) cols.length (cols.flatMap colCells)) (k : Nat) (hk : k < cols.length) :
    ∃ b o, a = some ⟨b, o, none⟩ ∧ b < w.heap.size ∧ w.cell? ⟨b, o + k * 4, none⟩ = some (.int .i64 cols[k].id) ∧ w.cell? ⟨b, o + k * 4 + 1, none⟩ = some (.bool cols[k].cost.s) ∧
      w.cell? ⟨b, o + k * 4 + 2, none⟩ = some (.slice cols[k].cost.a cols[k].cost.l cols[k].cost.c) ∧ w.cell? ⟨b, o + k * 4 + 3, none⟩ = some (.slice cols[k].cost.b cols[k].cost.m cols[k].cost.d) := by
  obtain ⟨b, o, c', e, h1, h2, h3, h4⟩ := h.plain (by omega)
  cases e
  have hc := fun j u hj => h4 _ u (flat_at colCells 4 colCells_len cols k hk j u hj)
  have c0 := hc 0 _ rfl
  have c1 := hc 1 _ rfl
  have c2 := hc 2 _ rfl
  have c3 := hc 3 _ rfl
  simp only [← Nat.add_assoc, Nat.add_zero] at c0 c1 c2 c3
  exact ⟨b, o, rfl, h3, c0, c1, c2, c3⟩
theorem rv_get {w : World} {a : Option Addr} {c : Nat} {vs : List Rv} (h : Sl w 3 (.slice a vs.length c) vs.length (vs.flatMap Rv.cells)) (k : Nat) (hk : k < vs.length) :
    ∃ b o, a = some ⟨b, o, none⟩ ∧ b < w.heap.size ∧ w.cell? ⟨b, o + k * 3, none⟩ = some (.bool vs[k].s) ∧ w.cell? ⟨b, o + k * 3 + 1, none⟩ = some (.slice vs[k].a vs[k].l vs[k].c) ∧ w.cell? ⟨b, o + k * 3 + 2, none⟩ = some (.slice vs[k].b vs[k].m vs[k].d) := by
  obtain ⟨b, o, c', e, h1, h2, h3, h4⟩ := h.plain (by omega)
  cases e
  have hc := fun j u hj => h4 _ u (flat_at Rv.cells 3 rvCells_len vs k hk j u hj)
  have c0 := hc 0 _ rfl
  have c1 := hc 1 _ rfl
  have c2 := hc 2 _ rfl
  simp only [← Nat.add_assoc, Nat.add_zero] at c0 c1 c2
  exact ⟨b, o, rfl, h3, c0, c1, c2⟩
theorem Sl.lenI {w : World} {size n : Nat} {a : Option Addr} {c : Nat} {cs : List Value} (h : Sl w size (.slice a n c) n cs) : n ≤ 9223372036854775807 ∧ n ≤ c ∧ c ≤ 9223372036854775807 := by
  obtain ⟨a', c', e, h1, h2, _⟩ := h.len
  cases e
  unfold maxLen at h2; omega
end Go.Proofs.YtaehklhbokocbaaGreatDoor
namespace Go.Proofs.YtaehklhbokocbaaGreatDoor
open Go.RowKit
theorem Tryz.infoInt : (Tryz.prog.info? 3).map (fun i => (i.zero, i.size, i.bytes)) = some (some (.int .i64 0), 1, 8) := by kernel_rfl
theorem Tryz.enter_row : ∀ args w, (callFunc 87 args).run Tryz.prog w = .ok (.enter 87 args) w := enters_of Tryz.func87 (by kernel_rfl) rfl
set_option maxHeartbeats 1000000 in
theorem rowcl_yes (tb : Nat) (t : Int) (i kd : Int) (sg : Bool) (a1 : Option Addr) (l1 c1 : Nat) (a2 : Option Addr) (l2 c2 : Nat) (cv : Value) (w : World) (h0 : w.cell? ⟨tb, 0, none⟩ = some (.int .i64 t)) (h : i = t) :
    Calls Tryz.prog 87 #[.agg #[.int .i64 i, .int .i64 kd, .bool sg, .slice a1 l1 c1, .slice a2 l2 c2, cv], .pointer (some ⟨tb, 0, none⟩)] w fun e w' => e = .returned (.bool true) ∧ Below w.heap.size w w' := by
  have hlt := World.block_lt_of_cell? _ _ h0
  subst h
  go_enter Tryz.func87, Tryz.ntmps87
  go_wp2
  go_ret
  exact ⟨by first | rfl | simp, belowBox _ _⟩
set_option maxHeartbeats 1000000 in
theorem rowcl_no (tb : Nat) (t : Int) (i kd : Int) (sg : Bool) (a1 : Option Addr) (l1 c1 : Nat) (a2 : Option Addr) (l2 c2 : Nat) (cv : Value) (w : World) (h0 : w.cell? ⟨tb, 0, none⟩ = some (.int .i64 t)) (h : i ≠ t) :
    Calls Tryz.prog 87 #[.agg #[.int .i64 i, .int .i64 kd, .bool sg, .slice a1 l1 c1, .slice a2 l2 c2, cv], .pointer (some ⟨tb, 0, none⟩)] w fun e w' => e = .returned (.bool false) ∧ Below w.heap.size w w' := by
  have hlt := World.block_lt_of_cell? _ _ h0
  have b0 : (i == t) = false := beq_eq_false_iff_ne.2 h
  clear h
  go_enter Tryz.func87, Tryz.ntmps87
  go_wp2
  go_ret
  exact ⟨by first | rfl | simp [b0], belowBox _ _⟩
set_option maxRecDepth 100000 in
set_option maxHeartbeats 1000000 in
theorem rowix_hit (tb : Nat) (a : Option Addr) (c : Nat) (rows : List Rw) (t : Int) (i : Nat) (w : World) (k0 : w.cell? ⟨tb, 0, none⟩ = some (.int .i64 t)) (hl : Sl w 6 (.slice a rows.length c) rows.length (rows.flatMap rowCells)) (hi : i < rows.length) (h1 : rows[i].id = t) (h0 : ∀ (j : Nat) (hj : j < i), (rows[j]'(by omega)).id ≠ t) :
    Calls Tryz.prog 86 #[.slice a rows.length c, .func (.func 87) #[] #[.pointer (some ⟨tb, 0, none⟩)]] w fun e w' => e = .returned (.int .i64 i) ∧ Below w.heap.size w w' := by
  have hlt0 := World.block_lt_of_cell? _ _ k0
  have eg := Tryz.enter_row
  have hlen := hl.lenI
  have HL := Lib.hid hl
  have H0 := Lib.hid h0
  have K0 := Lib.hid k0
  have H1 := Lib.hid h1
  clear hl h0 k0 h1
  go_enter Tryz.func86, Tryz.ntmps86
  go_wp2
  go_loopw [8] (fun iv wr => ∃ k : Nat, k ≤ i ∧ iv = .int .i64 k ∧ Below w.heap.size w wr) (fun iv _ => rows.length - (intOf iv).toNat)
  case atStart => exact ⟨0, Nat.zero_le _, rfl, Below.refl _ _⟩
  case round =>
    obtain ⟨k, hk, rfl, hb⟩ := hrel
    obtain ⟨b, o, rfl, _, c0, c1, c2, c3, c4, c5⟩ := row_get (HL.out.below hb) k (by omega)
    have i0 : (0 : Int) ≤ (k : Int) := by omega
    have i1 : (k : Int) < (rows.length : Int) := by omega
    have hw0 := (hb.cell (p := ⟨tb, 0, none⟩) hlt0).trans K0.out
    have HB := Lib.hid hb
    clear hb
    by_cases he : k = i
    · subst he
      have HEQ := H1.out
      have hy := fun (hq : rows[k].id = t) => rowcl_yes tb t rows[k].id rows[k].kind rows[k].rhs.s rows[k].rhs.a rows[k].rhs.l rows[k].rhs.c rows[k].rhs.b rows[k].rhs.m rows[k].rhs.d rows[k].cv wr hw0 hq
      generalize hG : rows[k] = G at c0 c1 c2 c3 c4 c5 hy HEQ
      clear hG
      obtain ⟨i1, kd, ⟨sg, a1, l1, c1', a2, l2, c2', q⟩, cv, cf⟩ := G
      simp only at c0 c1 c2 c3 c4 c5 hy HEQ
      have HY := Lib.hid (hy HEQ)
      clear hy hw0 HEQ
      go_wp2_with (go_at_fn 87; refine HY.out.mono ?_; rintro e w1 ⟨rfl, hb1⟩)
      go_ret
      exact ⟨rfl, HB.out.trans (Below.mono (by assumption) HB.out.size)⟩
    · skip
      have HNE := H0.out k (by omega)
      have hy := fun (hq : rows[k].id ≠ t) => rowcl_no tb t rows[k].id rows[k].kind rows[k].rhs.s rows[k].rhs.a rows[k].rhs.l rows[k].rhs.c rows[k].rhs.b rows[k].rhs.m rows[k].rhs.d rows[k].cv wr hw0 hq
      generalize hG : rows[k] = G at c0 c1 c2 c3 c4 c5 hy HNE
      clear hG
      obtain ⟨i1, kd, ⟨sg, a1, l1, c1', a2, l2, c2', q⟩, cv, cf⟩ := G
      simp only at c0 c1 c2 c3 c4 c5 hy HNE
      have HY := Lib.hid (hy HNE)
      clear hy hw0 HNE
      go_wp2_with (go_at_fn 87; refine HY.out.mono ?_; rintro e w1 ⟨rfl, hb1⟩)
      go_roundw
      case rel => exact ⟨k + 1, by omega, by go_num, HB.out.trans (Below.mono (by assumption) HB.out.size)⟩
      case measure => simp [intOf]; omega
set_option maxRecDepth 100000 in
set_option maxHeartbeats 1000000 in
theorem rowix_none (tb : Nat) (a : Option Addr) (c : Nat) (rows : List Rw) (t : Int) (w : World) (k0 : w.cell? ⟨tb, 0, none⟩ = some (.int .i64 t)) (hl : Sl w 6 (.slice a rows.length c) rows.length (rows.flatMap rowCells)) (h0 : ∀ p, p ∈ rows → p.id ≠ t) :
    Calls Tryz.prog 86 #[.slice a rows.length c, .func (.func 87) #[] #[.pointer (some ⟨tb, 0, none⟩)]] w fun e w' => e = .returned (.int .i64 (-1)) ∧ Below w.heap.size w w' := by
  have hlt0 := World.block_lt_of_cell? _ _ k0
  have eg := Tryz.enter_row
  have hlen := hl.lenI
  have HL := Lib.hid hl
  have H0 := Lib.hid h0
  have K0 := Lib.hid k0
  skip
  clear hl h0 k0 
  go_enter Tryz.func86, Tryz.ntmps86
  go_wp2
  go_loopw [8] (fun iv wr => ∃ k : Nat, k ≤ rows.length ∧ iv = .int .i64 k ∧ Below w.heap.size w wr) (fun iv _ => rows.length - (intOf iv).toNat)
  case atStart => exact ⟨0, Nat.zero_le _, rfl, Below.refl _ _⟩
  case round =>
    obtain ⟨k, hk, rfl, hb⟩ := hrel
    by_cases hlt : k < rows.length
    · skip
      obtain ⟨b, o, rfl, _, c0, c1, c2, c3, c4, c5⟩ := row_get (HL.out.below hb) k hlt
      have i0 : (0 : Int) ≤ (k : Int) := by omega
      have i1 : (k : Int) < (rows.length : Int) := by omega
      have hw0 := (hb.cell (p := ⟨tb, 0, none⟩) hlt0).trans K0.out
      have HB := Lib.hid hb
      clear hb
      have HNE := H0.out _ (List.getElem_mem hlt)
      have hy := fun (hq : rows[k].id ≠ t) => rowcl_no tb t rows[k].id rows[k].kind rows[k].rhs.s rows[k].rhs.a rows[k].rhs.l rows[k].rhs.c rows[k].rhs.b rows[k].rhs.m rows[k].rhs.d rows[k].cv wr hw0 hq
      generalize hG : rows[k] = G at c0 c1 c2 c3 c4 c5 hy HNE
      clear hG
      obtain ⟨i1, kd, ⟨sg, a1, l1, c1', a2, l2, c2', q⟩, cv, cf⟩ := G
      simp only at c0 c1 c2 c3 c4 c5 hy HNE
      have HY := Lib.hid (hy HNE)
      clear hy hw0 HNE
      go_wp2_with (go_at_fn 87; refine HY.out.mono ?_; rintro e w1 ⟨rfl, hb1⟩)
      go_roundw
      case rel => exact ⟨k + 1, by omega, by go_num, HB.out.trans (Below.mono (by assumption) HB.out.size)⟩
      case measure => simp [intOf]; omega
    · go_wp2
      go_ret
      exact ⟨rfl, hb⟩
def rowAt (rows : List Rw) (t : Int) : Nat := rows.findIdx fun p => decide (p.id = t)
theorem rowAt_hit {rows : List Rw} {t : Int} (h : rowAt rows t < rows.length) : (rows[rowAt rows t]'h).id = t ∧ ∀ (j : Nat) (hj : j < rowAt rows t), (rows[j]'(by omega)).id ≠ t := by
  constructor
  · have := List.findIdx_getElem (w := h)
    exact of_decide_eq_true this
  · intro j hj
    have := List.not_of_lt_findIdx hj
    simpa using this
theorem rowAt_none {rows : List Rw} {t : Int} (h : ¬ rowAt rows t < rows.length) : ∀ p, p ∈ rows → p.id ≠ t := by
  intro p hp hk
  exact h (List.findIdx_lt_length_of_exists ⟨p, hp, by simpa using hk⟩)
def rowV (rows : List Rw) (t : Int) : Int := if rowAt rows t < rows.length then (rowAt rows t : Int) else -1
set_option maxRecDepth 100000 in
set_option maxHeartbeats 1000000 in
theorem rowAt_any (sb : Nat) (G : Nat → Prop) (rows : List Rw) (cols : List Cl) (lr lc t : Int) (w : World) (h : SS w sb G rows cols lr lc) :
    Calls Tryz.prog 53 #[.pointer (some ⟨sb, 0, none⟩), .int .i64 t] w fun e w' => e = .returned (.int .i64 (rowV rows t)) ∧ Below w.heap.size w w' := by
  have hb0 := belowBox w (.cells #[.int .i64 t] 3)
  obtain ⟨ra, ca, rc, cc, r⟩ := (h.below hb0).read
  have c0 := r.c0
  have HI := Lib.hid (show Calls Tryz.prog 86 #[.slice ra rows.length rc, .func (.func 87) #[] #[.pointer (some ⟨w.heap.size, 0, none⟩)]] (w.alloc (.cells #[.int .i64 t] 3)) fun e w' => e = .returned (.int .i64 (rowV rows t)) ∧ Below (w.alloc (.cells #[.int .i64 t] 3)).heap.size (w.alloc (.cells #[.int .i64 t] 3)) w' by
    unfold rowV
    by_cases hh : rowAt rows t < rows.length
    · rw [if_pos hh]; exact rowix_hit w.heap.size _ _ rows t _ _ (by simp) r.rws hh (rowAt_hit hh).1 (rowAt_hit hh).2
    · rw [if_neg hh]; exact rowix_none w.heap.size _ _ rows t _ (by simp) r.rws (rowAt_none hh))
  have HB0 := Lib.hid hb0
  clear h hb0 r
  go_enter Tryz.func53, Tryz.ntmps53
  go_wp2_with fail
  refine HI.out.mono ?_
  rintro e w1 ⟨rfl, hb1⟩
  have HB1 := Lib.hid hb1
  clear hb1
  go_wp2
  go_ret
  exact ⟨rfl, HB0.out.trans (HB1.out.mono HB0.out.size)⟩
theorem Tryz.enter_col : ∀ args w, (callFunc 84 args).run Tryz.prog w = .ok (.enter 84 args) w := enters_of Tryz.func84 (by kernel_rfl) rfl
set_option maxHeartbeats 1000000 in
theorem colcl_yes (tb : Nat) (t : Int) (i : Int) (sg : Bool) (a1 : Option Addr) (l1 c1 : Nat) (a2 : Option Addr) (l2 c2 : Nat) (w : World) (h0 : w.cell? ⟨tb, 0, none⟩ = some (.int .i64 t)) (h : i = t) :
    Calls Tryz.prog 84 #[.agg #[.int .i64 i, .bool sg, .slice a1 l1 c1, .slice a2 l2 c2], .pointer (some ⟨tb, 0, none⟩)] w fun e w' => e = .returned (.bool true) ∧ Below w.heap.size w w' := by
  have hlt := World.block_lt_of_cell? _ _ h0
  subst h
  go_enter Tryz.func84, Tryz.ntmps84
  go_wp2
  go_ret
  exact ⟨by first | rfl | simp, belowBox _ _⟩
set_option maxHeartbeats 1000000 in
theorem colcl_no (tb : Nat) (t : Int) (i : Int) (sg : Bool) (a1 : Option Addr) (l1 c1 : Nat) (a2 : Option Addr) (l2 c2 : Nat) (w : World) (h0 : w.cell? ⟨tb, 0, none⟩ = some (.int .i64 t)) (h : i ≠ t) :
    Calls Tryz.prog 84 #[.agg #[.int .i64 i, .bool sg, .slice a1 l1 c1, .slice a2 l2 c2], .pointer (some ⟨tb, 0, none⟩)] w fun e w' => e = .returned (.bool false) ∧ Below w.heap.size w w' := by
  have hlt := World.block_lt_of_cell? _ _ h0
  have b0 : (i == t) = false := beq_eq_false_iff_ne.2 h
  clear h
  go_enter Tryz.func84, Tryz.ntmps84
  go_wp2
  go_ret
  exact ⟨by first | rfl | simp [b0], belowBox _ _⟩
set_option maxRecDepth 100000 in
set_option maxHeartbeats 1000000 in
theorem colix_hit (tb : Nat) (a : Option Addr) (c : Nat) (cols : List Cl) (t : Int) (i : Nat) (w : World) (k0 : w.cell? ⟨tb, 0, none⟩ = some (.int .i64 t)) (hl : Sl w 4 (.slice a cols.length c) cols.length (cols.flatMap colCells)) (hi : i < cols.length) (h1 : cols[i].id = t) (h0 : ∀ (j : Nat) (hj : j < i), (cols[j]'(by omega)).id ≠ t) :
    Calls Tryz.prog 83 #[.slice a cols.length c, .func (.func 84) #[] #[.pointer (some ⟨tb, 0, none⟩)]] w fun e w' => e = .returned (.int .i64 i) ∧ Below w.heap.size w w' := by
  have hlt0 := World.block_lt_of_cell? _ _ k0
  have eg := Tryz.enter_col
  have hlen := hl.lenI
  have HL := Lib.hid hl
  have H0 := Lib.hid h0
  have K0 := Lib.hid k0
  have H1 := Lib.hid h1
  clear hl h0 k0 h1
  go_enter Tryz.func83, Tryz.ntmps83
  go_wp2
  go_loopw [8] (fun iv wr => ∃ k : Nat, k ≤ i ∧ iv = .int .i64 k ∧ Below w.heap.size w wr) (fun iv _ => cols.length - (intOf iv).toNat)
  case atStart => exact ⟨0, Nat.zero_le _, rfl, Below.refl _ _⟩
  case round =>
    obtain ⟨k, hk, rfl, hb⟩ := hrel
    obtain ⟨b, o, rfl, _, c0, c1, c2, c3⟩ := col_get (HL.out.below hb) k (by omega)
    have i0 : (0 : Int) ≤ (k : Int) := by omega
    have i1 : (k : Int) < (cols.length : Int) := by omega
    have hw0 := (hb.cell (p := ⟨tb, 0, none⟩) hlt0).trans K0.out
    have HB := Lib.hid hb
    clear hb
    by_cases he : k = i
    · subst he
      have HEQ := H1.out
      have hy := fun (hq : cols[k].id = t) => colcl_yes tb t cols[k].id cols[k].cost.s cols[k].cost.a cols[k].cost.l cols[k].cost.c cols[k].cost.b cols[k].cost.m cols[k].cost.d wr hw0 hq
      generalize hG : cols[k] = G at c0 c1 c2 c3 hy HEQ
      clear hG
      obtain ⟨i1, ⟨sg, a1, l1, c1', a2, l2, c2', q⟩⟩ := G
      simp only at c0 c1 c2 c3 hy HEQ
      have HY := Lib.hid (hy HEQ)
      clear hy hw0 HEQ
      go_wp2_with (go_at_fn 84; refine HY.out.mono ?_; rintro e w1 ⟨rfl, hb1⟩)
      go_ret
      exact ⟨rfl, HB.out.trans (Below.mono (by assumption) HB.out.size)⟩
    · skip
      have HNE := H0.out k (by omega)
      have hy := fun (hq : cols[k].id ≠ t) => colcl_no tb t cols[k].id cols[k].cost.s cols[k].cost.a cols[k].cost.l cols[k].cost.c cols[k].cost.b cols[k].cost.m cols[k].cost.d wr hw0 hq
      generalize hG : cols[k] = G at c0 c1 c2 c3 hy HNE
      clear hG
      obtain ⟨i1, ⟨sg, a1, l1, c1', a2, l2, c2', q⟩⟩ := G
      simp only at c0 c1 c2 c3 hy HNE
      have HY := Lib.hid (hy HNE)
      clear hy hw0 HNE
      go_wp2_with (go_at_fn 84; refine HY.out.mono ?_; rintro e w1 ⟨rfl, hb1⟩)
      go_roundw
      case rel => exact ⟨k + 1, by omega, by go_num, HB.out.trans (Below.mono (by assumption) HB.out.size)⟩
      case measure => simp [intOf]; omega
set_option maxRecDepth 100000 in
set_option maxHeartbeats 1000000 in
theorem colix_none (tb : Nat) (a : Option Addr) (c : Nat) (cols : List Cl) (t : Int) (w : World) (k0 : w.cell? ⟨tb, 0, none⟩ = some (.int .i64 t)) (hl : Sl w 4 (.slice a cols.length c) cols.length (cols.flatMap colCells)) (h0 : ∀ p, p ∈ cols → p.id ≠ t) :
    Calls Tryz.prog 83 #[.slice a cols.length c, .func (.func 84) #[] #[.pointer (some ⟨tb, 0, none⟩)]] w fun e w' => e = .returned (.int .i64 (-1)) ∧ Below w.heap.size w w' := by
  have hlt0 := World.block_lt_of_cell? _ _ k0
  have eg := Tryz.enter_col
  have hlen := hl.lenI
  have HL := Lib.hid hl
  have H0 := Lib.hid h0
  have K0 := Lib.hid k0
  skip
  clear hl h0 k0 
  go_enter Tryz.func83, Tryz.ntmps83
  go_wp2
  go_loopw [8] (fun iv wr => ∃ k : Nat, k ≤ cols.length ∧ iv = .int .i64 k ∧ Below w.heap.size w wr) (fun iv _ => cols.length - (intOf iv).toNat)
  case atStart => exact ⟨0, Nat.zero_le _, rfl, Below.refl _ _⟩
  case round =>
    obtain ⟨k, hk, rfl, hb⟩ := hrel
    by_cases hlt : k < cols.length
    · skip
      obtain ⟨b, o, rfl, _, c0, c1, c2, c3⟩ := col_get (HL.out.below hb) k hlt
      have i0 : (0 : Int) ≤ (k : Int) := by omega
      have i1 : (k : Int) < (cols.length : Int) := by omega
      have hw0 := (hb.cell (p := ⟨tb, 0, none⟩) hlt0).trans K0.out
      have HB := Lib.hid hb
      clear hb
      have HNE := H0.out _ (List.getElem_mem hlt)
      have hy := fun (hq : cols[k].id ≠ t) => colcl_no tb t cols[k].id cols[k].cost.s cols[k].cost.a cols[k].cost.l cols[k].cost.c cols[k].cost.b cols[k].cost.m cols[k].cost.d wr hw0 hq
      generalize hG : cols[k] = G at c0 c1 c2 c3 hy HNE
      clear hG
      obtain ⟨i1, ⟨sg, a1, l1, c1', a2, l2, c2', q⟩⟩ := G
      simp only at c0 c1 c2 c3 hy HNE
      have HY := Lib.hid (hy HNE)
      clear hy hw0 HNE
      go_wp2_with (go_at_fn 84; refine HY.out.mono ?_; rintro e w1 ⟨rfl, hb1⟩)
      go_roundw
      case rel => exact ⟨k + 1, by omega, by go_num, HB.out.trans (Below.mono (by assumption) HB.out.size)⟩
      case measure => simp [intOf]; omega
    · go_wp2
      go_ret
      exact ⟨rfl, hb⟩
def colAt (cols : List Cl) (t : Int) : Nat := cols.findIdx fun p => decide (p.id = t)
theorem colAt_hit {cols : List Cl} {t : Int} (h : colAt cols t < cols.length) : (cols[colAt cols t]'h).id = t ∧ ∀ (j : Nat) (hj : j < colAt cols t), (cols[j]'(by omega)).id ≠ t := by
  constructor
  · have := List.findIdx_getElem (w := h)
    exact of_decide_eq_true this
  · intro j hj
    have := List.not_of_lt_findIdx hj
    simpa using this
theorem colAt_none {cols : List Cl} {t : Int} (h : ¬ colAt cols t < cols.length) : ∀ p, p ∈ cols → p.id ≠ t := by
  intro p hp hk
  exact h (List.findIdx_lt_length_of_exists ⟨p, hp, by simpa using hk⟩)
def colV (cols : List Cl) (t : Int) : Int := if colAt cols t < cols.length then (colAt cols t : Int) else -1
set_option maxRecDepth 100000 in
set_option maxHeartbeats 1000000 in
theorem colAt_any (sb : Nat) (G : Nat → Prop) (rows : List Rw) (cols : List Cl) (lr lc t : Int) (w : World) (h : SS w sb G rows cols lr lc) :
    Calls Tryz.prog 51 #[.pointer (some ⟨sb, 0, none⟩), .int .i64 t] w fun e w' => e = .returned (.int .i64 (colV cols t)) ∧ Below w.heap.size w w' := by
  have hb0 := belowBox w (.cells #[.int .i64 t] 3)
  obtain ⟨ra, ca, rc, cc, r⟩ := (h.below hb0).read
  have c0 := r.c1
  have HI := Lib.hid (show Calls Tryz.prog 83 #[.slice ca cols.length cc, .func (.func 84) #[] #[.pointer (some ⟨w.heap.size, 0, none⟩)]] (w.alloc (.cells #[.int .i64 t] 3)) fun e w' => e = .returned (.int .i64 (colV cols t)) ∧ Below (w.alloc (.cells #[.int .i64 t] 3)).heap.size (w.alloc (.cells #[.int .i64 t] 3)) w' by
    unfold colV
    by_cases hh : colAt cols t < cols.length
    · rw [if_pos hh]; exact colix_hit w.heap.size _ _ cols t _ _ (by simp) r.cls hh (colAt_hit hh).1 (colAt_hit hh).2
    · rw [if_neg hh]; exact colix_none w.heap.size _ _ cols t _ (by simp) r.cls (colAt_none hh))
  have HB0 := Lib.hid hb0
  clear h hb0 r
  go_enter Tryz.func51, Tryz.ntmps51
  go_wp2_with fail
  refine HI.out.mono ?_
  rintro e w1 ⟨rfl, hb1⟩
  have HB1 := Lib.hid hb1
  clear hb1
  go_wp2
  go_ret
  exact ⟨rfl, HB0.out.trans (HB1.out.mono HB0.out.size)⟩
end Go.Proofs.YtaehklhbokocbaaGreatDoor
namespace Go.Proofs.YtaehklhbokocbaaGreatDoor
open Go.RowKit
abbrev IV (n : Int) : Value := .int .i64 n
set_option maxRecDepth 100000 in
set_option maxHeartbeats 2000000 in
theorem rows_any (sb : Nat) (G : Nat → Prop) (rows : List Rw) (cols : List Cl) (lr lc : Int) (w : World) (h : SS w sb G rows cols lr lc) (hl : rows.length ≤ 4096) :
    Calls Tryz.prog 13 #[.pointer (some ⟨sb, 0, none⟩)] w (OwnR w 3 1 rows.length (rows.map fun r => IV r.id)) := by
  obtain ⟨ra, ca, rc, cc, r⟩ := h.read
  have c0 := r.c0
  obtain ⟨i0, hi, hz0, hz1, hz2⟩ := info_parts Tryz.infoInt
  have HR := Lib.hid r
  clear h r
  go_enter Tryz.func13, Tryz.ntmps13
  go_wp2
  go_loopw [3, 11] (fun ov iv wr => ∃ (k : Nat) (oa : Option Addr) (oc : Nat), k ≤ rows.length ∧ iv = .int .i64 k ∧ ov = .slice oa k oc ∧ Mid wr w.heap.size 3 1 (.slice oa k oc) k ((rows.take k).map fun r => IV r.id) ∧ Below w.heap.size w wr) (fun _ iv _ => rows.length - (intOf iv).toNat)
  case atStart => exact ⟨0, none, 0, Nat.zero_le _, rfl, rfl, by simpa using Mid.nil w w.heap.size 3 1, Below.refl _ _⟩
  case round =>
    obtain ⟨k, oa, oc, hk, rfl, rfl, hm, hb⟩ := hrel
    by_cases hlt : k < rows.length
    · obtain ⟨b, o, e1, _, k0, k1, k2, k3, k4, k5⟩ := row_get (HR.out.below hb).rws k hlt
      have ht : (rows.take (k + 1)).map (fun r => IV r.id) = (rows.take k).map (fun r => IV r.id) ++ [IV rows[k].id] := by rw [List.take_succ_eq_append_getElem hlt, List.map_append]; rfl
      have hcf := (HR.out.below hb).coef _ (List.getElem_mem hlt)
      generalize rows[k] = G at k0 k1 k2 k3 k4 k5 ht hcf
      obtain ⟨i1', kd, ⟨sg, a1, l1, c1, a2, l2, c2, q⟩, cv, cf⟩ := G
      simp only at k0 k1 k2 k3 k4 k5 ht hcf
      obtain ⟨ja, jc, rfl, _⟩ := hcf.len
      obtain ⟨jl, hjl⟩ : ∃ jl, jl = cf.length := ⟨_, rfl⟩
      rw [← hjl] at k5
      clear hjl hcf
      subst e1
      have HT := Lib.hid ht
      have HM := Lib.hid hm
      have HB := Lib.hid hb
      have i0' : (0 : Int) ≤ (k : Int) := by omega
      have i1 : (k : Int) < (rows.length : Int) := by omega
      clear ht hm hb
      have HM3 := Lib.hid ((HM.out.alloc (.cells #[.int .i64 i1', .int .i64 kd, .bool sg, .slice a1 l1 c1, .slice a2 l2 c2, .slice ja jl jc] 111)).alloc (.cells #[.int .i64 i1'] 3))
      have HS3 := Lib.hid (show Src Tryz.prog 1 27 (.slice (some ⟨wr.heap.size + 1, 0, none⟩) 1 1) 1 [.int .i64 i1'] ((wr.alloc (.cells #[.int .i64 i1', .int .i64 kd, .bool sg, .slice a1 l1 c1, .slice a2 l2 c2, .slice ja jl jc] 111)).alloc (.cells #[.int .i64 i1'] 3)) from by
        have := (Sl.lit (wr.alloc (.cells #[.int .i64 i1', .int .i64 kd, .bool sg, .slice a1 l1 c1, .slice a2 l2 c2, .slice ja jl jc] 111)) 3 1 1 [.int .i64 i1'] (by unfold maxLen; omega) rfl).src (P := Tryz.prog) Tryz.underlying27 (fun u hu => by
          rw [List.mem_singleton.1 hu]; rfl)
        rw [World.size_alloc] at this
        exact this)
      have HW3 := Lib.hid (show w.heap.size ≤ ((wr.alloc (.cells #[.int .i64 i1', .int .i64 kd, .bool sg, .slice a1 l1 c1, .slice a2 l2 c2, .slice ja jl jc] 111)).alloc (.cells #[.int .i64 i1'] 3)).heap.size by have := HB.out.size; simp; omega)
      go_wp2_with (at_builtin; refine wpList_append_mid (v := .slice oa k oc) rfl _ _ 27 27 rfl i0 (.int .i64 0) 8 Tryz.underlying27 hi hz0 hz1 hz2 rfl rfl HM3.out _ rfl 1 _ HS3.out (by unfold maxLen; omega) (by omega) HW3.out ?_; intro a4 c4 w4 hmo hgo hbo; have HMO4 := Lib.hid hmo; have HGO4 := Lib.hid hgo; clear hmo hgo hbo)
      go_roundw
      case rel =>
        refine ⟨k + 1, a4, c4, by omega, by go_num, rfl, ?_, ?_⟩
        · rw [HT.out]; exact HMO4.out
        · exact ((HB.out.alloc HB.out.size _).alloc (by have := HB.out.size; simp; omega) _).grown HGO4.out HW3.out fun q hq => (HM.out.lt q hq).1
      case measure => simp [intOf]; omega
    · obtain rfl : k = rows.length := by omega
      rw [List.take_length] at hm
      have HM := Lib.hid hm
      have HB := Lib.hid hb
      clear hb hm
      go_wp2
      go_ret
      exact ⟨oa, oc, rfl, HM.out, HB.out⟩
set_option maxRecDepth 100000 in
set_option maxHeartbeats 2000000 in
theorem cols_any (sb : Nat) (G : Nat → Prop) (rows : List Rw) (cols : List Cl) (lr lc : Int) (w : World) (h : SS w sb G rows cols lr lc) (hl : cols.length ≤ 4096) :
    Calls Tryz.prog 14 #[.pointer (some ⟨sb, 0, none⟩)] w (OwnR w 3 1 cols.length (cols.map fun r => IV r.id)) := by
  obtain ⟨ra, ca, rc, cc, r⟩ := h.read
  have c0 := r.c1
  obtain ⟨i0, hi, hz0, hz1, hz2⟩ := info_parts Tryz.infoInt
  have HR := Lib.hid r
  clear h r
  go_enter Tryz.func14, Tryz.ntmps14
  go_wp2
  go_loopw [3, 11] (fun ov iv wr => ∃ (k : Nat) (oa : Option Addr) (oc : Nat), k ≤ cols.length ∧ iv = .int .i64 k ∧ ov = .slice oa k oc ∧ Mid wr w.heap.size 3 1 (.slice oa k oc) k ((cols.take k).map fun r => IV r.id) ∧ Below w.heap.size w wr) (fun _ iv _ => cols.length - (intOf iv).toNat)
  case atStart => exact ⟨0, none, 0, Nat.zero_le _, rfl, rfl, by simpa using Mid.nil w w.heap.size 3 1, Below.refl _ _⟩
  case round =>
    obtain ⟨k, oa, oc, hk, rfl, rfl, hm, hb⟩ := hrel
    by_cases hlt : k < cols.length
    · obtain ⟨b, o, e1, _, k0, k1, k2, k3⟩ := col_get (HR.out.below hb).cls k hlt
      have ht : (cols.take (k + 1)).map (fun r => IV r.id) = (cols.take k).map (fun r => IV r.id) ++ [IV cols[k].id] := by rw [List.take_succ_eq_append_getElem hlt, List.map_append]; rfl
      generalize cols[k] = G at k0 k1 k2 k3 ht
      obtain ⟨i1', ⟨sg, a1, l1, c1, a2, l2, c2, q⟩⟩ := G
      simp only at k0 k1 k2 k3 ht
      subst e1
      have HT := Lib.hid ht
      have HM := Lib.hid hm
      have HB := Lib.hid hb
      have i0' : (0 : Int) ≤ (k : Int) := by omega
      have i1 : (k : Int) < (cols.length : Int) := by omega
      clear ht hm hb
      have HM3 := Lib.hid ((HM.out.alloc (.cells #[.int .i64 i1', .bool sg, .slice a1 l1 c1, .slice a2 l2 c2] 113)).alloc (.cells #[.int .i64 i1'] 3))
      have HS3 := Lib.hid (show Src Tryz.prog 1 27 (.slice (some ⟨wr.heap.size + 1, 0, none⟩) 1 1) 1 [.int .i64 i1'] ((wr.alloc (.cells #[.int .i64 i1', .bool sg, .slice a1 l1 c1, .slice a2 l2 c2] 113)).alloc (.cells #[.int .i64 i1'] 3)) from by
        have := (Sl.lit (wr.alloc (.cells #[.int .i64 i1', .bool sg, .slice a1 l1 c1, .slice a2 l2 c2] 113)) 3 1 1 [.int .i64 i1'] (by unfold maxLen; omega) rfl).src (P := Tryz.prog) Tryz.underlying27 (fun u hu => by
          rw [List.mem_singleton.1 hu]; rfl)
        rw [World.size_alloc] at this
        exact this)
      have HW3 := Lib.hid (show w.heap.size ≤ ((wr.alloc (.cells #[.int .i64 i1', .bool sg, .slice a1 l1 c1, .slice a2 l2 c2] 113)).alloc (.cells #[.int .i64 i1'] 3)).heap.size by have := HB.out.size; simp; omega)
      go_wp2_with (at_builtin; refine wpList_append_mid (v := .slice oa k oc) rfl _ _ 27 27 rfl i0 (.int .i64 0) 8 Tryz.underlying27 hi hz0 hz1 hz2 rfl rfl HM3.out _ rfl 1 _ HS3.out (by unfold maxLen; omega) (by omega) HW3.out ?_; intro a4 c4 w4 hmo hgo hbo; have HMO4 := Lib.hid hmo; have HGO4 := Lib.hid hgo; clear hmo hgo hbo)
      go_roundw
      case rel =>
        refine ⟨k + 1, a4, c4, by omega, by go_num, rfl, ?_, ?_⟩
        · rw [HT.out]; exact HMO4.out
        · exact ((HB.out.alloc HB.out.size _).alloc (by have := HB.out.size; simp; omega) _).grown HGO4.out HW3.out fun q hq => (HM.out.lt q hq).1
      case measure => simp [intOf]; omega
    · obtain rfl : k = cols.length := by omega
      rw [List.take_length] at hm
      have HM := Lib.hid hm
      have HB := Lib.hid hb
      clear hb hm
      go_wp2
      go_ret
      exact ⟨oa, oc, rfl, HM.out, HB.out⟩
theorem ss_new (w : World) : SS (w.alloc (.cells #[.slice none 0 0, .slice none 0 0, .int .i64 0, .int .i64 0] 93)) w.heap.size (fun k => k = w.heap.size) [] [] 0 0 := by
  have hb : (w.alloc (.cells #[.slice none 0 0, .slice none 0 0, .int .i64 0, .int .i64 0] 93)).heap[w.heap.size]? = some (.cells #[.slice none 0 0, .slice none 0 0, .int .i64 0, .int .i64 0] 93 (0, 0)) := heap_alloc_new _ _
  refine ⟨none, none, 0, 0, ⟨hb, ⟨fun p hp => ?_, ?_⟩, rfl, fun k hk => ?_, fun k hk => ?_⟩, fun k hk ⟨cs, hc⟩ => ?_, ⟨fun r hr => (by cases hr), fun r hr => (by cases hr), fun r hr => (by cases hr)⟩⟩
  · simp only [sPs, List.map_nil, List.mem_cons, List.not_mem_nil, or_false] at hp
    rcases hp with rfl | rfl <;> exact Mid.nil _ _ _ _
  · exact List.pairwise_cons.2 ⟨fun p hp k h => (by cases h), List.pairwise_singleton _ _⟩
  · obtain ⟨p, hp, hv⟩ := hk
    simp only [sPs, List.map_nil, List.mem_cons, List.not_mem_nil, or_false] at hp
    rcases hp with rfl | rfl <;> cases hv
  · rw [hk]; exact lt_of_block hb
  · subst hk
    rw [hb] at hc
    injection hc with hc
    injection hc with _ ht
    exact absurd ht (by decide)
def NewS (w : World) (e : Ending) (w' : World) : Prop := ∃ sb G, e = .returned (.pointer (some ⟨sb, 0, none⟩)) ∧ SS w' sb G [] [] 0 0 ∧ (∀ k, G k → w.heap.size ≤ k) ∧ Below w.heap.size w w'
set_option maxHeartbeats 1000000 in
theorem snew_any (w : World) : Calls Tryz.prog 11 #[] w (NewS w) := by
  go_enter Tryz.func11, Tryz.ntmps11
  go_wp2
  go_ret
  exact ⟨_, _, rfl, ss_new w, fun k hk => by rw [hk]; exact Nat.le_refl _, belowBox _ _⟩
end Go.Proofs.YtaehklhbokocbaaGreatDoor
namespace Go.Proofs.YtaehklhbokocbaaGreatDoor
open Go.RowKit
theorem Tryz.infoRat : (Tryz.prog.info? 51).map (fun i => (i.zero, i.size, i.bytes)) = some (some (.agg #[.bool false, .slice none 0 0, .slice none 0 0]), 3, 56) := by kernel_rfl
theorem Tryz.infoBool : (Tryz.prog.info? 4).map (fun i => (i.zero, i.size, i.bytes)) = some (some (.bool false), 1, 1) := by kernel_rfl
theorem made_flat {α : Type} (f : α → List Value) (m : Nat) (hm : 0 < m) (hf : ∀ x, (f x).length = m) (x : α) (z : Array Value) (hz : z = (f x).toArray) (n : Nat) : madeCells z (n * m) = ((List.replicate n x).flatMap f).toArray := by
  subst hz
  apply Array.ext'
  apply List.ext_getElem?
  intro i
  have hlen : ((List.replicate n x).flatMap f).length = n * m := by rw [flat_len f m hf]; simp
  rcases Nat.lt_or_ge i (n * m) with hi | hi
  · have hq : i / m < n := Nat.div_lt_of_lt_mul (by rw [Nat.mul_comm]; exact hi)
    have hr : i % m < (f x).length := by rw [hf]; exact Nat.mod_lt _ hm
    have h := flat_at f m hf (List.replicate n x) (i / m) (by simpa using hq) (i % m) ((f x)[i % m]) (by rw [List.getElem_replicate, List.getElem?_eq_getElem hr])
    rw [Nat.mul_comm, Nat.div_add_mod] at h
    show (madeCells (f x).toArray (n * m)).toList[i]? = ((List.replicate n x).flatMap f)[i]?
    rw [h]
    have hsz : i < (madeCells (f x).toArray (n * m)).toList.length := by rw [Array.length_toList, size_madeCells]; exact hi
    rw [List.getElem?_eq_getElem hsz]
    simp only [madeCells, Array.getElem_toList, Array.getElem_map, Array.getElem_range, List.size_toArray, hf]
    congr 1
    simp [hr]
  · show (madeCells (f x).toArray (n * m)).toList[i]? = ((List.replicate n x).flatMap f)[i]?
    rw [List.getElem?_eq_none (by rw [Array.length_toList, size_madeCells]; exact hi), List.getElem?_eq_none (by rw [hlen]; exact hi)]
def zeroV (n : Nat) : Array Value := ((List.replicate n Rv.zero).flatMap Rv.cells).toArray
def zeroB (n : Nat) : Array Value := ((List.replicate n false).flatMap fun b => [Value.bool b]).toArray
theorem make_vec (K : Nat) (hb : K ≤ 35184372088832 / 8) (W : World) : (Instr.makeSlice 70 (.int .i64 K) (.int .i64 K)).run Tryz.prog W = .ok (.slice (some ⟨W.heap.size, 0, none⟩) K K) (W.alloc (.cells (zeroV K) 51)) := by
  obtain ⟨ti, hi, hz0, hz1, hz2⟩ := info_parts Tryz.infoRat
  have := run_make (P := Tryz.prog) W 70 51 ti _ Tryz.underlying70 hi hz0 .i64 .i64 (K : Int) (K : Int) (by omega) (by omega) (by rw [hz2]; omega) (by omega)
  rw [Int.toNat_natCast, hz1, made_flat Rv.cells 3 (by omega) rvCells_len Rv.zero (Value.cells (.agg #[.bool false, .slice none 0 0, .slice none 0 0])) rfl] at this
  exact this
theorem make_bools (K : Nat) (hb : K ≤ 35184372088832 / 8) (W : World) : (Instr.makeSlice 153 (.int .i64 K) (.int .i64 K)).run Tryz.prog W = .ok (.slice (some ⟨W.heap.size, 0, none⟩) K K) (W.alloc (.cells (zeroB K) 4)) := by
  obtain ⟨ti, hi, hz0, hz1, hz2⟩ := info_parts Tryz.infoBool
  have := run_make (P := Tryz.prog) W 153 4 ti _ Tryz.underlying153 hi hz0 .i64 .i64 (K : Int) (K : Int) (by omega) (by omega) (by rw [hz2]; omega) (by omega)
  rw [Int.toNat_natCast, hz1, made_flat (fun b => [Value.bool b]) 1 (by omega) (fun _ => rfl) false (Value.cells (.bool false)) rfl] at this
  exact this
def boolC (b : Bool) : List Value := [.bool b]
theorem flat_set3 (vs : List Rv) (k : Nat) (hk : k < vs.length) (v : Rv) : (vs.set k v).flatMap Rv.cells = (((vs.flatMap Rv.cells).set (k * 3) (.bool v.s)).set (k * 3 + 1) (.slice v.a v.l v.c)).set (k * 3 + 2) (.slice v.b v.m v.d) := by
  apply List.ext_getElem?
  intro i
  have hl := flat_len Rv.cells 3 rvCells_len vs
  have hl2 := flat_len Rv.cells 3 rvCells_len (vs.set k v)
  rw [List.length_set] at hl2
  rcases Nat.lt_or_ge i (vs.length * 3) with hi | hi
  · have hq : i / 3 < vs.length := Nat.div_lt_of_lt_mul (by omega)
    have hr : i % 3 < 3 := Nat.mod_lt _ (by omega)
    have hd : i / 3 * 3 + i % 3 = i := by omega
    have h1 := fun u hj => flat_at Rv.cells 3 rvCells_len (vs.set k v) (i / 3) (by rw [List.length_set]; exact hq) (i % 3) u hj
    have h2 := fun u hj => flat_at Rv.cells 3 rvCells_len vs (i / 3) hq (i % 3) u hj
    rw [hd] at h1 h2
    by_cases hk2 : i / 3 = k
    · subst hk2
      have hv : (vs.set (i / 3) v)[i / 3]'(by rw [List.length_set]; exact hq) = v := by simp
      have h3 := fun u hj => h1 u (by rw [hv]; exact hj)
      have hc : i % 3 = 0 ∨ i % 3 = 1 ∨ i % 3 = 2 := by omega
      rcases hc with hc | hc | hc
      · rw [h3 (.bool v.s) (by rw [hc]; rfl), List.getElem?_set_ne (by omega), List.getElem?_set_ne (by omega), show i / 3 * 3 = i by omega, List.getElem?_set_self (by omega)]
      · rw [h3 (.slice v.a v.l v.c) (by rw [hc]; rfl), List.getElem?_set_ne (by omega), show i / 3 * 3 + 1 = i by omega, List.getElem?_set_self (by simp only [List.length_set]; omega)]
      · rw [h3 (.slice v.b v.m v.d) (by rw [hc]; rfl), show i / 3 * 3 + 2 = i by omega, List.getElem?_set_self (by simp only [List.length_set]; omega)]
    · rw [List.getElem?_set_ne (by omega), List.getElem?_set_ne (by omega), List.getElem?_set_ne (by omega)]
      have hv : (vs.set k v)[i / 3]'(by rw [List.length_set]; exact hq) = vs[i / 3] := List.getElem_set_ne (fun e => hk2 e.symm) _
      have hj : (vs[i / 3].cells)[i % 3]? = some (vs[i / 3].cells[i % 3]'(by rw [rvCells_len]; exact hr)) := List.getElem?_eq_getElem _
      rw [h1 _ (by rw [hv]; exact hj), h2 _ hj]
  · rw [List.getElem?_eq_none (by omega), List.getElem?_eq_none (by simp only [List.length_set]; omega)]
structure LayS (w : World) (g1 g2 : Nat) (vs : List Rv) (seen : List Bool) (W : World) : Prop where
  b1 : W.heap[g1]? = some (.cells (vs.flatMap Rv.cells).toArray 51 (0, 0))
  b2 : W.heap[g2]? = some (.cells (seen.flatMap boolC).toArray 4 (0, 0))
  n1 : w.heap.size ≤ g1
  n2 : w.heap.size ≤ g2
  ne : g1 ≠ g2
  bel : Below w.heap.size w W
section
variable {w W W' : World} {g1 g2 : Nat} {vs : List Rv} {seen : List Bool}
theorem LayS.call (h : LayS w g1 g2 vs seen W) (hb : Below W.heap.size W W') : LayS w g1 g2 vs seen W' :=
  ⟨(hb.block _ (lt_of_block h.b1)).trans h.b1, (hb.block _ (lt_of_block h.b2)).trans h.b2, h.n1, h.n2, h.ne, bthen h.bel hb⟩
theorem LayS.drew (h : LayS w g1 g2 vs seen W) : LayS w g1 g2 vs seen W.drew := h.call (Below.drawn W 1)
theorem LayS.vcell (h : LayS w g1 g2 vs seen W) {k : Nat} (hk : k < vs.length) : W.cell? ⟨g1, k * 3, none⟩ = some (.bool vs[k].s) ∧ W.cell? ⟨g1, k * 3 + 1, none⟩ = some (.slice vs[k].a vs[k].l vs[k].c) ∧ W.cell? ⟨g1, k * 3 + 2, none⟩ = some (.slice vs[k].b vs[k].m vs[k].d) := by
  have hc := fun j u hj => cell_of_block (j := k * 3 + j) h.b1 (by have := flat_at Rv.cells 3 rvCells_len vs k hk j u hj; simpa using this)
  exact ⟨hc 0 _ rfl, hc 1 _ rfl, hc 2 _ rfl⟩
theorem LayS.scell (h : LayS w g1 g2 vs seen W) {k : Nat} (hk : k < seen.length) : W.cell? ⟨g2, k, none⟩ = some (.bool seen[k]) := by
  have := flat_at boolC 1 (fun _ => rfl) seen k hk 0 _ rfl
  rw [Nat.mul_one, Nat.add_zero] at this
  exact cell_of_block h.b2 (by simpa using this)
theorem LayS.free1 (h : LayS w g1 g2 vs seen W) (j : Nat) : W.frozen? ⟨g1, j, none⟩ = false := free_of_block h.b1
theorem LayS.free2 (h : LayS w g1 g2 vs seen W) (j : Nat) : W.frozen? ⟨g2, j, none⟩ = false := free_of_block h.b2
theorem LayS.set (h : LayS w g1 g2 vs seen W) {k : Nat} (hk : k < vs.length) (hs : k < seen.length) (v : Rv) :
    LayS w g1 g2 (vs.set k v) (seen.set k true) ((((W.setCell ⟨g1, k * 3, none⟩ (.bool v.s)).setCell ⟨g1, k * 3 + 1, none⟩ (.slice v.a v.l v.c)).setCell ⟨g1, k * 3 + 2, none⟩ (.slice v.b v.m v.d)).setCell ⟨g2, k, none⟩ (.bool true)) := by
  have a1 := heap_setCell_same W g1 (k * 3) _ _ (.bool v.s) h.b1
  have a2 := heap_setCell_same _ g1 (k * 3 + 1) _ _ (.slice v.a v.l v.c) a1
  have a3 := heap_setCell_same _ g1 (k * 3 + 2) _ _ (.slice v.b v.m v.d) a2
  have hs2 : (((W.setCell ⟨g1, k * 3, none⟩ (.bool v.s)).setCell ⟨g1, k * 3 + 1, none⟩ (.slice v.a v.l v.c)).setCell ⟨g1, k * 3 + 2, none⟩ (.slice v.b v.m v.d)).heap[g2]? = some (.cells (seen.flatMap boolC).toArray 4 (0, 0)) := by
    rw [Below.heap_setCell _ _ _ _ (fun e => h.ne e.symm), Below.heap_setCell _ _ _ _ (fun e => h.ne e.symm), Below.heap_setCell _ _ _ _ (fun e => h.ne e.symm)]
    exact h.b2
  have a4 := heap_setCell_same _ g2 k _ _ (.bool true) hs2
  refine ⟨?_, ?_, h.n1, h.n2, h.ne, (((h.bel.setCell h.n1 _).setCell h.n1 _).setCell h.n1 _).setCell h.n2 _⟩
  · rw [Below.heap_setCell _ _ _ _ h.ne, a3]
    have e : (vs.set k v).flatMap Rv.cells = (((vs.flatMap Rv.cells).set (k * 3) (.bool v.s)).set (k * 3 + 1) (.slice v.a v.l v.c)).set (k * 3 + 2) (.slice v.b v.m v.d) := flat_set3 vs k hk v
    rw [e]
    simp
  · rw [a4]
    have e := flat_set boolC 1 (fun _ => rfl) seen k hs true 0 (by omega) (.bool true) rfl
    rw [Nat.mul_one, Nat.add_zero] at e
    rw [e]
    simp
end
def layF (f : Int → Int) (none : Int) : List Cl → List Rv → List Bool → Except (Int × Int) (List Rv)
  | [], vs, _ => .ok vs
  | e :: r, vs, seen => if f e.id < 0 then .error (none, e.id) else if seen.getD (f e.id).toNat false then .error (1, e.id) else layF f none r (vs.set (f e.id).toNat e.cost) (seen.set (f e.id).toNat true)
end Go.Proofs.YtaehklhbokocbaaGreatDoor
namespace Go.Proofs.YtaehklhbokocbaaGreatDoor
open Go.RowKit Go.Extern.Stop Go.Stop Go.Extern
def LayR (w : World) (n : Nat) (what : ByteArray) (r : Except (Int × Int) (List Rv)) (e : Ending) (w' : World) : Prop :=
  match r with
  | .ok vs => ∃ a c, e = .returned (.tuple #[.slice a n c, .nilIface]) ∧ Mid w' w.heap.size 51 3 (.slice a n c) n (vs.flatMap Rv.cells) ∧ Below w.heap.size w w'
  | .error (en, id) => ∃ b, e = .returned (.tuple #[.slice none 0 0, eF b]) ∧ IsF w' b what id en ∧ Below w.heap.size w w' ∧ w.heap.size ≤ b
theorem layR_ok {w : World} {n : Nat} {what : ByteArray} {vs : List Rv} {a : Option Addr} {c : Nat} {w' : World} {e : Ending} (he : e = .returned (.tuple #[.slice a n c, .nilIface])) (hm : Mid w' w.heap.size 51 3 (.slice a n c) n (vs.flatMap Rv.cells)) (hb : Below w.heap.size w w') : LayR w n what (.ok vs) e w' := ⟨a, c, he, hm, hb⟩
theorem layR_err {w : World} {n : Nat} {what : ByteArray} {en id : Int} {b : Nat} {w' : World} {e : Ending} (he : e = .returned (.tuple #[.slice none 0 0, eF b])) (hm : IsF w' b what id en) (hb : Below w.heap.size w w') (hn : w.heap.size ≤ b) : LayR w n what (.error (en, id)) e w' := ⟨b, he, hm, hb, hn⟩
theorem LayS.begin {w W : World} {g1 g2 n : Nat} (h1 : W.heap[g1]? = some (.cells (zeroV n) 51 (0, 0))) (h2 : W.heap[g2]? = some (.cells (zeroB n) 4 (0, 0))) (n1 : w.heap.size ≤ g1) (n2 : w.heap.size ≤ g2) (ne : g1 ≠ g2) (hb : Below w.heap.size w W) : LayS w g1 g2 (List.replicate n Rv.zero) (List.replicate n false) W :=
  ⟨h1, h2, n1, n2, ne, hb⟩
theorem LayS.mid {w W : World} {g1 g2 n : Nat} {vs : List Rv} {seen : List Bool} (h : LayS w g1 g2 vs seen W) (hn : vs.length = n) (hm : n ≤ maxLen) : Mid W w.heap.size 51 3 (.slice (some ⟨g1, 0, none⟩) n n) n (vs.flatMap Rv.cells) := by
  have hl := flat_len Rv.cells 3 rvCells_len vs
  rw [hn] at hl
  refine ⟨hl, .inr ⟨g1, 0, n, _, rfl, h.n1, h.b1, Nat.le_refl _, hm, ?_, ?_⟩⟩
  · show 0 + n * 3 ≤ (vs.flatMap Rv.cells).toArray.size
    rw [List.size_toArray, hl]; omega
  · show ((vs.flatMap Rv.cells).drop 0).take (n * 3) = vs.flatMap Rv.cells
    rw [List.drop_zero, ← hl, List.take_length]
theorem heap2 (w : World) (o1 o2 : Obj) : ((w.alloc o1).alloc o2).heap[w.heap.size]? = some o1 ∧ ((w.alloc o1).alloc o2).heap[w.heap.size + 1]? = some o2 := by
  have h1 := heap_alloc_new w o1
  have h2 := heap_alloc_new (w.alloc o1) o2
  rw [World.size_alloc] at h2
  exact ⟨(Below.heap_alloc _ _ _ (by simp)).trans h1, h2⟩
theorem Tryz.enterAt_col : ∀ args w, (callFunc 51 args).run Tryz.prog w = .ok (.enter 51 args) w := enters_of Tryz.func51 (by kernel_rfl) rfl
set_option maxRecDepth 100000 in
set_option maxHeartbeats 8000000 in
theorem lay_col (sb n : Nat) (es : List Cl) (ea : Option Addr) (ec : Nat) (f : Int → Int) (en : Int) (what : ByteArray) (w : World) (he : Sl w 4 (.slice ea es.length ec) es.length (es.flatMap colCells)) (hn : n ≤ 4096)
    (hat : ∀ (W : World) (id : Int), Below w.heap.size w W → Calls Tryz.prog 51 #[.pointer (some ⟨sb, 0, none⟩), .int .i64 id] W fun e w' => e = .returned (.int .i64 (f id)) ∧ Below W.heap.size W w') (hf : ∀ id, f id < (n : Int)) :
    Calls Tryz.prog 50 #[.int .i64 n, .slice ea es.length ec, .func (.func 51) #[.pointer (some ⟨sb, 0, none⟩)] #[], .int .i64 en, .string what] w (LayR w n what (layF f en es (List.replicate n Rv.zero) (List.replicate n false))) := by
  obtain ⟨R, hR⟩ : ∃ R, layF f en es (List.replicate n Rv.zero) (List.replicate n false) = R := ⟨_, rfl⟩
  rw [hR]
  have eg := Tryz.enterAt_col
  have hmv := make_vec n (by omega)
  have hmb := make_bools n (by omega)
  have hlen := he.lenI
  have HE := Lib.hid he
  have HAT := Lib.hid hat
  have HF := Lib.hid hf
  have HR := Lib.hid hR
  clear he hat hf hR
  go_enter Tryz.func50, Tryz.ntmps50
  go_upto_region 1 with fail
  go_cut [12, 13] (fun v12 v13 wx => ∃ g1 g2 : Nat, v12 = .slice (some ⟨g1, 0, none⟩) n n ∧ v13 = .slice (some ⟨g2, 0, none⟩) n n ∧ LayS w g1 g2 (List.replicate n Rv.zero) (List.replicate n false) wx)
  case first =>
    go_region
    all_goals
      go_wp2_with fail
      go_meet
      first
        | exact ⟨_, _, rfl, rfl, LayS.begin (heap2 _ _ _).1 (heap2 _ _ _).2 (Nat.le_refl _) (by simp) (by simp) (belowBox2 _ _ _)⟩
        | exact ⟨_, _, rfl, rfl, LayS.begin (heap2 _ _ _).2 (heap2 _ _ _).1 (by simp) (Nat.le_refl _) (by simp) (belowBox2 _ _ _)⟩
        | exact ⟨_, _, rfl, rfl, (LayS.begin (heap2 _ _ _).1 (heap2 _ _ _).2 (Nat.le_refl _) (by simp) (by simp) (belowBox2 _ _ _)).drew⟩
        | exact ⟨_, _, rfl, rfl, (LayS.begin (heap2 _ _ _).2 (heap2 _ _ _).1 (by simp) (Nat.le_refl _) (by simp) (belowBox2 _ _ _)).drew⟩
  case rest =>
    obtain ⟨w1, rfl⟩ : ∃ w1 : World, w1 = wc := ⟨_, rfl⟩
    obtain ⟨g1, g2, rfl, rfl, hls⟩ := hcut
    have HLS := Lib.hid hls
    clear hls hmv hmb
    go_wp2_with fail
    go_loopw [23] (fun iv wr => ∃ (k : Nat) (vs : List Rv) (seen : List Bool), k ≤ es.length ∧ iv = .int .i64 k ∧ LayS w g1 g2 vs seen wr ∧ vs.length = n ∧ seen.length = n ∧ layF f en (es.drop k) vs seen = R) (fun iv _ => es.length - (intOf iv).toNat)
    case atStart => exact ⟨0, _, _, Nat.zero_le _, rfl, HLS.out, by simp, by simp, HR.out⟩
    case round =>
      obtain ⟨k, vs, seen, hk, rfl, hls, hvl, hsl, hly⟩ := hrel
      by_cases hlt : k < es.length
      · obtain ⟨b, o, e1, _, k0, k1, k2, k3⟩ := col_get HE.out k hlt
        rw [List.drop_eq_getElem_cons hlt] at hly
        have hbw := hls.bel
        obtain ⟨hcell, _⟩ := bcell hbw
        have hblt := World.block_lt_of_cell? _ _ k0
        have k0 := (hcell _ _ hblt).trans k0
        have k1 := (hcell _ _ hblt).trans k1
        have k2 := (hcell _ _ hblt).trans k2
        have k3 := (hcell _ _ hblt).trans k3
        generalize es[k] = E at k0 k1 k2 k3 hly
        obtain ⟨id, v⟩ := E
        simp only at k0 k1 k2 k3
        subst e1
        unfold layF at hly
        simp only at hly
        have hlb := hls.call (belowBox wr (.cells #[.int .i64 id, .bool v.s, .slice v.a v.l v.c, .slice v.b v.m v.d] 87))
        have HA := Lib.hid (HAT.out _ id hlb.bel)
        have hfi := HF.out id
        obtain ⟨kk, hkk⟩ : ∃ kk, f id = kk := ⟨_, rfl⟩
        rw [hkk] at HA hfi hly
        have HLB := Lib.hid hlb
        have i0 : (0 : Int) ≤ (k : Int) := by omega
        have i1 : (k : Int) < (es.length : Int) := by omega
        by_cases hneg : kk < 0
        · rw [if_pos hneg] at hly
          have HLY := Lib.hid hly
          clear hls hlb hbw hcell hkk hfi hly hvl hsl
          go_wp2_with (go_at_fn 51; refine HA.out.mono ?_; rintro e w2 ⟨rfl, hb2⟩; have m0 : w2.cell? ⟨wr.heap.size, 0, none⟩ = some (.int .i64 id) := ((bcell hb2).1 _ _ (by simp)).trans (by simp); have HL2 := Lib.hid (HLB.out.call hb2); clear hb2)
          refine (wrap_E en what id _).mono ?_
          rintro e w3 ⟨rfl, hfw, rfl⟩
          have HFW := Lib.hid hfw
          clear hfw
          go_wp2_with fail
          go_ret2
          rw [← HLY.out]
          exact layR_err rfl HFW.out (bthen HL2.out.bel (belowBox _ _)) HL2.out.bel.size
        · obtain ⟨kn, rfl⟩ : ∃ kn : Nat, kk = kn := ⟨kk.toNat, by omega⟩
          rw [if_neg hneg, Int.toNat_natCast] at hly
          have hks : kn < seen.length := by omega
          have hkv : kn < vs.length := by omega
          rw [List.getD_eq_getElem?_getD, List.getElem?_eq_getElem hks, Option.getD_some] at hly
          have j0 : (0 : Int) ≤ (kn : Int) := by omega
          have j1 : (kn : Int) < (n : Int) := by omega
          obtain ⟨sv, hsv⟩ : ∃ sv, seen[kn] = sv := ⟨_, rfl⟩
          rw [hsv] at hly
          have HVC := Lib.hid (fun (W : World) (h : LayS w g1 g2 vs seen W) => h.vcell hkv)
          have HSC := Lib.hid (fun (W : World) (h : LayS w g1 g2 vs seen W) => hsv ▸ h.scell hks)
          have HSET := Lib.hid (fun (W : World) (h : LayS w g1 g2 vs seen W) => h.set hkv hks v)
          have HVL := Lib.hid hvl
          have HSL := Lib.hid hsl
          cases sv with
          | true =>
            rw [if_pos rfl] at hly
            have HLY := Lib.hid hly
            clear hls hlb hbw hcell hkk hfi hly hvl hsl hsv
            go_wp2_with (go_at_fn 51; refine HA.out.mono ?_; rintro e w2 ⟨rfl, hb2⟩; have hL2 := HLB.out.call hb2; have m0 : w2.cell? ⟨wr.heap.size, 0, none⟩ = some (.int .i64 id) := ((bcell hb2).1 _ _ (by simp)).trans (by simp); have q0 := HSC.out _ hL2; have HL2 := Lib.hid hL2; clear hL2 hb2)
            refine (wrap_E 1 what id _).mono ?_
            rintro e w3 ⟨rfl, hfw, rfl⟩
            have HFW := Lib.hid hfw
            clear hfw
            go_wp2_with fail
            go_ret2
            rw [← HLY.out]
            exact layR_err rfl HFW.out (bthen HL2.out.bel (belowBox _ _)) HL2.out.bel.size
          | false =>
            rw [if_neg (by simp)] at hly
            have HLY := Lib.hid hly
            clear hls hlb hbw hcell hkk hfi hly hvl hsl hsv
            go_wp2_with (go_at_fn 51; refine HA.out.mono ?_; rintro e w2 ⟨rfl, hb2⟩; have hL2 := HLB.out.call hb2; obtain ⟨hc2, _⟩ := bcell hb2; have m1 : w2.cell? ⟨wr.heap.size, 1, none⟩ = some (.bool v.s) := (hc2 _ _ (by simp)).trans (by simp); have m2 : w2.cell? ⟨wr.heap.size, 2, none⟩ = some (.slice v.a v.l v.c) := (hc2 _ _ (by simp)).trans (by simp); have m3 : w2.cell? ⟨wr.heap.size, 3, none⟩ = some (.slice v.b v.m v.d) := (hc2 _ _ (by simp)).trans (by simp); have q0 := HSC.out _ hL2; obtain ⟨p0, p1, p2⟩ := HVC.out _ hL2; have f0 := hL2.free1 (kn * 3); have f1 := hL2.free1 (kn * 3 + 1); have f2 := hL2.free1 (kn * 3 + 2); have f3 := hL2.free2 kn; have hne := hL2.ne; have HL2 := Lib.hid hL2; clear hL2 hb2 hc2)
            go_roundw
            case rel => exact ⟨k + 1, _, _, by omega, by go_num, HSET.out _ HL2.out, by rw [List.length_set]; exact HVL.out, by rw [List.length_set]; exact HSL.out, HLY.out⟩
            case measure => simp [intOf]; omega
      · obtain rfl : k = es.length := by omega
        rw [List.drop_length] at hly
        unfold layF at hly
        have HLY := Lib.hid hly
        have HM := Lib.hid (hls.mid hvl (by unfold maxLen; omega))
        have HB := Lib.hid hls.bel
        clear hls hly hvl hsl
        go_wp2_with fail
        go_ret2
        rw [← HLY.out]
        exact layR_ok rfl HM.out HB.out
theorem Tryz.enterAt_row : ∀ args w, (callFunc 53 args).run Tryz.prog w = .ok (.enter 53 args) w := enters_of Tryz.func53 (by kernel_rfl) rfl
set_option maxRecDepth 100000 in
set_option maxHeartbeats 8000000 in
theorem lay_row (sb n : Nat) (es : List Cl) (ea : Option Addr) (ec : Nat) (f : Int → Int) (en : Int) (what : ByteArray) (w : World) (he : Sl w 4 (.slice ea es.length ec) es.length (es.flatMap colCells)) (hn : n ≤ 4096)
    (hat : ∀ (W : World) (id : Int), Below w.heap.size w W → Calls Tryz.prog 53 #[.pointer (some ⟨sb, 0, none⟩), .int .i64 id] W fun e w' => e = .returned (.int .i64 (f id)) ∧ Below W.heap.size W w') (hf : ∀ id, f id < (n : Int)) :
    Calls Tryz.prog 50 #[.int .i64 n, .slice ea es.length ec, .func (.func 53) #[.pointer (some ⟨sb, 0, none⟩)] #[], .int .i64 en, .string what] w (LayR w n what (layF f en es (List.replicate n Rv.zero) (List.replicate n false))) := by
  obtain ⟨R, hR⟩ : ∃ R, layF f en es (List.replicate n Rv.zero) (List.replicate n false) = R := ⟨_, rfl⟩
  rw [hR]
  have eg := Tryz.enterAt_row
  have hmv := make_vec n (by omega)
  have hmb := make_bools n (by omega)
  have hlen := he.lenI
  have HE := Lib.hid he
  have HAT := Lib.hid hat
  have HF := Lib.hid hf
  have HR := Lib.hid hR
  clear he hat hf hR
  go_enter Tryz.func50, Tryz.ntmps50
  go_upto_region 1 with fail
  go_cut [12, 13] (fun v12 v13 wx => ∃ g1 g2 : Nat, v12 = .slice (some ⟨g1, 0, none⟩) n n ∧ v13 = .slice (some ⟨g2, 0, none⟩) n n ∧ LayS w g1 g2 (List.replicate n Rv.zero) (List.replicate n false) wx)
  case first =>
    go_region
    all_goals
      go_wp2_with fail
      go_meet
      first
        | exact ⟨_, _, rfl, rfl, LayS.begin (heap2 _ _ _).1 (heap2 _ _ _).2 (Nat.le_refl _) (by simp) (by simp) (belowBox2 _ _ _)⟩
        | exact ⟨_, _, rfl, rfl, LayS.begin (heap2 _ _ _).2 (heap2 _ _ _).1 (by simp) (Nat.le_refl _) (by simp) (belowBox2 _ _ _)⟩
        | exact ⟨_, _, rfl, rfl, (LayS.begin (heap2 _ _ _).1 (heap2 _ _ _).2 (Nat.le_refl _) (by simp) (by simp) (belowBox2 _ _ _)).drew⟩
        | exact ⟨_, _, rfl, rfl, (LayS.begin (heap2 _ _ _).2 (heap2 _ _ _).1 (by simp) (Nat.le_refl _) (by simp) (belowBox2 _ _ _)).drew⟩
  case rest =>
    obtain ⟨w1, rfl⟩ : ∃ w1 : World, w1 = wc := ⟨_, rfl⟩
    obtain ⟨g1, g2, rfl, rfl, hls⟩ := hcut
    have HLS := Lib.hid hls
    clear hls hmv hmb
    go_wp2_with fail
    go_loopw [23] (fun iv wr => ∃ (k : Nat) (vs : List Rv) (seen : List Bool), k ≤ es.length ∧ iv = .int .i64 k ∧ LayS w g1 g2 vs seen wr ∧ vs.length = n ∧ seen.length = n ∧ layF f en (es.drop k) vs seen = R) (fun iv _ => es.length - (intOf iv).toNat)
    case atStart => exact ⟨0, _, _, Nat.zero_le _, rfl, HLS.out, by simp, by simp, HR.out⟩
    case round =>
      obtain ⟨k, vs, seen, hk, rfl, hls, hvl, hsl, hly⟩ := hrel
      by_cases hlt : k < es.length
      · obtain ⟨b, o, e1, _, k0, k1, k2, k3⟩ := col_get HE.out k hlt
        rw [List.drop_eq_getElem_cons hlt] at hly
        have hbw := hls.bel
        obtain ⟨hcell, _⟩ := bcell hbw
        have hblt := World.block_lt_of_cell? _ _ k0
        have k0 := (hcell _ _ hblt).trans k0
        have k1 := (hcell _ _ hblt).trans k1
        have k2 := (hcell _ _ hblt).trans k2
        have k3 := (hcell _ _ hblt).trans k3
        generalize es[k] = E at k0 k1 k2 k3 hly
        obtain ⟨id, v⟩ := E
        simp only at k0 k1 k2 k3
        subst e1
        unfold layF at hly
        simp only at hly
        have hlb := hls.call (belowBox wr (.cells #[.int .i64 id, .bool v.s, .slice v.a v.l v.c, .slice v.b v.m v.d] 87))
        have HA := Lib.hid (HAT.out _ id hlb.bel)
        have hfi := HF.out id
        obtain ⟨kk, hkk⟩ : ∃ kk, f id = kk := ⟨_, rfl⟩
        rw [hkk] at HA hfi hly
        have HLB := Lib.hid hlb
        have i0 : (0 : Int) ≤ (k : Int) := by omega
        have i1 : (k : Int) < (es.length : Int) := by omega
        by_cases hneg : kk < 0
        · rw [if_pos hneg] at hly
          have HLY := Lib.hid hly
          clear hls hlb hbw hcell hkk hfi hly hvl hsl
          go_wp2_with (go_at_fn 53; refine HA.out.mono ?_; rintro e w2 ⟨rfl, hb2⟩; have m0 : w2.cell? ⟨wr.heap.size, 0, none⟩ = some (.int .i64 id) := ((bcell hb2).1 _ _ (by simp)).trans (by simp); have HL2 := Lib.hid (HLB.out.call hb2); clear hb2)
          refine (wrap_E en what id _).mono ?_
          rintro e w3 ⟨rfl, hfw, rfl⟩
          have HFW := Lib.hid hfw
          clear hfw
          go_wp2_with fail
          go_ret2
          rw [← HLY.out]
          exact layR_err rfl HFW.out (bthen HL2.out.bel (belowBox _ _)) HL2.out.bel.size
        · obtain ⟨kn, rfl⟩ : ∃ kn : Nat, kk = kn := ⟨kk.toNat, by omega⟩
          rw [if_neg hneg, Int.toNat_natCast] at hly
          have hks : kn < seen.length := by omega
          have hkv : kn < vs.length := by omega
          rw [List.getD_eq_getElem?_getD, List.getElem?_eq_getElem hks, Option.getD_some] at hly
          have j0 : (0 : Int) ≤ (kn : Int) := by omega
          have j1 : (kn : Int) < (n : Int) := by omega
          obtain ⟨sv, hsv⟩ : ∃ sv, seen[kn] = sv := ⟨_, rfl⟩
          rw [hsv] at hly
          have HVC := Lib.hid (fun (W : World) (h : LayS w g1 g2 vs seen W) => h.vcell hkv)
          have HSC := Lib.hid (fun (W : World) (h : LayS w g1 g2 vs seen W) => hsv ▸ h.scell hks)
          have HSET := Lib.hid (fun (W : World) (h : LayS w g1 g2 vs seen W) => h.set hkv hks v)
          have HVL := Lib.hid hvl
          have HSL := Lib.hid hsl
          cases sv with
          | true =>
            rw [if_pos rfl] at hly
            have HLY := Lib.hid hly
            clear hls hlb hbw hcell hkk hfi hly hvl hsl hsv
            go_wp2_with (go_at_fn 53; refine HA.out.mono ?_; rintro e w2 ⟨rfl, hb2⟩; have hL2 := HLB.out.call hb2; have m0 : w2.cell? ⟨wr.heap.size, 0, none⟩ = some (.int .i64 id) := ((bcell hb2).1 _ _ (by simp)).trans (by simp); have q0 := HSC.out _ hL2; have HL2 := Lib.hid hL2; clear hL2 hb2)
            refine (wrap_E 1 what id _).mono ?_
            rintro e w3 ⟨rfl, hfw, rfl⟩
            have HFW := Lib.hid hfw
            clear hfw
            go_wp2_with fail
            go_ret2
            rw [← HLY.out]
            exact layR_err rfl HFW.out (bthen HL2.out.bel (belowBox _ _)) HL2.out.bel.size
          | false =>
            rw [if_neg (by simp)] at hly
            have HLY := Lib.hid hly
            clear hls hlb hbw hcell hkk hfi hly hvl hsl hsv
            go_wp2_with (go_at_fn 53; refine HA.out.mono ?_; rintro e w2 ⟨rfl, hb2⟩; have hL2 := HLB.out.call hb2; obtain ⟨hc2, _⟩ := bcell hb2; have m1 : w2.cell? ⟨wr.heap.size, 1, none⟩ = some (.bool v.s) := (hc2 _ _ (by simp)).trans (by simp); have m2 : w2.cell? ⟨wr.heap.size, 2, none⟩ = some (.slice v.a v.l v.c) := (hc2 _ _ (by simp)).trans (by simp); have m3 : w2.cell? ⟨wr.heap.size, 3, none⟩ = some (.slice v.b v.m v.d) := (hc2 _ _ (by simp)).trans (by simp); have q0 := HSC.out _ hL2; obtain ⟨p0, p1, p2⟩ := HVC.out _ hL2; have f0 := hL2.free1 (kn * 3); have f1 := hL2.free1 (kn * 3 + 1); have f2 := hL2.free1 (kn * 3 + 2); have f3 := hL2.free2 kn; have hne := hL2.ne; have HL2 := Lib.hid hL2; clear hL2 hb2 hc2)
            go_roundw
            case rel => exact ⟨k + 1, _, _, by omega, by go_num, HSET.out _ HL2.out, by rw [List.length_set]; exact HVL.out, by rw [List.length_set]; exact HSL.out, HLY.out⟩
            case measure => simp [intOf]; omega
      · obtain rfl : k = es.length := by omega
        rw [List.drop_length] at hly
        unfold layF at hly
        have HLY := Lib.hid hly
        have HM := Lib.hid (hls.mid hvl (by unfold maxLen; omega))
        have HB := Lib.hid hls.bel
        clear hls hly hvl hsl
        go_wp2_with fail
        go_ret2
        rw [← HLY.out]
        exact layR_ok rfl HM.out HB.out
end Go.Proofs.YtaehklhbokocbaaGreatDoor
namespace Go.Proofs.YtaehklhbokocbaaGreatDoor
open Go.RowKit Go.Extern.Stop Go.Stop Go.Extern
theorem Tryz.infoRow : (Tryz.prog.info? 111).map (fun i => (i.zero, i.size, i.bytes)) = some (some (.agg #[.int .i64 0, .int .i64 0, .bool false, .slice none 0 0, .slice none 0 0, .slice none 0 0]), 6, 96) := by kernel_rfl
def sColumn : ByteArray := ⟨#[99, 111, 108, 117, 109, 110]⟩
def sRow : ByteArray := ⟨#[114, 111, 119]⟩
theorem layF_len {f : Int → Int} {en : Int} : ∀ (es : List Cl) (vs : List Rv) (seen : List Bool) (r : List Rv), layF f en es vs seen = .ok r → r.length = vs.length
  | [], vs, seen, r, h => by unfold layF at h; cases h; rfl
  | e :: es, vs, seen, r, h => by
    unfold layF at h
    split at h
    · cases h
    · split at h
      · cases h
      · rw [layF_len es _ _ r h, List.length_set]
theorem layF_mem {f : Int → Int} {en : Int} : ∀ (es : List Cl) (vs : List Rv) (seen : List Bool) (r : List Rv), layF f en es vs seen = .ok r → ∀ v, v ∈ r → v ∈ vs ∨ ∃ e, e ∈ es ∧ v = e.cost
  | [], vs, seen, r, h => by unfold layF at h; cases h; exact fun v hv => .inl hv
  | e :: es, vs, seen, r, h => by
    unfold layF at h
    split at h
    · cases h
    · split at h
      · cases h
      · intro v hv
        rcases layF_mem es _ _ r h v hv with h1 | ⟨e2, h2, h3⟩
        · rcases List.mem_or_eq_of_mem_set h1 with h4 | h4
          · exact .inl h4
          · exact .inr ⟨e, by simp, h4⟩
        · exact .inr ⟨e2, by simp [h2], h3⟩
theorem colV_lt (cols : List Cl) (id : Int) : colV cols id < (cols.length : Int) := by
  unfold colV
  split <;> omega
theorem rowV_lt (rows : List Rw) (id : Int) : rowV rows id < (rows.length : Int) := by
  unfold rowV
  split <;> omega
set_option maxHeartbeats 2000000 in
theorem addRow_kind (sb : Nat) (kd : Int) (v : Rv) (ea : Option Addr) (n ec : Nat) (w : World) (hk : kd < 1 ∨ 3 < kd) :
    Calls Tryz.prog 15 #[.pointer (some ⟨sb, 0, none⟩), .int .i64 kd, .agg #[.bool v.s, .slice v.a v.l v.c, .slice v.b v.m v.d], .slice ea n ec] w fun e w' => e = .returned (.tuple #[.int .i64 0, eE 160]) ∧ Below w.heap.size w w' := by
  unfold eE
  rcases hk with hk | hk
  · go_enter Tryz.func15, Tryz.ntmps15
    go_wp2
    go_ret2
    exact ⟨rfl, belowBox _ _⟩
  · have hk2 : ¬ kd < 1 := by omega
    go_enter Tryz.func15, Tryz.ntmps15
    go_wp2
    go_ret2
    exact ⟨rfl, belowBox _ _⟩
set_option maxHeartbeats 2000000 in
theorem addRow_full (sb : Nat) (G : Nat → Prop) (rows : List Rw) (cols : List Cl) (lr lc : Int) (kd : Int) (v : Rv) (ea : Option Addr) (n ec : Nat) (w : World) (h : SS w sb G rows cols lr lc) (h1 : 1 ≤ kd) (h3 : kd ≤ 3) (hl : 20 ≤ rows.length) :
    Calls Tryz.prog 15 #[.pointer (some ⟨sb, 0, none⟩), .int .i64 kd, .agg #[.bool v.s, .slice v.a v.l v.c, .slice v.b v.m v.d], .slice ea n ec] w fun e w' => e = .returned (.tuple #[.int .i64 0, eE 2]) ∧ Below w.heap.size w w' := by
  unfold eE
  obtain ⟨ra, ca, rc, cc, r⟩ := (h.below (belowBox w (.cells #[.bool v.s, .slice v.a v.l v.c, .slice v.b v.m v.d] 51))).read
  have c0 := r.c0
  have hl2 : (20 : Int) ≤ (rows.length : Int) := by omega
  clear h r
  go_enter Tryz.func15, Tryz.ntmps15
  go_wp2
  go_ret2
  exact ⟨rfl, belowBox _ _⟩
def FaultR (w : World) (what : ByteArray) (en id : Int) (pre : Value → Ending) (e : Ending) (w' : World) : Prop := ∃ b, e = pre (eF b) ∧ IsF w' b what id en ∧ Below w.heap.size w w' ∧ w.heap.size ≤ b
set_option maxRecDepth 100000 in
set_option maxHeartbeats 4000000 in
theorem addRow_fault (sb : Nat) (G : Nat → Prop) (rows : List Rw) (cols : List Cl) (lr lc : Int) (kd : Int) (v : Rv) (es : List Cl) (ea : Option Addr) (ec : Nat) (w : World) (h : SS w sb G rows cols lr lc) (h1 : 1 ≤ kd) (h3 : kd ≤ 3) (hl : rows.length < 20) (hc : cols.length ≤ 4096)
    (he : Sl w 4 (.slice ea es.length ec) es.length (es.flatMap colCells)) (en id : Int) (hr : layF (colV cols) 231 es (List.replicate cols.length Rv.zero) (List.replicate cols.length false) = .error (en, id)) :
    Calls Tryz.prog 15 #[.pointer (some ⟨sb, 0, none⟩), .int .i64 kd, .agg #[.bool v.s, .slice v.a v.l v.c, .slice v.b v.m v.d], .slice ea es.length ec] w (FaultR w sColumn en id fun x => .returned (.tuple #[.int .i64 0, x])) := by
  have hb0 := belowBox w (.cells #[.bool v.s, .slice v.a v.l v.c, .slice v.b v.m v.d] 51)
  obtain ⟨ra, ca, rc, cc, r⟩ := (h.below hb0).read
  have c0 := r.c0
  have c1 := r.c1
  have hl2 : ¬ (20 : Int) ≤ (rows.length : Int) := by omega
  have HLAY := Lib.hid (hr ▸ lay_col sb cols.length es ea ec (colV cols) 231 sColumn _ (he.below hb0) hc (fun W id hb => colAt_any sb G rows cols lr lc id W ((h.below hb0).below hb)) (colV_lt cols))
  unfold sColumn at HLAY
  clear h r hr he hb0
  go_enter Tryz.func15, Tryz.ntmps15
  go_wp2_with fail
  refine HLAY.out.mono ?_
  rintro e w1 ⟨b, rfl, hi, hb1, hn1⟩
  have HN := Lib.hid hn1
  clear hn1
  have HI := Lib.hid hi
  have HB := Lib.hid hb1
  clear hi hb1
  unfold eF
  go_wp2
  go_ret2
  exact ⟨b, rfl, HI.out, bthen (belowBox _ _) HB.out, Nat.le_trans (belowBox w _).size HN.out⟩
theorem addRow_world {w w3 w4 : World} {sb : Nat} {G : Nat → Prop} {rows : List Rw} {cols : List Cl} {lr lc : Int} {ra ca a2 a4 : Option Addr} {rc cc c2 c4 n2 : Nat} {r : Rw} {cs : List Value} {ob : Obj} (hcv : coefP r = ⟨.slice a2 n2 c2, 51, 3, n2, cs⟩)
    (h : BoxA w sb 93 G [.slice ra rows.length rc, .slice ca cols.length cc, .int .i64 lr, .int .i64 lc] (sPs (.slice ra rows.length rc) (.slice ca cols.length cc) rows cols ++ [⟨.slice a2 n2 c2, 51, 3, n2, cs⟩]) w3)
    (hmo : Mid w4 0 111 6 (.slice a4 (rows.length + 1) c4) (rows.length + 1) (rows.flatMap rowCells ++ rowCells r)) (hgo : ((w3.alloc ob).drew).grownBy w4 (Value.slice ra rows.length rc).ownBlock)
    (hbo : (Value.slice a4 (rows.length + 1) c4).ownBlock = (Value.slice ra rows.length rc).ownBlock ∨ (Value.slice a4 (rows.length + 1) c4).ownBlock = some (w3.heap.size + 1)) :
    BoxA w sb 93 G [.slice a4 (rows ++ [r]).length c4, .slice ca cols.length cc, .int .i64 lr, .int .i64 lc] (sPs (.slice a4 (rows ++ [r]).length c4) (.slice ca cols.length cc) (rows ++ [r]) cols) (w4.setCell ⟨sb, 0, none⟩ (.slice a4 (rows ++ [r]).length c4)) := by
  have hln : (rows ++ [r]).length = rows.length + 1 := by simp
  have hk : Keeps w3 w4 (fun k => (Value.slice ra rows.length rc).ownBlock = some k) :=
    ((Keeps.alloc w3 ob (fun k => (Value.slice ra rows.length rc).ownBlock = some k)).trans (Keeps.drew _ (fun _ => False)) fun _ _ h => h.elim).trans (Keeps.of_grown hgo (S := fun k => (Value.slice ra rows.length rc).ownBlock = some k) fun b h => h) fun _ _ h => h
  rw [hln]
  refine h.trans fun G1 hq => ?_
  have hw := hq.write 0 (p := (⟨.slice ra rows.length rc, 111, 6, rows.length, rows.flatMap rowCells⟩ : Pc)) rfl (⟨.slice a4 (rows.length + 1) c4, 111, 6, rows.length + 1, rows.flatMap rowCells ++ rowCells r⟩ : Pc) hk hmo (fun k hk => by
    rcases hbo with e | e
    · exact .inl (e.symm.trans hk)
    · right
      have : (Value.slice a4 (rows.length + 1) c4).ownBlock = some k := hk
      rw [e] at this; cases this; omega)
  have hs := hw.trans fun G2 hq2 => hq2.head 0 (.slice a4 (rows.length + 1) c4)
  have e : (sPs (.slice ra rows.length rc) (.slice ca cols.length cc) rows cols ++ [(⟨.slice a2 n2 c2, 51, 3, n2, cs⟩ : Pc)]).set 0 (⟨.slice a4 (rows.length + 1) c4, 111, 6, rows.length + 1, rows.flatMap rowCells ++ rowCells r⟩ : Pc) = sPs (.slice a4 (rows.length + 1) c4) (.slice ca cols.length cc) (rows ++ [r]) cols := by
    simp [sPs, hcv]
  rw [e] at hs
  exact hs
theorem pc_mid {w : World} {base : Nat} {p : Pc} (h : Mid w base p.e p.size p.v p.n p.xs) : p.mid w := h.mono (Nat.zero_le _)
def AddedRow (w : World) (sb : Nat) (G : Nat → Prop) (rows : List Rw) (cols : List Cl) (lr lc : Int) (kd : Int) (v : Rv) (vs : List Rv) (w' : World) : Prop := ∃ cv, StA w sb G (rows ++ [⟨lr + 1, kd, v, cv, vs⟩]) cols (lr + 1) lc w'
set_option maxRecDepth 100000 in
set_option maxHeartbeats 16000000 in
theorem addRow_ok (sb : Nat) (G : Nat → Prop) (rows : List Rw) (cols : List Cl) (lr lc : Int) (kd : Int) (v : Rv) (es : List Cl) (ea : Option Addr) (ec : Nat) (w : World) (h : SS w sb G rows cols lr lc) (h1 : 1 ≤ kd) (h3 : kd ≤ 3) (hl : rows.length < 20) (hc : cols.length ≤ 4096) (hr0 : 0 ≤ lr) (hr1 : lr ≤ 4611686018427387904)
    (he : Sl w 4 (.slice ea es.length ec) es.length (es.flatMap colCells)) (hv : v.ok w) (hes : ∀ e, e ∈ es → e.cost.ok w) (vs : List Rv) (hr : layF (colV cols) 231 es (List.replicate cols.length Rv.zero) (List.replicate cols.length false) = .ok vs) :
    Calls Tryz.prog 15 #[.pointer (some ⟨sb, 0, none⟩), .int .i64 kd, .agg #[.bool v.s, .slice v.a v.l v.c, .slice v.b v.m v.d], .slice ea es.length ec] w fun e w' => e = .returned (.tuple #[.int .i64 (lr + 1), .nilIface]) ∧ AddedRow w sb G rows cols lr lc kd v vs w' := by
  have hb0 := belowBox w (.cells #[.bool v.s, .slice v.a v.l v.c, .slice v.b v.m v.d] 51)
  obtain ⟨ra, ca, rc, cc, hbox, hnw, hnums⟩ := id h
  have hq := (hbox.below hb0)
  have c0 := hq.cell 0 rfl
  have c1 := hq.cell 1 rfl
  have hl2 : ¬ (20 : Int) ≤ (rows.length : Int) := by omega
  obtain ⟨tr, hi, hz0, hz1, hz2⟩ := info_parts Tryz.infoRow
  have HLAY := Lib.hid (hr ▸ lay_col sb cols.length es ea ec (colV cols) 231 sColumn _ (he.below hb0) hc (fun W id hb => colAt_any sb G rows cols lr lc id W ((h.below hb0).below hb)) (colV_lt cols))
  unfold sColumn at HLAY
  have hvl : vs.length = cols.length := by rw [layF_len es _ _ vs hr]; simp
  have hvok : ∀ x, x ∈ vs → x.ok w := fun x hx => by
    rcases layF_mem es _ _ vs hr x hx with h1 | ⟨e, h2, rfl⟩
    · rw [(List.mem_replicate.1 h1).2]; exact Rv.zero_ok w
    · exact hes e h2
  have HBOX := Lib.hid hbox
  have HNW := Lib.hid hnw
  have HNUMS := Lib.hid hnums
  have HVL := Lib.hid hvl
  have HVOK := Lib.hid hvok
  have HV := Lib.hid hv
  have hlt := hbox.lt _ hbox.2.2.1
  clear h hq hr he hb0 hbox hnw hnums hvl hvok hv hes
  go_enter Tryz.func15, Tryz.ntmps15
  go_wp2_with fail
  refine HLAY.out.mono ?_
  rintro e w2 ⟨a2, c2, rfl, hm, hb1⟩
  have hbw := bthen (belowBox w (.cells #[.bool v.s, .slice v.a v.l v.c, .slice v.b v.m v.d] 51)) hb1
  have m0 : w2.cell? ⟨w.heap.size, 0, none⟩ = some (.bool v.s) := ((bcell hb1).1 _ _ (by simp)).trans (by simp)
  have m1 : w2.cell? ⟨w.heap.size, 1, none⟩ = some (.slice v.a v.l v.c) := ((bcell hb1).1 _ _ (by simp)).trans (by simp)
  have m2 : w2.cell? ⟨w.heap.size, 2, none⟩ = some (.slice v.b v.m v.d) := ((bcell hb1).1 _ _ (by simp)).trans (by simp)
  have g2 := (hbw.cell (p := ⟨sb, 2, none⟩) hlt).trans (HBOX.out.cell 2 rfl)
  have f2 := (hbw.frozen (p := ⟨sb, 2, none⟩) hlt).trans (HBOX.out.free 2)
  have hA1 := HBOX.out.push hbw ⟨.slice a2 cols.length c2, 51, 3, cols.length, vs.flatMap Rv.cells⟩ (pc_mid hm) (fun k hk => by have := (hm.lt k hk).1; simp at this; omega)
  have hA2 := hA1.trans fun G1 hq => Box.head hq 2 (.int .i64 (lr + 1))
  have hszw : w.heap.size < w2.heap.size := by have := hb1.size; simp at this; omega
  have HA2 := Lib.hid hA2
  clear hA1 hA2 hm hb1 c0 c1 HLAY
  go_upto_region 9 with fail
  have n0 : sb ≠ w.heap.size := by omega
  have r0 : (w2.setCell ⟨sb, 2, none⟩ (.int .i64 (lr + 1))).cell? ⟨w.heap.size, 0, none⟩ = some (.bool v.s) := by rw [World.cell?_setCell_far _ _ _ _ n0]; exact m0
  have r1 : (w2.setCell ⟨sb, 2, none⟩ (.int .i64 (lr + 1))).cell? ⟨w.heap.size, 1, none⟩ = some (.slice v.a v.l v.c) := by rw [World.cell?_setCell_far _ _ _ _ n0]; exact m1
  have r2 : (w2.setCell ⟨sb, 2, none⟩ (.int .i64 (lr + 1))).cell? ⟨w.heap.size, 2, none⟩ = some (.slice v.b v.m v.d) := by rw [World.cell?_setCell_far _ _ _ _ n0]; exact m2
  have hz3 : (w2.setCell ⟨sb, 2, none⟩ (.int .i64 (lr + 1))).heap.size = w2.heap.size := by simp
  clear m0 m1 m2 g2 f2 hbw
  generalize w2.setCell ⟨sb, 2, none⟩ (.int .i64 (lr + 1)) = w3 at HA2 r0 r1 r2 hz3 ⊢
  obtain ⟨G3, hq3, hs3, hk3⟩ := id HA2.out
  simp only [List.set_cons_zero, List.set_cons_succ] at hq3
  have c0 := hq3.cell 0 rfl
  have c2' := hq3.cell 2 rfl
  have f0 := hq3.free 0
  have hsl3 := lt_of_block hq3.1
  have hrm := hq3.mid 0 rfl
  have hfo := hq3.foot 0 rfl
  have HM0 := Lib.hid (show Mid ((w3.alloc (.cells #[.int .i64 (lr + 1), .int .i64 kd, .bool v.s, .slice v.a v.l v.c, .slice v.b v.m v.d, .slice a2 cols.length c2] 111)).drew) 0 111 6 (.slice ra rows.length rc) rows.length (rows.flatMap rowCells) from (hrm.alloc _).drew)
  have HS0 := Lib.hid (show Src Tryz.prog 6 90 (.slice (some ⟨w3.heap.size, 0, none⟩) 1 1) 1 [.int .i64 (lr + 1), .int .i64 kd, .bool v.s, .slice v.a v.l v.c, .slice v.b v.m v.d, .slice a2 cols.length c2] ((w3.alloc (.cells #[.int .i64 (lr + 1), .int .i64 kd, .bool v.s, .slice v.a v.l v.c, .slice v.b v.m v.d, .slice a2 cols.length c2] 111)).drew) from (show Sl ((w3.alloc (.cells #[.int .i64 (lr + 1), .int .i64 kd, .bool v.s, .slice v.a v.l v.c, .slice v.b v.m v.d, .slice a2 cols.length c2] 111)).drew) 6 _ 1 _ from Sl.lit w3 111 6 1 [.int .i64 (lr + 1), .int .i64 kd, .bool v.s, .slice v.a v.l v.c, .slice v.b v.m v.d, .slice a2 cols.length c2] (by unfold maxLen; omega) rfl).src (P := Tryz.prog) Tryz.underlying90 (fun u hu => by
    simp only [List.mem_cons, List.not_mem_nil, or_false] at hu
    rcases hu with rfl | rfl | rfl | rfl | rfl | rfl <;> rfl))
  have hbo : Below w3.heap.size w3 ((w3.alloc (.cells #[.int .i64 (lr + 1), .int .i64 kd, .bool v.s, .slice v.a v.l v.c, .slice v.b v.m v.d, .slice a2 cols.length c2] 111)).drew) := ((Below.refl _ _).alloc (Nat.le_refl _) _).drew
  have hkb : ∀ w4, ((w3.alloc (.cells #[.int .i64 (lr + 1), .int .i64 kd, .bool v.s, .slice v.a v.l v.c, .slice v.b v.m v.d, .slice a2 cols.length c2] 111)).drew).grownBy w4 (Value.slice ra rows.length rc).ownBlock → w4.heap[sb]? = w3.heap[sb]? := fun w4 hg => by
    refine (hg.block sb (by simp; omega) fun e => ?_).trans (hbo.block sb hsl3)
    exact (hfo sb e.symm).2 rfl
  have HK0 := Lib.hid (fun w4 hg => (World.cell?_of_block (a := ⟨sb, 0, none⟩) (hkb w4 hg)).trans c0)
  have HK1 := Lib.hid (fun w4 hg => (World.frozen?_of_block (a := ⟨sb, 0, none⟩) (hkb w4 hg)).trans f0)
  have hszb : w.heap.size < w3.heap.size := by omega
  have a0 : (w3.alloc (.cells #[.int .i64 (lr + 1), .int .i64 kd, .bool v.s, .slice v.a v.l v.c, .slice v.b v.m v.d, .slice a2 cols.length c2] 111)).cell? ⟨sb, 0, none⟩ = some (.slice ra rows.length rc) := (World.cell?_alloc_lt _ _ ⟨sb, 0, none⟩ hsl3).trans c0
  have a2' : (w3.alloc (.cells #[.int .i64 (lr + 1), .int .i64 kd, .bool v.s, .slice v.a v.l v.c, .slice v.b v.m v.d, .slice a2 cols.length c2] 111)).cell? ⟨sb, 2, none⟩ = some (.int .i64 (lr + 1)) := (World.cell?_alloc_lt _ _ ⟨sb, 2, none⟩ hsl3).trans c2'
  have HQ3 := Lib.hid hq3
  have HS3 := Lib.hid hs3
  have HK3 := Lib.hid hk3
  clear hq3 hs3 hk3 hrm hfo hbo hkb hszw hz3 n0
  have HCV := Lib.hid (show coefP ⟨lr + 1, kd, v, .slice a2 cols.length c2, vs⟩ = ⟨.slice a2 cols.length c2, 51, 3, cols.length, vs.flatMap Rv.cells⟩ by unfold coefP; rw [HVL.out])
  go_cut [] (fun wx => ∃ a4 c4, BoxA w sb 93 G [.slice a4 (rows ++ [(⟨lr + 1, kd, v, .slice a2 cols.length c2, vs⟩ : Rw)]).length c4, .slice ca cols.length cc, .int .i64 (lr + 1), .int .i64 lc] (sPs (.slice a4 (rows ++ [(⟨lr + 1, kd, v, .slice a2 cols.length c2, vs⟩ : Rw)]).length c4) (.slice ca cols.length cc) (rows ++ [(⟨lr + 1, kd, v, .slice a2 cols.length c2, vs⟩ : Rw)]) cols) wx)
  case first =>
    go_region_law ((refine step_append_mid (v := .slice ra rows.length rc) (by rfl) _ _ 90 90 (by rfl) tr (.agg #[.int .i64 0, .int .i64 0, .bool false, .slice none 0 0, .slice none 0 0, .slice none 0 0]) 96 Tryz.underlying90 hi hz0 hz1 hz2 rfl (by rfl) HM0.out _ (by rfl) 1 _ HS0.out (by unfold maxLen; omega) (by omega) (Nat.zero_le _) ?_; intro a4 c4 w4 hmo hgo hbo; have q4 := HK0.out w4 hgo; have q5 := HK1.out w4 hgo; have HMO := Lib.hid hmo; have HGO := Lib.hid hgo; have HBO := Lib.hid hbo; clear hmo hgo hbo))
    all_goals
      go_wp2_with fail
      go_meet
      refine ⟨a4, c4, ?_⟩
      have e := addRow_world HCV.out HA2.out HMO.out HGO.out (by simpa using HBO.out)
      rw [show (rows ++ [(⟨lr + 1, kd, v, .slice a2 cols.length c2, vs⟩ : Rw)]).length = rows.length + 1 by simp] at e ⊢
      exact e
  case rest =>
    obtain ⟨a4, c4, hbx⟩ := hcut
    have k2 : wc.cell? ⟨sb, 2, none⟩ = some (.int .i64 (lr + 1)) := by
      obtain ⟨_, hb, _⟩ := hbx
      exact hb.cell 2 rfl
    have HBX := Lib.hid hbx
    clear hbx
    go_wp2_with fail
    go_ret2
    refine ⟨rfl, .slice a2 cols.length c2, StA.of HBX.out HNW.out ⟨?_, ?_, HNUMS.out.cost⟩⟩
    · intro r hr
      rcases List.mem_append.1 hr with hr | hr
      · exact HNUMS.out.rhs r hr
      · rw [List.mem_singleton.1 hr]; exact HV.out
    · intro r hr
      rcases List.mem_append.1 hr with hr | hr
      · exact HNUMS.out.coef r hr
      · rw [List.mem_singleton.1 hr]; exact HVOK.out
end Go.Proofs.YtaehklhbokocbaaGreatDoor
namespace Go.Proofs.YtaehklhbokocbaaGreatDoor
open Go.RowKit Go.Extern.Stop Go.Stop Go.Extern
section
variable {w w1 : World} {mb : Nat} {T : TypeId} {G : Nat → Prop} {hs : List Value} {ps : List Pc}
theorem Box.elt (h : Box w mb T G hs ps) (i : Nat) {g o cap n size : Nat} {e : TypeId} {xs : List Value} (hp : ps[i]? = some ⟨.slice (some ⟨g, o, none⟩) n cap, e, size, n, xs⟩) (j : Nat) (u : Value) :
    BoxA w mb T G hs (ps.set i ⟨.slice (some ⟨g, o, none⟩) n cap, e, size, n, xs.set j u⟩) (w.setCell ⟨g, o + j, none⟩ u) := by
  have hm := h.mid i hp
  exact h.write i hp (⟨.slice (some ⟨g, o, none⟩) n cap, e, size, n, xs.set j u⟩ : Pc) (Keeps.setCell _ ⟨g, o + j, none⟩ u (S := fun k => (Value.slice (some ⟨g, o, none⟩) n cap).ownBlock = some k) rfl) ((show Mid w 0 e size (.slice (some ⟨g, o, none⟩) n cap) n xs from hm).stored j u) fun k hk => .inl hk
theorem set_at {α : Type} : ∀ (l : List α) (k : Nat) (x : α), l[k]? = some x → l.set k x = l
  | y :: r, 0, x, h => by simp at h; simp [h]
  | y :: r, k + 1, x, h => by simp only [List.set_cons_succ]; rw [set_at r k x (by simpa using h)]
end
section
variable {w : World} {sb : Nat} {G : Nat → Prop} {rows : List Rw} {cols : List Cl} {lr lc : Int} {b o rc cc : Nat} {ra ca : Option Addr}
theorem row_elt (h : Box w sb 93 G [.slice (some ⟨b, o, none⟩) rows.length rc, .slice ca cols.length cc, .int .i64 lr, .int .i64 lc] (sPs (.slice (some ⟨b, o, none⟩) rows.length rc) (.slice ca cols.length cc) rows cols)) (k : Nat) {r : Rw} (hk : rows[k]? = some r) (j : Nat) (hj : j < 6) (u : Value) (r' : Rw) (hx : rowCells r' = (rowCells r).set j u) (hc : coefP r' = coefP r) :
    BoxA w sb 93 G [.slice (some ⟨b, o, none⟩) (rows.set k r').length rc, .slice ca cols.length cc, .int .i64 lr, .int .i64 lc] (sPs (.slice (some ⟨b, o, none⟩) (rows.set k r').length rc) (.slice ca cols.length cc) (rows.set k r') cols) (w.setCell ⟨b, o + k * 6 + j, none⟩ u) := by
  obtain ⟨hkl, rfl⟩ := List.getElem?_eq_some_iff.1 hk
  have hs := h.elt 0 (g := b) (o := o) (cap := rc) (n := rows.length) (size := 6) (e := 111) (xs := rows.flatMap rowCells) rfl (k * 6 + j) u
  rw [← Nat.add_assoc] at hs
  have e : (sPs (.slice (some ⟨b, o, none⟩) rows.length rc) (.slice ca cols.length cc) rows cols).set 0 ⟨.slice (some ⟨b, o, none⟩) rows.length rc, 111, 6, rows.length, (rows.flatMap rowCells).set (k * 6 + j) u⟩ = sPs (.slice (some ⟨b, o, none⟩) (rows.set k r').length rc) (.slice ca cols.length cc) (rows.set k r') cols := by
    have e1 := flat_set rowCells 6 rowCells_len rows k hkl r' j hj u hx
    have e2 : (rows.set k r').map coefP = rows.map coefP := by
      rw [List.map_set, hc]
      exact set_at _ _ _ (by simp [hkl])
    simp only [sPs, List.set_cons_zero, e1, e2, List.length_set]
  rw [e] at hs
  rw [List.length_set] at hs ⊢
  exact hs
theorem col_elt (h : Box w sb 93 G [.slice ra rows.length rc, .slice (some ⟨b, o, none⟩) cols.length cc, .int .i64 lr, .int .i64 lc] (sPs (.slice ra rows.length rc) (.slice (some ⟨b, o, none⟩) cols.length cc) rows cols)) (k : Nat) {r : Cl} (hk : cols[k]? = some r) (j : Nat) (hj : j < 4) (u : Value) (r' : Cl) (hx : colCells r' = (colCells r).set j u) :
    BoxA w sb 93 G [.slice ra rows.length rc, .slice (some ⟨b, o, none⟩) (cols.set k r').length cc, .int .i64 lr, .int .i64 lc] (sPs (.slice ra rows.length rc) (.slice (some ⟨b, o, none⟩) (cols.set k r').length cc) rows (cols.set k r')) (w.setCell ⟨b, o + k * 4 + j, none⟩ u) := by
  obtain ⟨hkl, rfl⟩ := List.getElem?_eq_some_iff.1 hk
  have hs := h.elt 1 (g := b) (o := o) (cap := cc) (n := cols.length) (size := 4) (e := 113) (xs := cols.flatMap colCells) rfl (k * 4 + j) u
  rw [← Nat.add_assoc] at hs
  have e : (sPs (.slice ra rows.length rc) (.slice (some ⟨b, o, none⟩) cols.length cc) rows cols).set 1 ⟨.slice (some ⟨b, o, none⟩) cols.length cc, 113, 4, cols.length, (cols.flatMap colCells).set (k * 4 + j) u⟩ = sPs (.slice ra rows.length rc) (.slice (some ⟨b, o, none⟩) (cols.set k r').length cc) rows (cols.set k r') := by
    have e1 := flat_set colCells 4 colCells_len cols k hkl r' j hj u hx
    simp only [sPs, List.set_cons_zero, List.set_cons_succ, e1, List.length_set]
  rw [e] at hs
  rw [List.length_set] at hs ⊢
  exact hs
theorem coef_elt (h : Box w sb 93 G [.slice ra rows.length rc, .slice ca cols.length cc, .int .i64 lr, .int .i64 lc] (sPs (.slice ra rows.length rc) (.slice ca cols.length cc) rows cols)) (k : Nat) {r : Rw} (hk : rows[k]? = some r) {n : Nat} (hcv : r.cv = .slice (some ⟨b, o, none⟩) r.coef.length n) (c : Nat) {x : Rv} (hc : r.coef[c]? = some x) (j : Nat) (hj : j < 3) (u : Value) (x' : Rv) (hx : x'.cells = x.cells.set j u) :
    BoxA w sb 93 G [.slice ra (rows.set k { r with coef := r.coef.set c x' }).length rc, .slice ca cols.length cc, .int .i64 lr, .int .i64 lc] (sPs (.slice ra (rows.set k { r with coef := r.coef.set c x' }).length rc) (.slice ca cols.length cc) (rows.set k { r with coef := r.coef.set c x' }) cols) (w.setCell ⟨b, o + c * 3 + j, none⟩ u) := by
  obtain ⟨hcl, rfl⟩ := List.getElem?_eq_some_iff.1 hc
  have hkl := (List.getElem?_eq_some_iff.1 hk).1
  have hp : (sPs (.slice ra rows.length rc) (.slice ca cols.length cc) rows cols)[k + 2]? = some ⟨.slice (some ⟨b, o, none⟩) r.coef.length n, 51, 3, r.coef.length, r.coef.flatMap Rv.cells⟩ := by
    simp [sPs, hk, coefP, hcv]
  have hs := h.elt (k + 2) hp (c * 3 + j) u
  rw [← Nat.add_assoc] at hs
  have e : (sPs (.slice ra rows.length rc) (.slice ca cols.length cc) rows cols).set (k + 2) ⟨.slice (some ⟨b, o, none⟩) r.coef.length n, 51, 3, r.coef.length, (r.coef.flatMap Rv.cells).set (c * 3 + j) u⟩ = sPs (.slice ra (rows.set k { r with coef := r.coef.set c x' }).length rc) (.slice ca cols.length cc) (rows.set k { r with coef := r.coef.set c x' }) cols := by
    have e1 := flat_set Rv.cells 3 rvCells_len r.coef c hcl x' j hj u hx
    have e2 : (rows.set k { r with coef := r.coef.set c x' }).flatMap rowCells = rows.flatMap rowCells := by
      have h3 := flat_set rowCells 6 rowCells_len rows k hkl { r with coef := r.coef.set c x' } 0 (by omega) (.int .i64 r.id) (by rw [← (List.getElem?_eq_some_iff.1 hk).2]; rfl)
      rw [h3]
      refine set_at _ _ _ (flat_at rowCells 6 rowCells_len rows k hkl 0 _ ?_)
      rw [(List.getElem?_eq_some_iff.1 hk).2]; rfl
    simp only [sPs, List.set_cons_succ, List.map_set, coefP, List.length_set, e2, e1]
    rw [hcv]
  rw [e] at hs
  rw [List.length_set] at hs ⊢
  exact hs
theorem Nums.setRow (h : Nums w rows cols) (k : Nat) (r : Rw) (h1 : r.rhs.ok w) (h2 : ∀ v, v ∈ r.coef → v.ok w) : Nums w (rows.set k r) cols :=
  ⟨fun x hx => by
    rcases List.mem_or_eq_of_mem_set hx with h3 | rfl
    · exact h.rhs x h3
    · exact h1, fun x hx => by
    rcases List.mem_or_eq_of_mem_set hx with h3 | rfl
    · exact h.coef x h3
    · exact h2, h.cost⟩
theorem Nums.setCol (h : Nums w rows cols) (k : Nat) (c : Cl) (h1 : c.cost.ok w) : Nums w rows (cols.set k c) :=
  ⟨h.rhs, h.coef, fun x hx => by
    rcases List.mem_or_eq_of_mem_set hx with h3 | rfl
    · exact h.cost x h3
    · exact h1⟩
theorem kind_world (h : SS w sb G rows cols lr lc) {a : Option Addr} (hc : w.cell? ⟨sb, 0, none⟩ = some (.slice (some ⟨b, o, none⟩) rows.length rc)) (k : Nat) {r : Rw} (hk : rows[k]? = some r) (kd : Int) :
    StA w sb G (rows.set k { r with kind := kd }) cols lr lc (w.setCell ⟨b, o + k * 6 + 1, none⟩ (.int .i64 kd)) := by
  obtain ⟨ra, ca, rc', cc, hb, hw, hn⟩ := h
  cases (hb.cell 0 rfl).symm.trans hc
  exact StA.of (row_elt hb k hk 1 (by omega) _ { r with kind := kd } rfl rfl) hw (hn.setRow k _ (hn.rhs r (List.mem_of_getElem? hk)) (hn.coef r (List.mem_of_getElem? hk)))
theorem rhs_world (h : SS w sb G rows cols lr lc) (hc : w.cell? ⟨sb, 0, none⟩ = some (.slice (some ⟨b, o, none⟩) rows.length rc)) (k : Nat) {r : Rw} (hk : rows[k]? = some r) (v : Rv) (hv : v.ok w) :
    StA w sb G (rows.set k { r with rhs := v }) cols lr lc (((w.setCell ⟨b, o + k * 6 + 2, none⟩ (.bool v.s)).setCell ⟨b, o + k * 6 + 3, none⟩ (.slice v.a v.l v.c)).setCell ⟨b, o + k * 6 + 4, none⟩ (.slice v.b v.m v.d)) := by
  obtain ⟨ra, ca, rc', cc, hb, hw, hn⟩ := h
  cases (hb.cell 0 rfl).symm.trans hc
  have hkl := (List.getElem?_eq_some_iff.1 hk).1
  have h1 := row_elt hb k hk 2 (by omega) (.bool v.s) { r with rhs := { r.rhs with s := v.s } } rfl rfl
  have h2 := h1.trans fun G1 hq => row_elt hq k (r := { r with rhs := { r.rhs with s := v.s } }) (by simp [hkl]) 3 (by omega) (.slice v.a v.l v.c) { r with rhs := { v with b := r.rhs.b, m := r.rhs.m, d := r.rhs.d } } rfl rfl
  have h3 := h2.trans fun G1 hq => row_elt hq k (r := { r with rhs := { v with b := r.rhs.b, m := r.rhs.m, d := r.rhs.d } }) (by simp [hkl]) 4 (by omega) (.slice v.b v.m v.d) { r with rhs := v } rfl rfl
  rw [List.set_set, List.set_set] at h3
  exact StA.of h3 hw (hn.setRow k _ hv (hn.coef r (List.mem_of_getElem? hk)))
theorem cost_world (h : SS w sb G rows cols lr lc) (hc : w.cell? ⟨sb, 1, none⟩ = some (.slice (some ⟨b, o, none⟩) cols.length cc)) (k : Nat) {r : Cl} (hk : cols[k]? = some r) (v : Rv) (hv : v.ok w) :
    StA w sb G rows (cols.set k { r with cost := v }) lr lc (((w.setCell ⟨b, o + k * 4 + 1, none⟩ (.bool v.s)).setCell ⟨b, o + k * 4 + 2, none⟩ (.slice v.a v.l v.c)).setCell ⟨b, o + k * 4 + 3, none⟩ (.slice v.b v.m v.d)) := by
  obtain ⟨ra, ca, rc', cc', hb, hw, hn⟩ := h
  cases (hb.cell 1 rfl).symm.trans hc
  have hkl := (List.getElem?_eq_some_iff.1 hk).1
  have h1 := col_elt hb k hk 1 (by omega) (.bool v.s) { r with cost := { r.cost with s := v.s } } rfl
  have h2 := h1.trans fun G1 hq => col_elt hq k (r := { r with cost := { r.cost with s := v.s } }) (by simp [hkl]) 2 (by omega) (.slice v.a v.l v.c) { r with cost := { v with b := r.cost.b, m := r.cost.m, d := r.cost.d } } rfl
  have h3 := h2.trans fun G1 hq => col_elt hq k (r := { r with cost := { v with b := r.cost.b, m := r.cost.m, d := r.cost.d } }) (by simp [hkl]) 3 (by omega) (.slice v.b v.m v.d) { r with cost := v } rfl
  rw [List.set_set, List.set_set] at h3
  exact StA.of h3 hw (hn.setCol k _ hv)
theorem coef_world (h : SS w sb G rows cols lr lc) (k : Nat) {r : Rw} (hk : rows[k]? = some r) {n : Nat} (hcv : r.cv = .slice (some ⟨b, o, none⟩) r.coef.length n) (c : Nat) (hc : c < r.coef.length) (v : Rv) (hv : v.ok w) :
    StA w sb G (rows.set k { r with coef := r.coef.set c v }) cols lr lc (((w.setCell ⟨b, o + c * 3, none⟩ (.bool v.s)).setCell ⟨b, o + c * 3 + 1, none⟩ (.slice v.a v.l v.c)).setCell ⟨b, o + c * 3 + 2, none⟩ (.slice v.b v.m v.d)) := by
  obtain ⟨ra, ca, rc', cc', hb, hw, hn⟩ := h
  have hkl := (List.getElem?_eq_some_iff.1 hk).1
  obtain ⟨x, hx⟩ : ∃ x, r.coef[c]? = some x := ⟨_, List.getElem?_eq_getElem hc⟩
  have h1 := coef_elt hb k hk hcv c hx 0 (by omega) (.bool v.s) { x with s := v.s } rfl
  have h2 := h1.trans fun G1 hq => coef_elt hq k (r := { r with coef := r.coef.set c { x with s := v.s } }) (by simp [hkl]) (n := n) (by rw [List.length_set]; exact hcv) c (x := { x with s := v.s }) (by simp [hc]) 1 (by omega) (.slice v.a v.l v.c) { v with b := x.b, m := x.m, d := x.d } rfl
  have h3 := h2.trans fun G1 hq => coef_elt hq k (r := { r with coef := (r.coef.set c { x with s := v.s }).set c { v with b := x.b, m := x.m, d := x.d } }) (by simp [hkl]) (n := n) (by rw [List.length_set, List.length_set]; exact hcv) c (x := { v with b := x.b, m := x.m, d := x.d }) (by simp [hc]) 2 (by omega) (.slice v.b v.m v.d) v rfl
  simp only [List.set_set] at h3
  refine StA.of h3 hw (hn.setRow k _ (hn.rhs r (List.mem_of_getElem? hk)) fun y hy => ?_)
  rcases List.mem_or_eq_of_mem_set hy with h4 | rfl
  · exact hn.coef r (List.mem_of_getElem? hk) y h4
  · exact hv
theorem SS.rowC (h : SS w sb G rows cols lr lc) (k : Nat) {r : Rw} (hk : rows[k]? = some r) : ∃ b o rc, w.cell? ⟨sb, 0, none⟩ = some (.slice (some ⟨b, o, none⟩) rows.length rc) ∧ (w.cell? ⟨b, o + k * 6 + 1, none⟩ = some (.int .i64 r.kind) ∧ w.cell? ⟨b, o + k * 6 + 2, none⟩ = some (.bool r.rhs.s) ∧
      w.cell? ⟨b, o + k * 6 + 3, none⟩ = some (.slice r.rhs.a r.rhs.l r.rhs.c) ∧ w.cell? ⟨b, o + k * 6 + 4, none⟩ = some (.slice r.rhs.b r.rhs.m r.rhs.d) ∧ w.cell? ⟨b, o + k * 6 + 5, none⟩ = some r.cv) ∧ (∀ j, w.frozen? ⟨b, j, none⟩ = false) ∧ rows.length ≤ rc ∧ rc ≤ 9223372036854775807 := by
  obtain ⟨ra, ca, rc', cc', hb, hw, hn⟩ := h
  obtain ⟨hkl, rfl⟩ := List.getElem?_eq_some_iff.1 hk
  have hm : Mid w 0 111 6 (.slice ra rows.length rc') rows.length (rows.flatMap rowCells) := hb.mid 0 rfl
  obtain ⟨b, o, rfl, _, _, k1, k2, k3, k4, k5⟩ := row_get (Sl.ofMid hm) k hkl
  have hl := (Sl.ofMid hm).lenI
  exact ⟨b, o, rc', hb.cell 0 rfl, ⟨k1, k2, k3, k4, k5⟩, hm.frozen, by omega, by omega⟩
theorem SS.colC (h : SS w sb G rows cols lr lc) (k : Nat) {r : Cl} (hk : cols[k]? = some r) : ∃ b o cc, w.cell? ⟨sb, 1, none⟩ = some (.slice (some ⟨b, o, none⟩) cols.length cc) ∧ (w.cell? ⟨b, o + k * 4 + 1, none⟩ = some (.bool r.cost.s) ∧
      w.cell? ⟨b, o + k * 4 + 2, none⟩ = some (.slice r.cost.a r.cost.l r.cost.c) ∧ w.cell? ⟨b, o + k * 4 + 3, none⟩ = some (.slice r.cost.b r.cost.m r.cost.d)) ∧ (∀ j, w.frozen? ⟨b, j, none⟩ = false) ∧ cols.length ≤ cc ∧ cc ≤ 9223372036854775807 := by
  obtain ⟨ra, ca, rc', cc', hb, hw, hn⟩ := h
  obtain ⟨hkl, rfl⟩ := List.getElem?_eq_some_iff.1 hk
  have hm : Mid w 0 113 4 (.slice ca cols.length cc') cols.length (cols.flatMap colCells) := hb.mid 1 rfl
  obtain ⟨b, o, rfl, _, _, k1, k2, k3⟩ := col_get (Sl.ofMid hm) k hkl
  have hl := (Sl.ofMid hm).lenI
  exact ⟨b, o, cc', hb.cell 1 rfl, ⟨k1, k2, k3⟩, hm.frozen, by omega, by omega⟩
theorem SS.coefC (h : SS w sb G rows cols lr lc) (k : Nat) {r : Rw} (hk : rows[k]? = some r) (c : Nat) (hc : c < r.coef.length) : ∃ b o n s a l d e m f, r.cv = .slice (some ⟨b, o, none⟩) r.coef.length n ∧ (w.cell? ⟨b, o + c * 3, none⟩ = some (.bool s) ∧ w.cell? ⟨b, o + c * 3 + 1, none⟩ = some (.slice a l d) ∧ w.cell? ⟨b, o + c * 3 + 2, none⟩ = some (.slice e m f)) ∧ (∀ j, w.frozen? ⟨b, j, none⟩ = false) ∧ r.coef.length ≤ n ∧ n ≤ 9223372036854775807 := by
  obtain ⟨ra, ca, rc', cc', hb, hw, hn⟩ := h
  obtain ⟨hkl, rfl⟩ := List.getElem?_eq_some_iff.1 hk
  have hm : Mid w 0 51 3 rows[k].cv rows[k].coef.length (rows[k].coef.flatMap Rv.cells) := hb.mid (k + 2) (p := coefP rows[k]) (by simp [sPs, hkl])
  obtain ⟨a, n, hv⟩ := hm.slice
  rw [hv] at hm
  obtain ⟨b, o, rfl, _, k0, k1, k2⟩ := rv_get (Sl.ofMid hm) c hc
  have hl := (Sl.ofMid hm).lenI
  exact ⟨b, o, n, _, _, _, _, _, _, _, hv, ⟨k0, k1, k2⟩, hm.frozen, by omega, by omega⟩
end
theorem StA.then_below {w w1 w2 : World} {sb : Nat} {G : Nat → Prop} {rows : List Rw} {cols : List Cl} {lr lc : Int} (hb : Below w.heap.size w w1) (hG : ∀ k, G k → k < w.heap.size) (h : StA w1 sb G rows cols lr lc w2) : StA w sb G rows cols lr lc w2 := by
  obtain ⟨G', h1, h2, h3⟩ := h
  refine ⟨G', h1, fun k hk => ?_, (Keeps.of_below hb (S := G) fun b h1 h2 => by omega).trans h3 fun _ _ h => h⟩
  rcases h2 k hk with h4 | h4
  · exact .inl h4
  · right; have := hb.size; omega
theorem StA.drew {w w1 : World} {sb : Nat} {G : Nat → Prop} {rows : List Rw} {cols : List Cl} {lr lc : Int} (h : StA w sb G rows cols lr lc w1) : StA w sb G rows cols lr lc w1.drew := by
  obtain ⟨G', h1, h2, h3⟩ := h
  exact ⟨G', h1.below (Below.refl _ _).drew, h2, h3.trans (Keeps.drew _ (fun _ => False)) fun _ _ h => h.elim⟩
theorem rowV_at {rows : List Rw} {id : Int} (h : rowAt rows id < rows.length) : rowV rows id = (rowAt rows id : Int) := by unfold rowV; rw [if_pos h]
theorem rowV_no {rows : List Rw} {id : Int} (h : ¬ rowAt rows id < rows.length) : rowV rows id = -1 := by unfold rowV; rw [if_neg h]
theorem colV_at {cols : List Cl} {id : Int} (h : colAt cols id < cols.length) : colV cols id = (colAt cols id : Int) := by unfold colV; rw [if_pos h]
theorem colV_no {cols : List Cl} {id : Int} (h : ¬ colAt cols id < cols.length) : colV cols id = -1 := by unfold colV; rw [if_neg h]
set_option maxRecDepth 100000 in
set_option maxHeartbeats 2000000 in
theorem setKind_none (sb : Nat) (G : Nat → Prop) (rows : List Rw) (cols : List Cl) (lr lc id : Int) (kd : Int) (w : World) (h : SS w sb G rows cols lr lc) (hh : ¬ rowAt rows id < rows.length) :
    Calls Tryz.prog 47 #[.pointer (some ⟨sb, 0, none⟩), .int .i64 id, .int .i64 kd] w (FaultR w sRow 230 id .returned) := by
  have hb0 : Below w.heap.size w w := Below.refl _ _
  have HA := Lib.hid (rowV_no hh ▸ rowAt_any sb G rows cols lr lc id _ (h.below hb0))
  have HB0 := Lib.hid hb0
  clear h hb0
  go_enter Tryz.func47, Tryz.ntmps47
  go_wp2_with fail
  refine HA.out.mono ?_
  rintro e w1 ⟨rfl, hb1⟩
  have HB1 := Lib.hid hb1
  clear hb1
  go_wp2_with fail
  refine (wrap_E 230 ⟨#[114, 111, 119]⟩ id _).mono ?_
  rintro e w2 ⟨rfl, hi, rfl⟩
  have HI := Lib.hid hi
  clear hi
  go_wp2
  go_ret
  exact ⟨_, rfl, HI.out, bthen (bthen HB0.out HB1.out) (belowBox _ _), (bthen HB0.out HB1.out).size⟩
set_option maxRecDepth 100000 in
set_option maxHeartbeats 2000000 in
theorem setRhs_none (sb : Nat) (G : Nat → Prop) (rows : List Rw) (cols : List Cl) (lr lc id : Int) (v : Rv) (w : World) (h : SS w sb G rows cols lr lc) (hh : ¬ rowAt rows id < rows.length) :
    Calls Tryz.prog 28 #[.pointer (some ⟨sb, 0, none⟩), .int .i64 id, .agg #[.bool v.s, .slice v.a v.l v.c, .slice v.b v.m v.d]] w (FaultR w sRow 230 id .returned) := by
  have hb0 : Below w.heap.size w (w.alloc (.cells #[.bool v.s, .slice v.a v.l v.c, .slice v.b v.m v.d] 51)) := belowBox w (.cells #[.bool v.s, .slice v.a v.l v.c, .slice v.b v.m v.d] 51)
  have HA := Lib.hid (rowV_no hh ▸ rowAt_any sb G rows cols lr lc id _ (h.below hb0))
  have HB0 := Lib.hid hb0
  clear h hb0
  go_enter Tryz.func28, Tryz.ntmps28
  go_wp2_with fail
  refine HA.out.mono ?_
  rintro e w1 ⟨rfl, hb1⟩
  have HB1 := Lib.hid hb1
  clear hb1
  go_wp2_with fail
  refine (wrap_E 230 ⟨#[114, 111, 119]⟩ id _).mono ?_
  rintro e w2 ⟨rfl, hi, rfl⟩
  have HI := Lib.hid hi
  clear hi
  go_wp2
  go_ret
  exact ⟨_, rfl, HI.out, bthen (bthen HB0.out HB1.out) (belowBox _ _), (bthen HB0.out HB1.out).size⟩
set_option maxRecDepth 100000 in
set_option maxHeartbeats 2000000 in
theorem setCost_none (sb : Nat) (G : Nat → Prop) (rows : List Rw) (cols : List Cl) (lr lc id : Int) (v : Rv) (w : World) (h : SS w sb G rows cols lr lc) (hh : ¬ colAt cols id < cols.length) :
    Calls Tryz.prog 36 #[.pointer (some ⟨sb, 0, none⟩), .int .i64 id, .agg #[.bool v.s, .slice v.a v.l v.c, .slice v.b v.m v.d]] w (FaultR w sColumn 231 id .returned) := by
  have hb0 : Below w.heap.size w (w.alloc (.cells #[.bool v.s, .slice v.a v.l v.c, .slice v.b v.m v.d] 51)) := belowBox w (.cells #[.bool v.s, .slice v.a v.l v.c, .slice v.b v.m v.d] 51)
  have HA := Lib.hid (colV_no hh ▸ colAt_any sb G rows cols lr lc id _ (h.below hb0))
  have HB0 := Lib.hid hb0
  clear h hb0
  go_enter Tryz.func36, Tryz.ntmps36
  go_wp2_with fail
  refine HA.out.mono ?_
  rintro e w1 ⟨rfl, hb1⟩
  have HB1 := Lib.hid hb1
  clear hb1
  go_wp2_with fail
  refine (wrap_E 231 ⟨#[99, 111, 108, 117, 109, 110]⟩ id _).mono ?_
  rintro e w2 ⟨rfl, hi, rfl⟩
  have HI := Lib.hid hi
  clear hi
  go_wp2
  go_ret
  exact ⟨_, rfl, HI.out, bthen (bthen HB0.out HB1.out) (belowBox _ _), (bthen HB0.out HB1.out).size⟩
set_option maxRecDepth 100000 in
set_option maxHeartbeats 4000000 in
theorem setKind_ok (sb : Nat) (G : Nat → Prop) (rows : List Rw) (cols : List Cl) (lr lc id : Int) (kd : Int) (w : World) (h : SS w sb G rows cols lr lc) (r : Rw) (hk : rows[rowAt rows id]? = some r) (h1 : 1 ≤ kd) (h3 : kd ≤ 3) :
    Calls Tryz.prog 47 #[.pointer (some ⟨sb, 0, none⟩), .int .i64 id, .int .i64 kd] w fun e w' => e = .returned .nilIface ∧ StA w sb G (rows.set (rowAt rows id) { r with kind := kd }) cols lr lc w' := by
  have hh := (List.getElem?_eq_some_iff.1 hk).1
  have hb0 : Below w.heap.size w w := Below.refl _ _
  have HA := Lib.hid (rowV_at hh ▸ rowAt_any sb G rows cols lr lc id _ (h.below hb0))
  have HB0 := Lib.hid hb0
  have HS := Lib.hid h
  have HK := Lib.hid hk
  skip
  clear h hb0 hk
  generalize rowAt rows id = k at *
  go_enter Tryz.func47, Tryz.ntmps47
  go_wp2_with fail
  refine HA.out.mono ?_
  rintro e w1 ⟨rfl, hb1⟩
  have hbw := bthen HB0.out hb1
  have hq := HS.out.below hbw
  have HB := Lib.hid hbw
  obtain ⟨b, o, rc, c0, ⟨k1, k2, k3, k4, k5⟩, hf, hl1, hl2⟩ := hq.rowC k HK.out
  have f1 := hf (o + k * 6 + 1)
  clear k2 k3 k4 k5 hf
  have i0 : (0 : Int) ≤ (k : Int) := by omega
  have i1 : (k : Int) < (rows.length : Int) := by omega
  have HQ := Lib.hid hq
  clear hq hbw hb1

  skip
  all_goals
    go_wp2
    go_ret
    exact ⟨rfl, StA.then_below HB.out HS.out.lt ((kind_world (a := none) HQ.out c0 k HK.out kd))⟩
set_option maxRecDepth 100000 in
set_option maxHeartbeats 4000000 in
theorem setRhs_ok (sb : Nat) (G : Nat → Prop) (rows : List Rw) (cols : List Cl) (lr lc id : Int) (v : Rv) (w : World) (h : SS w sb G rows cols lr lc) (r : Rw) (hk : rows[rowAt rows id]? = some r) (hv : v.ok w) :
    Calls Tryz.prog 28 #[.pointer (some ⟨sb, 0, none⟩), .int .i64 id, .agg #[.bool v.s, .slice v.a v.l v.c, .slice v.b v.m v.d]] w fun e w' => e = .returned .nilIface ∧ StA w sb G (rows.set (rowAt rows id) { r with rhs := v }) cols lr lc w' := by
  have hh := (List.getElem?_eq_some_iff.1 hk).1
  have hb0 : Below w.heap.size w (w.alloc (.cells #[.bool v.s, .slice v.a v.l v.c, .slice v.b v.m v.d] 51)) := belowBox w (.cells #[.bool v.s, .slice v.a v.l v.c, .slice v.b v.m v.d] 51)
  have HA := Lib.hid (rowV_at hh ▸ rowAt_any sb G rows cols lr lc id _ (h.below hb0))
  have HB0 := Lib.hid hb0
  have HS := Lib.hid h
  have HK := Lib.hid hk
  have HV := Lib.hid hv
  clear h hb0 hk hv
  generalize rowAt rows id = k at *
  go_enter Tryz.func28, Tryz.ntmps28
  go_wp2_with fail
  refine HA.out.mono ?_
  rintro e w1 ⟨rfl, hb1⟩
  have hbw := bthen HB0.out hb1
  have hq := HS.out.below hbw
  have m0 : w1.cell? ⟨w.heap.size, 0, none⟩ = some (.bool v.s) := ((bcell hb1).1 _ _ (by simp)).trans (by simp)
  have m1 : w1.cell? ⟨w.heap.size, 1, none⟩ = some (.slice v.a v.l v.c) := ((bcell hb1).1 _ _ (by simp)).trans (by simp)
  have m2 : w1.cell? ⟨w.heap.size, 2, none⟩ = some (.slice v.b v.m v.d) := ((bcell hb1).1 _ _ (by simp)).trans (by simp)
  have HB := Lib.hid hbw
  obtain ⟨b, o, rc, c0, ⟨k1, k2, k3, k4, k5⟩, hf, hl1, hl2⟩ := hq.rowC k HK.out
  have f2 := hf (o + k * 6 + 2)
  have f3 := hf (o + k * 6 + 3)
  have f4 := hf (o + k * 6 + 4)
  clear k1 k5 hf
  have i0 : (0 : Int) ≤ (k : Int) := by omega
  have i1 : (k : Int) < (rows.length : Int) := by omega
  have HQ := Lib.hid hq
  clear hq hbw hb1
  go_upto_region 4 with fail
  go_region
  all_goals
    go_wp2
    go_ret
    exact ⟨rfl, StA.then_below HB.out HS.out.lt ((rhs_world HQ.out c0 k HK.out v (HV.out.below HB.out)).drew)⟩
set_option maxRecDepth 100000 in
set_option maxHeartbeats 4000000 in
theorem setCost_ok (sb : Nat) (G : Nat → Prop) (rows : List Rw) (cols : List Cl) (lr lc id : Int) (v : Rv) (w : World) (h : SS w sb G rows cols lr lc) (r : Cl) (hk : cols[colAt cols id]? = some r) (hv : v.ok w) :
    Calls Tryz.prog 36 #[.pointer (some ⟨sb, 0, none⟩), .int .i64 id, .agg #[.bool v.s, .slice v.a v.l v.c, .slice v.b v.m v.d]] w fun e w' => e = .returned .nilIface ∧ StA w sb G rows (cols.set (colAt cols id) { r with cost := v }) lr lc w' := by
  have hh := (List.getElem?_eq_some_iff.1 hk).1
  have hb0 : Below w.heap.size w (w.alloc (.cells #[.bool v.s, .slice v.a v.l v.c, .slice v.b v.m v.d] 51)) := belowBox w (.cells #[.bool v.s, .slice v.a v.l v.c, .slice v.b v.m v.d] 51)
  have HA := Lib.hid (colV_at hh ▸ colAt_any sb G rows cols lr lc id _ (h.below hb0))
  have HB0 := Lib.hid hb0
  have HS := Lib.hid h
  have HK := Lib.hid hk
  have HV := Lib.hid hv
  clear h hb0 hk hv
  generalize colAt cols id = k at *
  go_enter Tryz.func36, Tryz.ntmps36
  go_wp2_with fail
  refine HA.out.mono ?_
  rintro e w1 ⟨rfl, hb1⟩
  have hbw := bthen HB0.out hb1
  have hq := HS.out.below hbw
  have m0 : w1.cell? ⟨w.heap.size, 0, none⟩ = some (.bool v.s) := ((bcell hb1).1 _ _ (by simp)).trans (by simp)
  have m1 : w1.cell? ⟨w.heap.size, 1, none⟩ = some (.slice v.a v.l v.c) := ((bcell hb1).1 _ _ (by simp)).trans (by simp)
  have m2 : w1.cell? ⟨w.heap.size, 2, none⟩ = some (.slice v.b v.m v.d) := ((bcell hb1).1 _ _ (by simp)).trans (by simp)
  have HB := Lib.hid hbw
  obtain ⟨b, o, rc, c0, ⟨k2, k3, k4⟩, hf, hl1, hl2⟩ := hq.colC k HK.out
  have f2 := hf (o + k * 4 + 1)
  have f3 := hf (o + k * 4 + 2)
  have f4 := hf (o + k * 4 + 3)
  clear hf
  have i0 : (0 : Int) ≤ (k : Int) := by omega
  have i1 : (k : Int) < (cols.length : Int) := by omega
  have HQ := Lib.hid hq
  clear hq hbw hb1
  go_upto_region 4 with fail
  go_region
  all_goals
    go_wp2
    go_ret
    exact ⟨rfl, StA.then_below HB.out HS.out.lt ((cost_world HQ.out c0 k HK.out v (HV.out.below HB.out)).drew)⟩
set_option maxRecDepth 100000 in
set_option maxHeartbeats 2000000 in
theorem setKind_kind (sb : Nat) (G : Nat → Prop) (rows : List Rw) (cols : List Cl) (lr lc id : Int) (kd : Int) (w : World) (h : SS w sb G rows cols lr lc) (hh : rowAt rows id < rows.length) (hk : kd < 1 ∨ 3 < kd) :
    Calls Tryz.prog 47 #[.pointer (some ⟨sb, 0, none⟩), .int .i64 id, .int .i64 kd] w fun e w' => e = .returned (eE 160) ∧ Below w.heap.size w w' := by
  have HA := Lib.hid (rowV_at hh ▸ rowAt_any sb G rows cols lr lc id _ h)
  generalize rowAt rows id = k at *
  clear h
  unfold eE
  rcases hk with hk | hk
  · go_enter Tryz.func47, Tryz.ntmps47
    go_wp2_with fail
    refine HA.out.mono ?_
    rintro e w1 ⟨rfl, hb1⟩
    have HB1 := Lib.hid hb1
    clear hb1
    have i0 : (0 : Int) ≤ (k : Int) := by omega
    go_wp2
    go_ret
    exact ⟨rfl, HB1.out⟩
  · have hk2 : ¬ kd < 1 := by omega
    go_enter Tryz.func47, Tryz.ntmps47
    go_wp2_with fail
    refine HA.out.mono ?_
    rintro e w1 ⟨rfl, hb1⟩
    have HB1 := Lib.hid hb1
    clear hb1
    have i0 : (0 : Int) ≤ (k : Int) := by omega
    go_wp2
    go_ret
    exact ⟨rfl, HB1.out⟩
set_option maxRecDepth 100000 in
set_option maxHeartbeats 4000000 in
theorem setCoef_noRow (sb : Nat) (G : Nat → Prop) (rows : List Rw) (cols : List Cl) (lr lc id jd : Int) (v : Rv) (w : World) (h : SS w sb G rows cols lr lc) (hh : ¬ rowAt rows id < rows.length) :
    Calls Tryz.prog 27 #[.pointer (some ⟨sb, 0, none⟩), .int .i64 id, .int .i64 jd, .agg #[.bool v.s, .slice v.a v.l v.c, .slice v.b v.m v.d]] w (FaultR w sRow 230 id .returned) := by
  have hb0 := belowBox w (.cells #[.bool v.s, .slice v.a v.l v.c, .slice v.b v.m v.d] 51)
  have HA := Lib.hid (rowV_no hh ▸ rowAt_any sb G rows cols lr lc id _ (h.below hb0))
  have HC := Lib.hid (fun W (hb : Below w.heap.size w W) => colAt_any sb G rows cols lr lc jd W (h.below hb))
  have HB0 := Lib.hid hb0
  skip
  clear h hb0
  skip
  go_enter Tryz.func27, Tryz.ntmps27
  go_wp2_with fail
  refine HA.out.mono ?_
  rintro e w1 ⟨rfl, hb1⟩
  have HB1 := Lib.hid (bthen HB0.out hb1)
  clear hb1
  go_wp2_with fail
  refine (HC.out _ HB1.out).mono ?_
  rintro e w2 ⟨rfl, hb2⟩
  have HB2 := Lib.hid (bthen HB1.out hb2)
  clear hb2
  skip
  skip
  go_wp2_with fail
  refine (wrap_E 230 ⟨#[114, 111, 119]⟩ id _).mono ?_
  rintro e w3 ⟨rfl, hi, rfl⟩
  have HI := Lib.hid hi
  clear hi
  go_wp2
  go_ret
  exact ⟨_, rfl, HI.out, bthen HB2.out (belowBox _ _), HB2.out.size⟩
set_option maxRecDepth 100000 in
set_option maxHeartbeats 4000000 in
theorem setCoef_noCol (sb : Nat) (G : Nat → Prop) (rows : List Rw) (cols : List Cl) (lr lc id jd : Int) (v : Rv) (w : World) (h : SS w sb G rows cols lr lc) (hh : rowAt rows id < rows.length) (hj : ¬ colAt cols jd < cols.length) :
    Calls Tryz.prog 27 #[.pointer (some ⟨sb, 0, none⟩), .int .i64 id, .int .i64 jd, .agg #[.bool v.s, .slice v.a v.l v.c, .slice v.b v.m v.d]] w (FaultR w sColumn 231 jd .returned) := by
  have hb0 := belowBox w (.cells #[.bool v.s, .slice v.a v.l v.c, .slice v.b v.m v.d] 51)
  have HA := Lib.hid (rowV_at hh ▸ rowAt_any sb G rows cols lr lc id _ (h.below hb0))
  have HC := Lib.hid (fun W (hb : Below w.heap.size w W) => colAt_any sb G rows cols lr lc jd W (h.below hb))
  have HB0 := Lib.hid hb0
  have HN := Lib.hid (colV_no hj)
  clear h hb0
  generalize rowAt rows id = k at *
  go_enter Tryz.func27, Tryz.ntmps27
  go_wp2_with fail
  refine HA.out.mono ?_
  rintro e w1 ⟨rfl, hb1⟩
  have HB1 := Lib.hid (bthen HB0.out hb1)
  clear hb1
  go_wp2_with fail
  refine (HC.out _ HB1.out).mono ?_
  rintro e w2 ⟨rfl, hb2⟩
  have HB2 := Lib.hid (bthen HB1.out hb2)
  clear hb2
  rw [HN.out]
  have i0 : (0 : Int) ≤ (k : Int) := by omega
  go_wp2_with fail
  refine (wrap_E 231 ⟨#[99, 111, 108, 117, 109, 110]⟩ jd _).mono ?_
  rintro e w3 ⟨rfl, hi, rfl⟩
  have HI := Lib.hid hi
  clear hi
  go_wp2
  go_ret
  exact ⟨_, rfl, HI.out, bthen HB2.out (belowBox _ _), HB2.out.size⟩
set_option maxRecDepth 100000 in
set_option maxHeartbeats 4000000 in
theorem setCoef_ok (sb : Nat) (G : Nat → Prop) (rows : List Rw) (cols : List Cl) (lr lc id jd : Int) (v : Rv) (w : World) (h : SS w sb G rows cols lr lc) (hv : v.ok w) (r : Rw) (hk : rows[rowAt rows id]? = some r) (hj : colAt cols jd < cols.length) (hrl : r.coef.length = cols.length) :
    Calls Tryz.prog 27 #[.pointer (some ⟨sb, 0, none⟩), .int .i64 id, .int .i64 jd, .agg #[.bool v.s, .slice v.a v.l v.c, .slice v.b v.m v.d]] w fun e w' => e = .returned .nilIface ∧ StA w sb G (rows.set (rowAt rows id) { r with coef := r.coef.set (colAt cols jd) v }) cols lr lc w' := by
  have hh := (List.getElem?_eq_some_iff.1 hk).1
  have hb0 := belowBox w (.cells #[.bool v.s, .slice v.a v.l v.c, .slice v.b v.m v.d] 51)
  have HA := Lib.hid (rowV_at hh ▸ rowAt_any sb G rows cols lr lc id _ (h.below hb0))
  have HC := Lib.hid (fun W (hb : Below w.heap.size w W) => colV_at hj ▸ colAt_any sb G rows cols lr lc jd W (h.below hb))
  have HB0 := Lib.hid hb0
  have HS := Lib.hid h
  have HK := Lib.hid hk
  have HV := Lib.hid hv
  clear h hb0 hk hv
  generalize rowAt rows id = k at *
  generalize colAt cols jd = c at *
  go_enter Tryz.func27, Tryz.ntmps27
  go_wp2_with fail
  refine HA.out.mono ?_
  rintro e w1 ⟨rfl, hb1⟩
  have m0 : w1.cell? ⟨w.heap.size, 0, none⟩ = some (.bool v.s) := ((bcell hb1).1 _ _ (by simp)).trans (by simp)
  have m1 : w1.cell? ⟨w.heap.size, 1, none⟩ = some (.slice v.a v.l v.c) := ((bcell hb1).1 _ _ (by simp)).trans (by simp)
  have m2 : w1.cell? ⟨w.heap.size, 2, none⟩ = some (.slice v.b v.m v.d) := ((bcell hb1).1 _ _ (by simp)).trans (by simp)
  have hz1 : w.heap.size < w1.heap.size := by have := hb1.size; simp at this; omega
  have HB1 := Lib.hid (bthen HB0.out hb1)
  clear hb1
  go_wp2_with fail
  refine (HC.out _ HB1.out).mono ?_
  rintro e w2 ⟨rfl, hb2⟩
  have m0 := ((bcell hb2).1 _ _ hz1).trans m0
  have m1 := ((bcell hb2).1 _ _ hz1).trans m1
  have m2 := ((bcell hb2).1 _ _ hz1).trans m2
  have hbw := bthen HB1.out hb2
  have hq := HS.out.below hbw
  obtain ⟨b, o, rc, c0, ⟨_, _, _, _, k5⟩, _, hl1, hl2⟩ := hq.rowC k HK.out
  obtain ⟨b2, o2, n2, x0, x1, x2, x3, x4, x5, x6, hcv, ⟨q0, q1, q2⟩, hf, hl3, hl4⟩ := hq.coefC k HK.out c (by omega)
  rw [hcv] at k5
  have f0 := hf (o2 + c * 3)
  have f1 := hf (o2 + c * 3 + 1)
  have f2 := hf (o2 + c * 3 + 2)
  have i0 : (0 : Int) ≤ (k : Int) := by omega
  have i1 : (k : Int) < (rows.length : Int) := by omega
  have j0 : (0 : Int) ≤ (c : Int) := by omega
  have j1 : (c : Int) < (r.coef.length : Int) := by omega
  have HQ := Lib.hid hq
  have HB := Lib.hid hbw
  have HCV := Lib.hid hcv
  clear hq hbw hb2 hf hcv
  go_upto_region 6 with fail
  go_region
  all_goals
    go_wp2
    go_ret
    exact ⟨rfl, StA.then_below HB.out HS.out.lt ((coef_world HQ.out k HK.out HCV.out c (by omega) v (HV.out.below HB.out)).drew)⟩
end Go.Proofs.YtaehklhbokocbaaGreatDoor
namespace Go.Proofs.YtaehklhbokocbaaGreatDoor
open Go.RowKit Go.Extern.Stop Go.Stop Go.Extern
section
variable {w w' : World} {base : Nat} {e : TypeId} {size : Nat} {v : Value} {n : Nat} {xs : List Value}
theorem Mid.storedN {g o cap : Nat} : ∀ (news : List Value) (w : World) (xs : List Value) (k : Nat), Mid w base e size (.slice (some ⟨g, o, none⟩) n cap) n xs → k + news.length ≤ xs.length →
    Mid (w.setCells g (o + k) news) base e size (.slice (some ⟨g, o, none⟩) n cap) n (xs.take k ++ news ++ xs.drop (k + news.length))
  | [], w, xs, k, h, _ => by
    simpa [World.setCells] using h
  | u :: us, w, xs, k, h, hk => by
    simp only [List.length_cons] at hk
    have := Mid.storedN us _ _ (k + 1) (h.stored k u) (by rw [List.length_set]; omega)
    have e1 : (xs.set k u).take (k + 1) = xs.take k ++ [u] := by
      rw [List.take_set, List.take_add_one, List.getElem?_eq_getElem (by omega)]
      rw [List.set_append_right _ _ (by rw [List.length_take]; omega)]
      have : k - (xs.take k).length = 0 := by rw [List.length_take]; omega
      rw [this]; rfl
    have e2 : (xs.set k u).drop (k + 1 + us.length) = xs.drop (k + (u :: us).length) := by
      rw [List.drop_set_of_lt (by omega)]
      congr 1; simp only [List.length_cons]; omega
    rw [e1, e2] at this
    simp only [List.append_assoc, List.cons_append] at this ⊢
    rw [← Nat.add_assoc] at this
    exact this
theorem Mid.first {g o cap : Nat} (h : Mid w base e size (.slice (some ⟨g, o, none⟩) n cap) n xs) (m : Nat) (hm : m ≤ n) : Mid w base e size (.slice (some ⟨g, o, none⟩) m cap) m (xs.take (m * size)) := by
  have hle : m * size ≤ n * size := Nat.mul_le_mul_right _ hm
  refine ⟨by rw [List.length_take, h.1]; omega, ?_⟩
  rcases h.2 with ⟨hv, _⟩ | ⟨g', o', cap', cur, hv, hb, hg, hn, hx, hc, ht⟩
  · cases hv
  · cases hv
    exact .inr ⟨g, o, cap, cur, rfl, hb, hg, by omega, hx, hc, by rw [← ht, List.take_take, Nat.min_eq_left hle]⟩
theorem setCells_keeps (g : Nat) : ∀ (vs : List Value) (o : Nat) (w : World), Keeps w (w.setCells g o vs) (fun k => k = g)
  | [], _, w => Keeps.refl w _
  | v :: vs, o, w => (Keeps.setCell w ⟨g, o, none⟩ v (S := fun k => k = g) rfl).trans (setCells_keeps g vs (o + 1) _) fun _ _ h => h
end
theorem Tryz.infoDRow : (Tryz.prog.info? 111).map (fun i => (i.zero, i.size, i.bytes)) = some (some (.agg #[.int .i64 0, .int .i64 0, .bool false, .slice none 0 0, .slice none 0 0, .slice none 0 0]), 6, 96) := by kernel_rfl
theorem Tryz.zeroRow (w' : World) : (zeroValue 111).run Tryz.prog w' = .ok (.agg #[.int .i64 0, .int .i64 0, .bool false, .slice none 0 0, .slice none 0 0, .slice none 0 0]) w' := by kernel_rfl
theorem zeroRow_one (n : Nat) : ∀ u ∈ (Builtin.zeroCells (Value.cells (.agg #[.int .i64 0, .int .i64 0, .bool false, .slice none 0 0, .slice none 0 0, .slice none 0 0])) n).toList, u.oneCell' = true := by
  intro u hu
  simp only [Builtin.zeroCells, Array.toList_map, List.mem_map] at hu
  obtain ⟨i, _, rfl⟩ := hu
  have e : (Value.cells (.agg #[.int .i64 0, .int .i64 0, .bool false, .slice none 0 0, .slice none 0 0, .slice none 0 0])) = #[.int .i64 0, .int .i64 0, .bool false, .slice none 0 0, .slice none 0 0, .slice none 0 0] := rfl
  rw [e]
  have h3 : i % 6 = 0 ∨ i % 6 = 1 ∨ i % 6 = 2 ∨ i % 6 = 3 ∨ i % 6 = 4 ∨ i % 6 = 5 := by omega
  rcases h3 with h | h | h | h | h | h <;> simp [h] <;> rfl
set_option maxRecDepth 100000 in
set_option maxHeartbeats 8000000 in
theorem delete_row (g o n cap i j : Nat) (xs : List Value) (w : World) (h : Mid w 0 111 6 (.slice (some ⟨g, o, none⟩) n cap) n xs) (h1 : ∀ u ∈ xs, u.oneCell' = true) (hi : i < n) (hj : j = i + 1) :
    Calls Tryz.prog 55 #[.slice (some ⟨g, o, none⟩) n cap, .int .i64 i, .int .i64 j] w fun e w' => e = .returned (.slice (some ⟨g, o, none⟩) (n - 1) cap) ∧ Mid w' 0 111 6 (.slice (some ⟨g, o, none⟩) (n - 1) cap) (n - 1) (xs.take (i * 6) ++ xs.drop (j * 6)) ∧ Keeps w w' (fun k => k = g) := by
  obtain ⟨i0, hi0, hz0, hz1, hz2⟩ := info_parts Tryz.infoDRow
  obtain ⟨_, _, _, _, _, hcap, hm⟩ : ∃ a b c d : Nat, True ∧ n ≤ cap ∧ cap ≤ maxLen := by
    obtain ⟨a, c, e, h1, h2, _⟩ := (Sl.ofMid h).len
    cases e
    exact ⟨0, 0, 0, 0, trivial, h1, h2⟩
  have hxl : xs.length = n * 6 := h.1
  obtain ⟨news, hnews⟩ : ∃ news, news = xs.drop (j * 6) := ⟨_, rfl⟩
  have hlen : news.length = (n - j) * 6 := by rw [hnews, List.length_drop, hxl]; omega
  obtain ⟨B, hB, hsrc⟩ : ∃ B : Addr, (if cap = j then some (⟨g, o, none⟩ : Addr) else some ⟨g, o + j * 6, none⟩) = some B ∧ Hid (∀ t u, news[t]? = some u → w.drew.cell? (B.add t) = some u) := by
    by_cases hc : cap = j
    · refine ⟨⟨g, o, none⟩, by simp [hc], fun t u hu => ?_⟩
      have h0 : news.length = 0 := by rw [hlen]; omega
      rw [List.length_eq_zero_iff.1 h0] at hu
      simp at hu
    · refine ⟨⟨g, o + j * 6, none⟩, by simp [hc], fun t u hu => ?_⟩
      rw [hnews, List.getElem?_drop] at hu
      have := h.cell (j * 6 + t) u hu
      rw [← Nat.add_assoc] at this
      rw [Addr.add_lit]
      exact this
  have s1 := Lib.hid hlen
  have s2 := Lib.hid (show ∀ u ∈ news, u.oneCell' = true from fun u hu => h1 u (List.mem_of_mem_drop (hnews ▸ hu)))
  have s3 : Hid (∀ t, t < news.length → (w.drew.cell? ⟨g, o + i * 6 + t, none⟩).isSome = true ∧ w.drew.frozen? ⟨g, o + i * 6 + t, none⟩ = false) := by
    intro t ht
    rw [hlen] at ht
    have hc := h.cell (i * 6 + t) _ (List.getElem?_eq_getElem (by omega))
    rw [← Nat.add_assoc] at hc
    exact ⟨by show (w.cell? _).isSome = true; rw [hc]; rfl, h.frozen (o + i * 6 + t)⟩
  obtain ⟨W1, hW1⟩ : ∃ W1, W1 = w.drew.setCells g (o + i * 6) news := ⟨_, rfl⟩
  have hM1 : Mid W1 0 111 6 (.slice (some ⟨g, o, none⟩) n cap) n (xs.take (i * 6) ++ news ++ xs.drop (i * 6 + news.length)) := by
    rw [hW1]
    exact Mid.storedN news _ _ (i * 6) h.drew (by omega)
  have hnm : i + (n - j) = n - 1 := by omega
  have hd := hM1.drop (n - 1) (by omega)
  obtain ⟨W2, hcl, hkp, hst⟩ := run_clear_mid (P := Tryz.prog) 90 (.agg #[.int .i64 0, .int .i64 0, .bool false, .slice none 0 0, .slice none 0 0, .slice none 0 0]) Tryz.underlying90 Tryz.zeroRow rfl (zeroRow_one _) hd (by omega)
  have hM2 := hst o (n - 1) cap _ (hM1.first (n - 1) (by omega)) (Nat.le_refl _)
  have hp : (xs.take (i * 6) ++ news ++ xs.drop (i * 6 + news.length)).take ((n - 1) * 6) = xs.take (i * 6) ++ xs.drop (j * 6) := by
    rw [List.take_append_of_le_length (by rw [List.length_append, List.length_take, hlen, hxl]; omega), List.take_of_length_le (by rw [List.length_append, List.length_take, hlen, hxl]; omega), hnews]
  rw [hp] at hM2
  have HM2 := Lib.hid hM2
  have HK := Lib.hid (show Keeps w W2 (fun k => k = g) by
    refine Keeps.trans (S2 := fun k => k = g) ?_ hkp fun _ _ h => h
    rw [hW1]
    exact (Keeps.drew w (fun k => k = g)).trans (S2 := fun k => k = g) (setCells_keeps g news (o + i * 6) w.drew) fun _ _ h => h)
  have hW : Hid (W1 = w.drew.setCells g (o + i * 6) news) := hW1
  have hic : i ≤ cap := by omega
  have hjc : j ≤ cap := by omega
  have hjn : j ≤ n := by omega
  have hne : ((i : Int) == (j : Int)) = false := beq_eq_false_iff_ne.2 (by omega)
  have hij : i ≤ j := by omega
  have hjp : j ≠ i := by omega
  have hnn : i + (n - j) ≤ n := by omega
  unfold maxLen at hm
  rw [← hnm] at hcl
  have hcx : ¬ cap = i + (n - j) := by omega
  clear hW1 hM1 hd hst hM2 hp hkp hnews hlen h
  have HNM := Lib.hid hnm
  clear hnm hj hxl
  go_enter Tryz.func55, Tryz.ntmps55
  go_wp2_with fail
  go_region_law? (refine step_append_room (by rfl) _ _ 90 (by rfl) 111 i0 6 Tryz.underlying90 hi0 hz1 g o i cap (by rfl) B (n - j) (cap - j) news (by rfl) s1.out hsrc.out s2.out (by omega) s3.out ?_; rw [← hW.out])
  go_wp2_with fail
  go_ret
  exact ⟨by rw [HNM.out]; rfl, HM2.out, HK.out⟩
theorem Tryz.infoDCol : (Tryz.prog.info? 113).map (fun i => (i.zero, i.size, i.bytes)) = some (some (.agg #[.int .i64 0, .bool false, .slice none 0 0, .slice none 0 0]), 4, 64) := by kernel_rfl
theorem Tryz.zeroCol (w' : World) : (zeroValue 113).run Tryz.prog w' = .ok (.agg #[.int .i64 0, .bool false, .slice none 0 0, .slice none 0 0]) w' := by kernel_rfl
theorem zeroCol_one (n : Nat) : ∀ u ∈ (Builtin.zeroCells (Value.cells (.agg #[.int .i64 0, .bool false, .slice none 0 0, .slice none 0 0])) n).toList, u.oneCell' = true := by
  intro u hu
  simp only [Builtin.zeroCells, Array.toList_map, List.mem_map] at hu
  obtain ⟨i, _, rfl⟩ := hu
  have e : (Value.cells (.agg #[.int .i64 0, .bool false, .slice none 0 0, .slice none 0 0])) = #[.int .i64 0, .bool false, .slice none 0 0, .slice none 0 0] := rfl
  rw [e]
  have h3 : i % 4 = 0 ∨ i % 4 = 1 ∨ i % 4 = 2 ∨ i % 4 = 3 := by omega
  rcases h3 with h | h | h | h <;> simp [h] <;> rfl
set_option maxRecDepth 100000 in
set_option maxHeartbeats 8000000 in
theorem delete_col (g o n cap i j : Nat) (xs : List Value) (w : World) (h : Mid w 0 113 4 (.slice (some ⟨g, o, none⟩) n cap) n xs) (h1 : ∀ u ∈ xs, u.oneCell' = true) (hi : i < n) (hj : j = i + 1) :
    Calls Tryz.prog 56 #[.slice (some ⟨g, o, none⟩) n cap, .int .i64 i, .int .i64 j] w fun e w' => e = .returned (.slice (some ⟨g, o, none⟩) (n - 1) cap) ∧ Mid w' 0 113 4 (.slice (some ⟨g, o, none⟩) (n - 1) cap) (n - 1) (xs.take (i * 4) ++ xs.drop (j * 4)) ∧ Keeps w w' (fun k => k = g) := by
  obtain ⟨i0, hi0, hz0, hz1, hz2⟩ := info_parts Tryz.infoDCol
  obtain ⟨_, _, _, _, _, hcap, hm⟩ : ∃ a b c d : Nat, True ∧ n ≤ cap ∧ cap ≤ maxLen := by
    obtain ⟨a, c, e, h1, h2, _⟩ := (Sl.ofMid h).len
    cases e
    exact ⟨0, 0, 0, 0, trivial, h1, h2⟩
  have hxl : xs.length = n * 4 := h.1
  obtain ⟨news, hnews⟩ : ∃ news, news = xs.drop (j * 4) := ⟨_, rfl⟩
  have hlen : news.length = (n - j) * 4 := by rw [hnews, List.length_drop, hxl]; omega
  obtain ⟨B, hB, hsrc⟩ : ∃ B : Addr, (if cap = j then some (⟨g, o, none⟩ : Addr) else some ⟨g, o + j * 4, none⟩) = some B ∧ Hid (∀ t u, news[t]? = some u → w.drew.cell? (B.add t) = some u) := by
    by_cases hc : cap = j
    · refine ⟨⟨g, o, none⟩, by simp [hc], fun t u hu => ?_⟩
      have h0 : news.length = 0 := by rw [hlen]; omega
      rw [List.length_eq_zero_iff.1 h0] at hu
      simp at hu
    · refine ⟨⟨g, o + j * 4, none⟩, by simp [hc], fun t u hu => ?_⟩
      rw [hnews, List.getElem?_drop] at hu
      have := h.cell (j * 4 + t) u hu
      rw [← Nat.add_assoc] at this
      rw [Addr.add_lit]
      exact this
  have s1 := Lib.hid hlen
  have s2 := Lib.hid (show ∀ u ∈ news, u.oneCell' = true from fun u hu => h1 u (List.mem_of_mem_drop (hnews ▸ hu)))
  have s3 : Hid (∀ t, t < news.length → (w.drew.cell? ⟨g, o + i * 4 + t, none⟩).isSome = true ∧ w.drew.frozen? ⟨g, o + i * 4 + t, none⟩ = false) := by
    intro t ht
    rw [hlen] at ht
    have hc := h.cell (i * 4 + t) _ (List.getElem?_eq_getElem (by omega))
    rw [← Nat.add_assoc] at hc
    exact ⟨by show (w.cell? _).isSome = true; rw [hc]; rfl, h.frozen (o + i * 4 + t)⟩
  obtain ⟨W1, hW1⟩ : ∃ W1, W1 = w.drew.setCells g (o + i * 4) news := ⟨_, rfl⟩
  have hM1 : Mid W1 0 113 4 (.slice (some ⟨g, o, none⟩) n cap) n (xs.take (i * 4) ++ news ++ xs.drop (i * 4 + news.length)) := by
    rw [hW1]
    exact Mid.storedN news _ _ (i * 4) h.drew (by omega)
  have hnm : i + (n - j) = n - 1 := by omega
  have hd := hM1.drop (n - 1) (by omega)
  obtain ⟨W2, hcl, hkp, hst⟩ := run_clear_mid (P := Tryz.prog) 91 (.agg #[.int .i64 0, .bool false, .slice none 0 0, .slice none 0 0]) Tryz.underlying91 Tryz.zeroCol rfl (zeroCol_one _) hd (by omega)
  have hM2 := hst o (n - 1) cap _ (hM1.first (n - 1) (by omega)) (Nat.le_refl _)
  have hp : (xs.take (i * 4) ++ news ++ xs.drop (i * 4 + news.length)).take ((n - 1) * 4) = xs.take (i * 4) ++ xs.drop (j * 4) := by
    rw [List.take_append_of_le_length (by rw [List.length_append, List.length_take, hlen, hxl]; omega), List.take_of_length_le (by rw [List.length_append, List.length_take, hlen, hxl]; omega), hnews]
  rw [hp] at hM2
  have HM2 := Lib.hid hM2
  have HK := Lib.hid (show Keeps w W2 (fun k => k = g) by
    refine Keeps.trans (S2 := fun k => k = g) ?_ hkp fun _ _ h => h
    rw [hW1]
    exact (Keeps.drew w (fun k => k = g)).trans (S2 := fun k => k = g) (setCells_keeps g news (o + i * 4) w.drew) fun _ _ h => h)
  have hW : Hid (W1 = w.drew.setCells g (o + i * 4) news) := hW1
  have hic : i ≤ cap := by omega
  have hjc : j ≤ cap := by omega
  have hjn : j ≤ n := by omega
  have hne : ((i : Int) == (j : Int)) = false := beq_eq_false_iff_ne.2 (by omega)
  have hij : i ≤ j := by omega
  have hjp : j ≠ i := by omega
  have hnn : i + (n - j) ≤ n := by omega
  unfold maxLen at hm
  rw [← hnm] at hcl
  have hcx : ¬ cap = i + (n - j) := by omega
  clear hW1 hM1 hd hst hM2 hp hkp hnews hlen h
  have HNM := Lib.hid hnm
  clear hnm hj hxl
  go_enter Tryz.func56, Tryz.ntmps56
  go_wp2_with fail
  go_region_law? (refine step_append_room (by rfl) _ _ 91 (by rfl) 113 i0 4 Tryz.underlying91 hi0 hz1 g o i cap (by rfl) B (n - j) (cap - j) news (by rfl) s1.out hsrc.out s2.out (by omega) s3.out ?_; rw [← hW.out])
  go_wp2_with fail
  go_ret
  exact ⟨by rw [HNM.out]; rfl, HM2.out, HK.out⟩
theorem Tryz.infoDVec : (Tryz.prog.info? 51).map (fun i => (i.zero, i.size, i.bytes)) = some (some (.agg #[.bool false, .slice none 0 0, .slice none 0 0]), 3, 56) := by kernel_rfl
theorem Tryz.zeroVec (w' : World) : (zeroValue 51).run Tryz.prog w' = .ok (.agg #[.bool false, .slice none 0 0, .slice none 0 0]) w' := by kernel_rfl
theorem zeroVec_one (n : Nat) : ∀ u ∈ (Builtin.zeroCells (Value.cells (.agg #[.bool false, .slice none 0 0, .slice none 0 0])) n).toList, u.oneCell' = true := by
  intro u hu
  simp only [Builtin.zeroCells, Array.toList_map, List.mem_map] at hu
  obtain ⟨i, _, rfl⟩ := hu
  have e : (Value.cells (.agg #[.bool false, .slice none 0 0, .slice none 0 0])) = #[.bool false, .slice none 0 0, .slice none 0 0] := rfl
  rw [e]
  have h3 : i % 3 = 0 ∨ i % 3 = 1 ∨ i % 3 = 2 := by omega
  rcases h3 with h | h | h <;> simp [h] <;> rfl
set_option maxRecDepth 100000 in
set_option maxHeartbeats 8000000 in
theorem delete_vec (g o n cap i j : Nat) (xs : List Value) (w : World) (h : Mid w 0 51 3 (.slice (some ⟨g, o, none⟩) n cap) n xs) (h1 : ∀ u ∈ xs, u.oneCell' = true) (hi : i < n) (hj : j = i + 1) :
    Calls Tryz.prog 57 #[.slice (some ⟨g, o, none⟩) n cap, .int .i64 i, .int .i64 j] w fun e w' => e = .returned (.slice (some ⟨g, o, none⟩) (n - 1) cap) ∧ Mid w' 0 51 3 (.slice (some ⟨g, o, none⟩) (n - 1) cap) (n - 1) (xs.take (i * 3) ++ xs.drop (j * 3)) ∧ Keeps w w' (fun k => k = g) := by
  obtain ⟨i0, hi0, hz0, hz1, hz2⟩ := info_parts Tryz.infoDVec
  obtain ⟨_, _, _, _, _, hcap, hm⟩ : ∃ a b c d : Nat, True ∧ n ≤ cap ∧ cap ≤ maxLen := by
    obtain ⟨a, c, e, h1, h2, _⟩ := (Sl.ofMid h).len
    cases e
    exact ⟨0, 0, 0, 0, trivial, h1, h2⟩
  have hxl : xs.length = n * 3 := h.1
  obtain ⟨news, hnews⟩ : ∃ news, news = xs.drop (j * 3) := ⟨_, rfl⟩
  have hlen : news.length = (n - j) * 3 := by rw [hnews, List.length_drop, hxl]; omega
  obtain ⟨B, hB, hsrc⟩ : ∃ B : Addr, (if cap = j then some (⟨g, o, none⟩ : Addr) else some ⟨g, o + j * 3, none⟩) = some B ∧ Hid (∀ t u, news[t]? = some u → w.drew.cell? (B.add t) = some u) := by
    by_cases hc : cap = j
    · refine ⟨⟨g, o, none⟩, by simp [hc], fun t u hu => ?_⟩
      have h0 : news.length = 0 := by rw [hlen]; omega
      rw [List.length_eq_zero_iff.1 h0] at hu
      simp at hu
    · refine ⟨⟨g, o + j * 3, none⟩, by simp [hc], fun t u hu => ?_⟩
      rw [hnews, List.getElem?_drop] at hu
      have := h.cell (j * 3 + t) u hu
      rw [← Nat.add_assoc] at this
      rw [Addr.add_lit]
      exact this
  have s1 := Lib.hid hlen
  have s2 := Lib.hid (show ∀ u ∈ news, u.oneCell' = true from fun u hu => h1 u (List.mem_of_mem_drop (hnews ▸ hu)))
  have s3 : Hid (∀ t, t < news.length → (w.drew.cell? ⟨g, o + i * 3 + t, none⟩).isSome = true ∧ w.drew.frozen? ⟨g, o + i * 3 + t, none⟩ = false) := by
    intro t ht
    rw [hlen] at ht
    have hc := h.cell (i * 3 + t) _ (List.getElem?_eq_getElem (by omega))
    rw [← Nat.add_assoc] at hc
    exact ⟨by show (w.cell? _).isSome = true; rw [hc]; rfl, h.frozen (o + i * 3 + t)⟩
  obtain ⟨W1, hW1⟩ : ∃ W1, W1 = w.drew.setCells g (o + i * 3) news := ⟨_, rfl⟩
  have hM1 : Mid W1 0 51 3 (.slice (some ⟨g, o, none⟩) n cap) n (xs.take (i * 3) ++ news ++ xs.drop (i * 3 + news.length)) := by
    rw [hW1]
    exact Mid.storedN news _ _ (i * 3) h.drew (by omega)
  have hnm : i + (n - j) = n - 1 := by omega
  have hd := hM1.drop (n - 1) (by omega)
  obtain ⟨W2, hcl, hkp, hst⟩ := run_clear_mid (P := Tryz.prog) 70 (.agg #[.bool false, .slice none 0 0, .slice none 0 0]) Tryz.underlying70 Tryz.zeroVec rfl (zeroVec_one _) hd (by omega)
  have hM2 := hst o (n - 1) cap _ (hM1.first (n - 1) (by omega)) (Nat.le_refl _)
  have hp : (xs.take (i * 3) ++ news ++ xs.drop (i * 3 + news.length)).take ((n - 1) * 3) = xs.take (i * 3) ++ xs.drop (j * 3) := by
    rw [List.take_append_of_le_length (by rw [List.length_append, List.length_take, hlen, hxl]; omega), List.take_of_length_le (by rw [List.length_append, List.length_take, hlen, hxl]; omega), hnews]
  rw [hp] at hM2
  have HM2 := Lib.hid hM2
  have HK := Lib.hid (show Keeps w W2 (fun k => k = g) by
    refine Keeps.trans (S2 := fun k => k = g) ?_ hkp fun _ _ h => h
    rw [hW1]
    exact (Keeps.drew w (fun k => k = g)).trans (S2 := fun k => k = g) (setCells_keeps g news (o + i * 3) w.drew) fun _ _ h => h)
  have hW : Hid (W1 = w.drew.setCells g (o + i * 3) news) := hW1
  have hic : i ≤ cap := by omega
  have hjc : j ≤ cap := by omega
  have hjn : j ≤ n := by omega
  have hne : ((i : Int) == (j : Int)) = false := beq_eq_false_iff_ne.2 (by omega)
  have hij : i ≤ j := by omega
  have hjp : j ≠ i := by omega
  have hnn : i + (n - j) ≤ n := by omega
  unfold maxLen at hm
  rw [← hnm] at hcl
  have hcx : ¬ cap = i + (n - j) := by omega
  clear hW1 hM1 hd hst hM2 hp hkp hnews hlen h
  have HNM := Lib.hid hnm
  clear hnm hj hxl
  go_enter Tryz.func57, Tryz.ntmps57
  go_wp2_with fail
  go_region_law? (refine step_append_room (by rfl) _ _ 70 (by rfl) 51 i0 3 Tryz.underlying70 hi0 hz1 g o i cap (by rfl) B (n - j) (cap - j) news (by rfl) s1.out hsrc.out s2.out (by omega) s3.out ?_; rw [← hW.out])
  go_wp2_with fail
  go_ret
  exact ⟨by rw [HNM.out]; rfl, HM2.out, HK.out⟩
end Go.Proofs.YtaehklhbokocbaaGreatDoor
namespace Go.Proofs.YtaehklhbokocbaaGreatDoor
open Go.RowKit Go.Extern.Stop Go.Stop Go.Extern
theorem flat_take {α : Type} (f : α → List Value) (n : Nat) (hn : ∀ x, (f x).length = n) : ∀ (l : List α) (k : Nat), (l.take k).flatMap f = (l.flatMap f).take (k * n)
  | [], k => by simp
  | x :: r, 0 => by simp
  | x :: r, k + 1 => by
    rw [List.take_succ_cons, List.flatMap_cons, List.flatMap_cons, flat_take f n hn r k]
    rw [show (k + 1) * n = (f x).length + k * n by rw [hn, Nat.succ_mul]; omega, List.take_length_add_append]
theorem flat_drop {α : Type} (f : α → List Value) (n : Nat) (hn : ∀ x, (f x).length = n) : ∀ (l : List α) (k : Nat), (l.drop k).flatMap f = (l.flatMap f).drop (k * n)
  | [], k => by simp
  | x :: r, 0 => by simp
  | x :: r, k + 1 => by
    rw [List.drop_succ_cons, List.flatMap_cons, flat_drop f n hn r k]
    rw [show (k + 1) * n = (f x).length + k * n by rw [hn, Nat.succ_mul]; omega, List.drop_length_add_append]
theorem flat_erase {α : Type} (f : α → List Value) (n : Nat) (hn : ∀ x, (f x).length = n) (l : List α) (k : Nat) : (l.eraseIdx k).flatMap f = (l.flatMap f).take (k * n) ++ (l.flatMap f).drop ((k + 1) * n) := by
  rw [List.eraseIdx_eq_take_drop_succ, List.flatMap_append, flat_take f n hn, flat_drop f n hn]
theorem colCells_one (cols : List Cl) : ∀ u ∈ cols.flatMap colCells, u.oneCell' = true := fun u hu => by
  obtain ⟨c, _, hc⟩ := List.mem_flatMap.1 hu
  simp only [colCells, List.mem_cons, List.not_mem_nil, or_false] at hc
  rcases hc with rfl | rfl | rfl | rfl <;> rfl
theorem rvCells_one (vs : List Rv) : ∀ u ∈ vs.flatMap Rv.cells, u.oneCell' = true := fun u hu => by
  obtain ⟨c, _, hc⟩ := List.mem_flatMap.1 hu
  simp only [Rv.cells, List.mem_cons, List.not_mem_nil, or_false] at hc
  rcases hc with rfl | rfl | rfl <;> rfl
section
variable {w : World} {sb : Nat} {G : Nat → Prop} {rows : List Rw} {cols : List Cl} {lr lc : Int} {b o rc cc : Nat} {ra ca : Option Addr}
theorem rowCells_one {hs : List Value} {rv cv : Value} (h : Box w sb 93 G hs (sPs rv cv rows cols)) : ∀ u ∈ rows.flatMap rowCells, u.oneCell' = true := fun u hu => by
  obtain ⟨r, hr, hc⟩ := List.mem_flatMap.1 hu
  obtain ⟨i, hi, rfl⟩ := List.mem_iff_getElem.1 hr
  have hm : Mid w 0 51 3 rows[i].cv rows[i].coef.length (rows[i].coef.flatMap Rv.cells) := h.mid (i + 2) (p := coefP rows[i]) (by simp [sPs, hi])
  obtain ⟨a, n, hv⟩ := hm.slice
  simp only [rowCells, hv, List.mem_cons, List.not_mem_nil, or_false] at hc
  rcases hc with rfl | rfl | rfl | rfl | rfl | rfl <;> rfl
theorem Nums.sub {rows' : List Rw} {cols' : List Cl} (h : Nums w rows cols) (h1 : ∀ r, r ∈ rows' → r ∈ rows) (h2 : ∀ c, c ∈ cols' → c ∈ cols) : Nums w rows' cols' :=
  ⟨fun r hr => h.rhs r (h1 r hr), fun r hr => h.coef r (h1 r hr), fun c hc => h.cost c (h2 c hc)⟩
theorem dropRow_world {w2 : World} (h : Box w sb 93 G [.slice (some ⟨b, o, none⟩) rows.length rc, .slice ca cols.length cc, .int .i64 lr, .int .i64 lc] (sPs (.slice (some ⟨b, o, none⟩) rows.length rc) (.slice ca cols.length cc) rows cols)) (k : Nat) (hk : k < rows.length)
    (hm : Mid w2 0 111 6 (.slice (some ⟨b, o, none⟩) (rows.length - 1) rc) (rows.length - 1) ((rows.flatMap rowCells).take (k * 6) ++ (rows.flatMap rowCells).drop ((k + 1) * 6))) (hkp : Keeps w w2 fun x => x = b) :
    BoxA w sb 93 G [.slice (some ⟨b, o, none⟩) (rows.eraseIdx k).length rc, .slice ca cols.length cc, .int .i64 lr, .int .i64 lc] (sPs (.slice (some ⟨b, o, none⟩) (rows.eraseIdx k).length rc) (.slice ca cols.length cc) (rows.eraseIdx k) cols) (w2.setCell ⟨sb, 0, none⟩ (.slice (some ⟨b, o, none⟩) (rows.length - 1) rc)) := by
  have hln : (rows.eraseIdx k).length = rows.length - 1 := List.length_eraseIdx_of_lt hk
  have hw := h.write 0 (p := (⟨.slice (some ⟨b, o, none⟩) rows.length rc, 111, 6, rows.length, rows.flatMap rowCells⟩ : Pc)) rfl (⟨.slice (some ⟨b, o, none⟩) (rows.length - 1) rc, 111, 6, rows.length - 1, (rows.eraseIdx k).flatMap rowCells⟩ : Pc) (hkp.mono fun x _ hx => by rw [hx]; rfl) (by rw [flat_erase rowCells 6 rowCells_len]; exact hm) fun x hx => .inl hx
  have hs := (hw.trans fun G2 hq2 => hq2.head 0 (.slice (some ⟨b, o, none⟩) (rows.length - 1) rc)).map fun G3 hq3 => hq3.erase (k + 2)
  have e : ((sPs (.slice (some ⟨b, o, none⟩) rows.length rc) (.slice ca cols.length cc) rows cols).set 0 (⟨.slice (some ⟨b, o, none⟩) (rows.length - 1) rc, 111, 6, rows.length - 1, (rows.eraseIdx k).flatMap rowCells⟩ : Pc)).eraseIdx (k + 2) = sPs (.slice (some ⟨b, o, none⟩) (rows.eraseIdx k).length rc) (.slice ca cols.length cc) (rows.eraseIdx k) cols := by
    simp only [sPs, List.set_cons_zero, List.eraseIdx_cons_succ, hln]
    simp only [List.eraseIdx_eq_take_drop_succ, List.map_append, List.map_take, List.map_drop]
  rw [e] at hs
  rw [hln] at hs ⊢
  exact hs
end
set_option maxRecDepth 100000 in
set_option maxHeartbeats 2000000 in
theorem dropRow_none (sb : Nat) (G : Nat → Prop) (rows : List Rw) (cols : List Cl) (lr lc id : Int) (w : World) (h : SS w sb G rows cols lr lc) (hh : ¬ rowAt rows id < rows.length) :
    Calls Tryz.prog 19 #[.pointer (some ⟨sb, 0, none⟩), .int .i64 id] w (FaultR w sRow 230 id .returned) := by
  have HA := Lib.hid (rowV_no hh ▸ rowAt_any sb G rows cols lr lc id _ h)
  clear h
  go_enter Tryz.func19, Tryz.ntmps19
  go_wp2_with fail
  refine HA.out.mono ?_
  rintro e w1 ⟨rfl, hb1⟩
  have HB1 := Lib.hid hb1
  clear hb1
  go_wp2_with fail
  refine (wrap_E 230 ⟨#[114, 111, 119]⟩ id _).mono ?_
  rintro e w2 ⟨rfl, hi, rfl⟩
  have HI := Lib.hid hi
  clear hi
  go_wp2
  go_ret
  exact ⟨_, rfl, HI.out, bthen HB1.out (belowBox _ _), HB1.out.size⟩
set_option maxRecDepth 100000 in
set_option maxHeartbeats 4000000 in
theorem dropRow_ok (sb : Nat) (G : Nat → Prop) (rows : List Rw) (cols : List Cl) (lr lc id : Int) (w : World) (h : SS w sb G rows cols lr lc) (hh : rowAt rows id < rows.length) :
    Calls Tryz.prog 19 #[.pointer (some ⟨sb, 0, none⟩), .int .i64 id] w fun e w' => e = .returned .nilIface ∧ StA w sb G (rows.eraseIdx (rowAt rows id)) cols lr lc w' := by
  have HA := Lib.hid (rowV_at hh ▸ rowAt_any sb G rows cols lr lc id _ h)
  have HS := Lib.hid h
  clear h
  generalize rowAt rows id = k at *
  go_enter Tryz.func19, Tryz.ntmps19
  go_wp2_with fail
  refine HA.out.mono ?_
  rintro e w1 ⟨rfl, hb1⟩
  obtain ⟨ra, ca, rc, cc, hq, hnw, hn⟩ := HS.out.below hb1
  have HB1 := Lib.hid hb1
  have hrm : Mid w1 0 111 6 (.slice ra rows.length rc) rows.length (rows.flatMap rowCells) := hq.mid 0 rfl
  obtain ⟨b, o, e1, hbl, z0, z1, z2, z3, z4, z5⟩ := row_get (Sl.ofMid hrm) k hh
  clear z0 z1 z2 z3 z4 z5
  subst e1
  have c0 := hq.cell 0 rfl
  have f0 := hq.free 0
  have hsl := lt_of_block hq.1
  have hne : sb ≠ b := fun e => (hq.foot 0 rfl b rfl).2 e.symm
  have i0 : (0 : Int) ≤ (k : Int) := by omega
  have hrl : rows.length ≤ 9223372036854775807 := (Sl.ofMid hrm).lenI.1
  have hd := delete_row b o rows.length rc k (k + 1) _ w1 hrm (rowCells_one hq) hh rfl
  rw [show ((k + 1 : Nat) : Int) = (k : Int) + 1 from rfl] at hd
  have HD := Lib.hid hd
  have HQ := Lib.hid hq
  have HNW := Lib.hid hnw
  have HN := Lib.hid hn
  clear hd hq hnw hn hrm hb1
  go_wp2_with fail
  refine HD.out.mono ?_
  rintro e w2 ⟨rfl, hm2, hk2⟩
  have c2 := (hk2.cell (a := ⟨sb, 0, none⟩) hsl hne).trans c0
  have f2 := (hk2.frozen (a := ⟨sb, 0, none⟩) hsl hne).trans f0
  have HM2 := Lib.hid hm2
  have HK2 := Lib.hid hk2
  clear hm2 hk2
  go_wp2
  go_ret
  exact ⟨rfl, StA.then_below HB1.out HS.out.lt (StA.of (dropRow_world HQ.out k hh HM2.out HK2.out) HNW.out (HN.out.sub (fun r hr => List.mem_of_mem_eraseIdx hr) fun _ h => h))⟩
end Go.Proofs.YtaehklhbokocbaaGreatDoor
namespace Go.Proofs.YtaehklhbokocbaaGreatDoor
open Go.RowKit
theorem lenW_denI (q : Rat) : lenW (q.den : Int).natAbs = lenW q.den := rfl
theorem rv_cmp (u v : Rv) (w : World) (hu : u.ok w) (hv : v.ok w) (su : u.small) (sv : v.small) : Calls Tryz.prog 92 #[.agg #[.bool u.s, .slice u.a u.l u.c, .slice u.b u.m u.d], .agg #[.bool v.s, .slice v.a v.l v.c, .slice v.b v.m v.d]] w fun e w' => e = .returned (.int .i64 (cmpR u.q v.q)) ∧ Below w.heap.size w w' := by
  have e1 := hu.val
  have e2 := hv.val
  unfold Rv.val at e1 e2
  rw [e1, e2]
  exact rcmp_any mul_upto_small u.q v.q u.a u.b v.a v.b u.c u.d v.c v.d w hu.num hu.den hv.num hv.den (by rw [lenW_denI]; have := su.1; have := sv.2; omega) (by rw [lenW_denI]; have := sv.1; have := su.2; omega)
theorem rv_same (u v : Rv) (w : World) (hu : u.ok w) (hv : v.ok w) (su : u.small) (sv : v.small) : Calls Tryz.prog 63 #[.agg #[.bool u.s, .slice u.a u.l u.c, .slice u.b u.m u.d], .agg #[.bool v.s, .slice v.a v.l v.c, .slice v.b v.m v.d]] w fun e w' => e = .returned (.bool (decide (u.q = v.q))) ∧ Below w.heap.size w w' := by
  have e1 := hu.val
  have e2 := hv.val
  unfold Rv.val at e1 e2
  rw [e1, e2]
  exact rsame_any mul_upto_small u.q v.q u.a u.b v.a v.b u.c u.d v.c v.d w hu.num hu.den hv.num hv.den (by rw [lenW_denI]; have := su.1; have := sv.2; omega) (by rw [lenW_denI]; have := sv.1; have := su.2; omega)
structure VecW (w : World) (a : Option Addr) (n c : Nat) (vs : List Rv) : Prop where
  len : vs.length = n
  sl : Sl w 3 (.slice a n c) n (vs.flatMap Rv.cells)
  ok : ∀ v, v ∈ vs → v.ok w
  small : ∀ v, v ∈ vs → v.small
theorem VecW.below {w w' : World} {a : Option Addr} {n c : Nat} {vs : List Rv} (h : VecW w a n c vs) (hb : Below w.heap.size w w') : VecW w' a n c vs := ⟨h.len, h.sl.below hb, fun v hv => (h.ok v hv).below hb, h.small⟩
theorem VecW.get {w : World} {a : Option Addr} {n c : Nat} {vs : List Rv} (h : VecW w a n c vs) (k : Nat) (hk : k < n) : ∃ b o v, a = some ⟨b, o, none⟩ ∧ vs[k]? = some v ∧ b < w.heap.size ∧ w.cell? ⟨b, o + k * 3, none⟩ = some (.bool v.s) ∧ w.cell? ⟨b, o + k * 3 + 1, none⟩ = some (.slice v.a v.l v.c) ∧ w.cell? ⟨b, o + k * 3 + 2, none⟩ = some (.slice v.b v.m v.d) ∧ v.ok w ∧ v.small := by
  obtain ⟨hl, hs, ho, hm⟩ := h
  subst hl
  obtain ⟨b, o, e, hb, h0, h1, h2⟩ := rv_get hs k hk
  exact ⟨b, o, vs[k], e, List.getElem?_eq_getElem hk, hb, h0, h1, h2, ho _ (List.getElem_mem hk), hm _ (List.getElem_mem hk)⟩
def sameQ (us vs : List Rv) : Prop := us.map (·.q) = vs.map (·.q)
instance (us vs : List Rv) : Decidable (sameQ us vs) := inferInstanceAs (Decidable (_ = _))
def CmpV (us vs : List Rv) (w : World) (e : Ending) (w' : World) : Prop := ∃ z : Int, e = .returned (.int .i64 z) ∧ (z == 0) = decide (sameQ us vs) ∧ Below w.heap.size w w'
theorem take_same {us vs : List Rv} {k : Nat} {u v : Rv} (h : (us.take k).map (·.q) = (vs.take k).map (·.q)) (hu : us[k]? = some u) (hv : vs[k]? = some v) (hq : u.q = v.q) : (us.take (k + 1)).map (·.q) = (vs.take (k + 1)).map (·.q) := by
  obtain ⟨h1, rfl⟩ := List.getElem?_eq_some_iff.1 hu
  obtain ⟨h2, rfl⟩ := List.getElem?_eq_some_iff.1 hv
  rw [List.take_succ_eq_append_getElem h1, List.take_succ_eq_append_getElem h2, List.map_append, List.map_append, h]
  simp [hq]
theorem not_same {us vs : List Rv} {k : Nat} {u v : Rv} (hu : us[k]? = some u) (hv : vs[k]? = some v) (hq : u.q ≠ v.q) : ¬ sameQ us vs := fun h => by
  have h1 : (us.map (·.q))[k]? = some u.q := by rw [List.getElem?_map, hu]; rfl
  have h2 : (vs.map (·.q))[k]? = some v.q := by rw [List.getElem?_map, hv]; rfl
  unfold sameQ at h
  rw [h, h2] at h1
  exact hq (Option.some.inj h1).symm
theorem same_len {us vs : List Rv} (h : sameQ us vs) : us.length = vs.length := by
  have := congrArg List.length h
  simpa using this
set_option maxRecDepth 100000 in
set_option maxHeartbeats 4000000 in
theorem vcmp_eq (a b : Option Addr) (m n c d : Nat) (us vs : List Rv) (w : World) (hu : VecW w a m c us) (hv : VecW w b n d vs) (hmn : m = n) : Calls Tryz.prog 93 #[.slice a m c, .slice b n d] w (CmpV us vs w) := by
  subst hmn
  have hm1 := hu.sl.lenI
  have hn1 := hv.sl.lenI
  have HU := Lib.hid hu
  have HV := Lib.hid hv
  clear hu hv
  go_enter Tryz.func93, Tryz.ntmps93
  go_wp2
  go_loopw [12] (fun iv wr => ∃ k : Nat, k ≤ m ∧ iv = .int .i64 k ∧ Below w.heap.size w wr ∧ (us.take k).map (·.q) = (vs.take k).map (·.q)) (fun iv _ => m - (intOf iv).toNat)
  case atStart => exact ⟨0, Nat.zero_le _, rfl, Below.refl _ _, rfl⟩
  case round =>
    obtain ⟨k, hk, rfl, hb, ht⟩ := hrel
    have hu := HU.out.below hb
    have hv := HV.out.below hb
    by_cases hlt : k < m
    · obtain ⟨b1, o1, u, rfl, eu, _, p0, p1, p2, uok, usm⟩ := hu.get k (by omega)
      obtain ⟨b2, o2, v, rfl, ev, _, q0, q1, q2, vok, vsm⟩ := hv.get k (by omega)
      have i0 : (0 : Int) ≤ (k : Int) := by omega
      have i1 : (k : Int) < (m : Int) := by omega
      have HC := Lib.hid (fun (W : World) (h : Below wr.heap.size wr W) => (rv_cmp u v W (uok.below h) (vok.below h) usm vsm))
      have HKS := Lib.hid (fun (W : World) (h : Below wr.heap.size wr W) => (⟨(h.cell (p := ⟨b1, o1 + k * 3, none⟩) (World.block_lt_of_cell? _ _ p0)).trans p0, (h.cell (p := ⟨b1, o1 + k * 3 + 1, none⟩) (World.block_lt_of_cell? _ _ p1)).trans p1, (h.cell (p := ⟨b1, o1 + k * 3 + 2, none⟩) (World.block_lt_of_cell? _ _ p2)).trans p2, (h.cell (p := ⟨b2, o2 + k * 3, none⟩) (World.block_lt_of_cell? _ _ q0)).trans q0, (h.cell (p := ⟨b2, o2 + k * 3 + 1, none⟩) (World.block_lt_of_cell? _ _ q1)).trans q1, (h.cell (p := ⟨b2, o2 + k * 3 + 2, none⟩) (World.block_lt_of_cell? _ _ q2)).trans q2⟩ :
        W.cell? ⟨b1, o1 + k * 3, none⟩ = some (.bool u.s) ∧ W.cell? ⟨b1, o1 + k * 3 + 1, none⟩ = some (.slice u.a u.l u.c) ∧ W.cell? ⟨b1, o1 + k * 3 + 2, none⟩ = some (.slice u.b u.m u.d) ∧ W.cell? ⟨b2, o2 + k * 3, none⟩ = some (.bool v.s) ∧ W.cell? ⟨b2, o2 + k * 3 + 1, none⟩ = some (.slice v.a v.l v.c) ∧ W.cell? ⟨b2, o2 + k * 3 + 2, none⟩ = some (.slice v.b v.m v.d)))
      have HDR := Lib.hid (Below.drawn wr 1)
      obtain ⟨z, hz⟩ : ∃ z, cmpR u.q v.q = z := ⟨_, rfl⟩
      rw [hz] at HC
      have HB := Lib.hid hb
      by_cases hq : u.q = v.q
      · have hz0 : z = 0 := by rw [← hz]; exact (cmpR_same _ _).2 hq
        subst hz0
        have HT := Lib.hid (take_same ht eu ev hq)
        clear hu hv p0 p1 p2 q0 q1 q2 uok vok usm vsm hz hq ht eu ev hb
        go_upto_region 4 with fail
        go_region_held3 (fun W => W.cell? ⟨b1, o1 + k * 3, none⟩ = some (.bool u.s) ∧ W.cell? ⟨b1, o1 + k * 3 + 1, none⟩ = some (.slice u.a u.l u.c) ∧ W.cell? ⟨b1, o1 + k * 3 + 2, none⟩ = some (.slice u.b u.m u.d) ∧ W.cell? ⟨b2, o2 + k * 3, none⟩ = some (.bool v.s) ∧ W.cell? ⟨b2, o2 + k * 3 + 1, none⟩ = some (.slice v.a v.l v.c) ∧ W.cell? ⟨b2, o2 + k * 3 + 2, none⟩ = some (.slice v.b v.m v.d)) (first | exact HKS.out _ HDR.out | exact HKS.out _ (by assumption)) (first
          | (go_at_call 92; refine (HC.out _ HDR.out).mono ?_; rintro e w1 ⟨rfl, hb1⟩; have hbb := bthen HDR.out hb1; have HB1 := Lib.hid hb1; clear hb1))
        all_goals
          go_wp2
          go_roundw
          case rel => exact ⟨k + 1, by omega, by go_num, bthen (bthen HB.out HDR.out) HB1.out, HT.out⟩
          case measure => simp [intOf]; omega
      · have hz0 : z ≠ 0 := by rw [← hz]; exact fun h => hq ((cmpR_same _ _).1 h)
        have hzb : (z != 0) = true := by simp [hz0]
        have HD := Lib.hid (show (z == 0) = decide (sameQ us vs) by rw [decide_eq_false (not_same eu ev hq)]; exact beq_eq_false_iff_ne.2 hz0)
        clear hu hv p0 p1 p2 q0 q1 q2 uok vok usm vsm hz hq ht eu ev hb hz0
        go_upto_region 4 with fail
        go_region_held3 (fun W => W.cell? ⟨b1, o1 + k * 3, none⟩ = some (.bool u.s) ∧ W.cell? ⟨b1, o1 + k * 3 + 1, none⟩ = some (.slice u.a u.l u.c) ∧ W.cell? ⟨b1, o1 + k * 3 + 2, none⟩ = some (.slice u.b u.m u.d) ∧ W.cell? ⟨b2, o2 + k * 3, none⟩ = some (.bool v.s) ∧ W.cell? ⟨b2, o2 + k * 3 + 1, none⟩ = some (.slice v.a v.l v.c) ∧ W.cell? ⟨b2, o2 + k * 3 + 2, none⟩ = some (.slice v.b v.m v.d)) (first | exact HKS.out _ HDR.out | exact HKS.out _ (by assumption)) (first
          | (go_at_call 92; refine (HC.out _ HDR.out).mono ?_; rintro e w1 ⟨rfl, hb1⟩; have hbb := bthen HDR.out hb1; have HB1 := Lib.hid hb1; clear hb1))
        all_goals
          go_wp2
          go_ret
          exact ⟨z, rfl, HD.out, bthen (bthen HB.out HDR.out) HB1.out⟩
    · obtain rfl : k = m := by omega
      have hs : sameQ us vs := by
        have e1 := hu.len
        have e2 := hv.len
        rw [← e1, List.take_length] at ht
        rw [show us.length = vs.length by omega, List.take_length] at ht
        exact ht
      have HD := Lib.hid (decide_eq_true hs)
      have HB := Lib.hid hb
      clear hu hv hb ht
      go_wp2
      go_ret
      exact ⟨0, rfl, by rw [HD.out]; rfl, HB.out⟩
set_option maxRecDepth 100000 in
set_option maxHeartbeats 4000000 in
theorem vcmp_lt (a b : Option Addr) (m n c d : Nat) (us vs : List Rv) (w : World) (hu : VecW w a m c us) (hv : VecW w b n d vs) (hmn : m < n) : Calls Tryz.prog 93 #[.slice a m c, .slice b n d] w (CmpV us vs w) := by
  have hm1 := hu.sl.lenI
  have hn1 := hv.sl.lenI
  have HU := Lib.hid hu
  have HV := Lib.hid hv
  clear hu hv
  go_enter Tryz.func93, Tryz.ntmps93
  go_wp2
  go_loopw [12] (fun iv wr => ∃ k : Nat, k ≤ m ∧ iv = .int .i64 k ∧ Below w.heap.size w wr ∧ (us.take k).map (·.q) = (vs.take k).map (·.q)) (fun iv _ => m - (intOf iv).toNat)
  case atStart => exact ⟨0, Nat.zero_le _, rfl, Below.refl _ _, rfl⟩
  case round =>
    obtain ⟨k, hk, rfl, hb, ht⟩ := hrel
    have hu := HU.out.below hb
    have hv := HV.out.below hb
    by_cases hlt : k < m
    · obtain ⟨b1, o1, u, rfl, eu, _, p0, p1, p2, uok, usm⟩ := hu.get k (by omega)
      obtain ⟨b2, o2, v, rfl, ev, _, q0, q1, q2, vok, vsm⟩ := hv.get k (by omega)
      have i0 : (0 : Int) ≤ (k : Int) := by omega
      have i1 : (k : Int) < (m : Int) := by omega
      have i2 : (k : Int) < (n : Int) := by omega
      have HC := Lib.hid (fun (W : World) (h : Below wr.heap.size wr W) => (rv_cmp u v W (uok.below h) (vok.below h) usm vsm))
      have HKS := Lib.hid (fun (W : World) (h : Below wr.heap.size wr W) => (⟨(h.cell (p := ⟨b1, o1 + k * 3, none⟩) (World.block_lt_of_cell? _ _ p0)).trans p0, (h.cell (p := ⟨b1, o1 + k * 3 + 1, none⟩) (World.block_lt_of_cell? _ _ p1)).trans p1, (h.cell (p := ⟨b1, o1 + k * 3 + 2, none⟩) (World.block_lt_of_cell? _ _ p2)).trans p2, (h.cell (p := ⟨b2, o2 + k * 3, none⟩) (World.block_lt_of_cell? _ _ q0)).trans q0, (h.cell (p := ⟨b2, o2 + k * 3 + 1, none⟩) (World.block_lt_of_cell? _ _ q1)).trans q1, (h.cell (p := ⟨b2, o2 + k * 3 + 2, none⟩) (World.block_lt_of_cell? _ _ q2)).trans q2⟩ :
        W.cell? ⟨b1, o1 + k * 3, none⟩ = some (.bool u.s) ∧ W.cell? ⟨b1, o1 + k * 3 + 1, none⟩ = some (.slice u.a u.l u.c) ∧ W.cell? ⟨b1, o1 + k * 3 + 2, none⟩ = some (.slice u.b u.m u.d) ∧ W.cell? ⟨b2, o2 + k * 3, none⟩ = some (.bool v.s) ∧ W.cell? ⟨b2, o2 + k * 3 + 1, none⟩ = some (.slice v.a v.l v.c) ∧ W.cell? ⟨b2, o2 + k * 3 + 2, none⟩ = some (.slice v.b v.m v.d)))
      have HDR := Lib.hid (Below.drawn wr 1)
      obtain ⟨z, hz⟩ : ∃ z, cmpR u.q v.q = z := ⟨_, rfl⟩
      rw [hz] at HC
      have HB := Lib.hid hb
      by_cases hq : u.q = v.q
      · have hz0 : z = 0 := by rw [← hz]; exact (cmpR_same _ _).2 hq
        subst hz0
        have HT := Lib.hid (take_same ht eu ev hq)
        clear hu hv p0 p1 p2 q0 q1 q2 uok vok usm vsm hz hq ht eu ev hb
        go_upto_region 4 with fail
        go_region_held3 (fun W => W.cell? ⟨b1, o1 + k * 3, none⟩ = some (.bool u.s) ∧ W.cell? ⟨b1, o1 + k * 3 + 1, none⟩ = some (.slice u.a u.l u.c) ∧ W.cell? ⟨b1, o1 + k * 3 + 2, none⟩ = some (.slice u.b u.m u.d) ∧ W.cell? ⟨b2, o2 + k * 3, none⟩ = some (.bool v.s) ∧ W.cell? ⟨b2, o2 + k * 3 + 1, none⟩ = some (.slice v.a v.l v.c) ∧ W.cell? ⟨b2, o2 + k * 3 + 2, none⟩ = some (.slice v.b v.m v.d)) (first | exact HKS.out _ HDR.out | exact HKS.out _ (by assumption)) (first
          | (go_at_call 92; refine (HC.out _ HDR.out).mono ?_; rintro e w1 ⟨rfl, hb1⟩; have hbb := bthen HDR.out hb1; have HB1 := Lib.hid hb1; clear hb1))
        all_goals
          go_wp2
          go_roundw
          case rel => exact ⟨k + 1, by omega, by go_num, bthen (bthen HB.out HDR.out) HB1.out, HT.out⟩
          case measure => simp [intOf]; omega
      · have hz0 : z ≠ 0 := by rw [← hz]; exact fun h => hq ((cmpR_same _ _).1 h)
        have hzb : (z != 0) = true := by simp [hz0]
        have HD := Lib.hid (show (z == 0) = decide (sameQ us vs) by rw [decide_eq_false (not_same eu ev hq)]; exact beq_eq_false_iff_ne.2 hz0)
        clear hu hv p0 p1 p2 q0 q1 q2 uok vok usm vsm hz hq ht eu ev hb hz0
        go_upto_region 4 with fail
        go_region_held3 (fun W => W.cell? ⟨b1, o1 + k * 3, none⟩ = some (.bool u.s) ∧ W.cell? ⟨b1, o1 + k * 3 + 1, none⟩ = some (.slice u.a u.l u.c) ∧ W.cell? ⟨b1, o1 + k * 3 + 2, none⟩ = some (.slice u.b u.m u.d) ∧ W.cell? ⟨b2, o2 + k * 3, none⟩ = some (.bool v.s) ∧ W.cell? ⟨b2, o2 + k * 3 + 1, none⟩ = some (.slice v.a v.l v.c) ∧ W.cell? ⟨b2, o2 + k * 3 + 2, none⟩ = some (.slice v.b v.m v.d)) (first | exact HKS.out _ HDR.out | exact HKS.out _ (by assumption)) (first
          | (go_at_call 92; refine (HC.out _ HDR.out).mono ?_; rintro e w1 ⟨rfl, hb1⟩; have hbb := bthen HDR.out hb1; have HB1 := Lib.hid hb1; clear hb1))
        all_goals
          go_wp2
          go_ret
          exact ⟨z, rfl, HD.out, bthen (bthen HB.out HDR.out) HB1.out⟩
    · obtain rfl : k = m := by omega
      have HD := Lib.hid (decide_eq_false (fun h : sameQ us vs => by have := same_len h; have := hu.len; have := hv.len; omega))
      have HB := Lib.hid hb
      clear hu hv hb ht
      go_wp2
      go_ret
      exact ⟨-1, rfl, by rw [HD.out]; rfl, HB.out⟩
set_option maxRecDepth 100000 in
set_option maxHeartbeats 4000000 in
theorem vcmp_gt (a b : Option Addr) (m n c d : Nat) (us vs : List Rv) (w : World) (hu : VecW w a m c us) (hv : VecW w b n d vs) (hmn : n < m) : Calls Tryz.prog 93 #[.slice a m c, .slice b n d] w (CmpV us vs w) := by
  have hm1 := hu.sl.lenI
  have hn1 := hv.sl.lenI
  have HU := Lib.hid hu
  have HV := Lib.hid hv
  clear hu hv
  go_enter Tryz.func93, Tryz.ntmps93
  go_wp2
  go_loopw [12] (fun iv wr => ∃ k : Nat, k ≤ n ∧ iv = .int .i64 k ∧ Below w.heap.size w wr ∧ (us.take k).map (·.q) = (vs.take k).map (·.q)) (fun iv _ => n - (intOf iv).toNat)
  case atStart => exact ⟨0, Nat.zero_le _, rfl, Below.refl _ _, rfl⟩
  case round =>
    obtain ⟨k, hk, rfl, hb, ht⟩ := hrel
    have hu := HU.out.below hb
    have hv := HV.out.below hb
    by_cases hlt : k < n
    · obtain ⟨b1, o1, u, rfl, eu, _, p0, p1, p2, uok, usm⟩ := hu.get k (by omega)
      obtain ⟨b2, o2, v, rfl, ev, _, q0, q1, q2, vok, vsm⟩ := hv.get k (by omega)
      have i0 : (0 : Int) ≤ (k : Int) := by omega
      have i1 : (k : Int) < (m : Int) := by omega
      have i2 : (k : Int) < (n : Int) := by omega
      have HC := Lib.hid (fun (W : World) (h : Below wr.heap.size wr W) => (rv_cmp u v W (uok.below h) (vok.below h) usm vsm))
      have HKS := Lib.hid (fun (W : World) (h : Below wr.heap.size wr W) => (⟨(h.cell (p := ⟨b1, o1 + k * 3, none⟩) (World.block_lt_of_cell? _ _ p0)).trans p0, (h.cell (p := ⟨b1, o1 + k * 3 + 1, none⟩) (World.block_lt_of_cell? _ _ p1)).trans p1, (h.cell (p := ⟨b1, o1 + k * 3 + 2, none⟩) (World.block_lt_of_cell? _ _ p2)).trans p2, (h.cell (p := ⟨b2, o2 + k * 3, none⟩) (World.block_lt_of_cell? _ _ q0)).trans q0, (h.cell (p := ⟨b2, o2 + k * 3 + 1, none⟩) (World.block_lt_of_cell? _ _ q1)).trans q1, (h.cell (p := ⟨b2, o2 + k * 3 + 2, none⟩) (World.block_lt_of_cell? _ _ q2)).trans q2⟩ :
        W.cell? ⟨b1, o1 + k * 3, none⟩ = some (.bool u.s) ∧ W.cell? ⟨b1, o1 + k * 3 + 1, none⟩ = some (.slice u.a u.l u.c) ∧ W.cell? ⟨b1, o1 + k * 3 + 2, none⟩ = some (.slice u.b u.m u.d) ∧ W.cell? ⟨b2, o2 + k * 3, none⟩ = some (.bool v.s) ∧ W.cell? ⟨b2, o2 + k * 3 + 1, none⟩ = some (.slice v.a v.l v.c) ∧ W.cell? ⟨b2, o2 + k * 3 + 2, none⟩ = some (.slice v.b v.m v.d)))
      have HDR := Lib.hid (Below.drawn wr 1)
      obtain ⟨z, hz⟩ : ∃ z, cmpR u.q v.q = z := ⟨_, rfl⟩
      rw [hz] at HC
      have HB := Lib.hid hb
      by_cases hq : u.q = v.q
      · have hz0 : z = 0 := by rw [← hz]; exact (cmpR_same _ _).2 hq
        subst hz0
        have HT := Lib.hid (take_same ht eu ev hq)
        clear hu hv p0 p1 p2 q0 q1 q2 uok vok usm vsm hz hq ht eu ev hb
        go_upto_region 4 with fail
        go_region_held3 (fun W => W.cell? ⟨b1, o1 + k * 3, none⟩ = some (.bool u.s) ∧ W.cell? ⟨b1, o1 + k * 3 + 1, none⟩ = some (.slice u.a u.l u.c) ∧ W.cell? ⟨b1, o1 + k * 3 + 2, none⟩ = some (.slice u.b u.m u.d) ∧ W.cell? ⟨b2, o2 + k * 3, none⟩ = some (.bool v.s) ∧ W.cell? ⟨b2, o2 + k * 3 + 1, none⟩ = some (.slice v.a v.l v.c) ∧ W.cell? ⟨b2, o2 + k * 3 + 2, none⟩ = some (.slice v.b v.m v.d)) (first | exact HKS.out _ HDR.out | exact HKS.out _ (by assumption)) (first
          | (go_at_call 92; refine (HC.out _ HDR.out).mono ?_; rintro e w1 ⟨rfl, hb1⟩; have hbb := bthen HDR.out hb1; have HB1 := Lib.hid hb1; clear hb1))
        all_goals
          go_wp2
          go_roundw
          case rel => exact ⟨k + 1, by omega, by go_num, bthen (bthen HB.out HDR.out) HB1.out, HT.out⟩
          case measure => simp [intOf]; omega
      · have hz0 : z ≠ 0 := by rw [← hz]; exact fun h => hq ((cmpR_same _ _).1 h)
        have hzb : (z != 0) = true := by simp [hz0]
        have HD := Lib.hid (show (z == 0) = decide (sameQ us vs) by rw [decide_eq_false (not_same eu ev hq)]; exact beq_eq_false_iff_ne.2 hz0)
        clear hu hv p0 p1 p2 q0 q1 q2 uok vok usm vsm hz hq ht eu ev hb hz0
        go_upto_region 4 with fail
        go_region_held3 (fun W => W.cell? ⟨b1, o1 + k * 3, none⟩ = some (.bool u.s) ∧ W.cell? ⟨b1, o1 + k * 3 + 1, none⟩ = some (.slice u.a u.l u.c) ∧ W.cell? ⟨b1, o1 + k * 3 + 2, none⟩ = some (.slice u.b u.m u.d) ∧ W.cell? ⟨b2, o2 + k * 3, none⟩ = some (.bool v.s) ∧ W.cell? ⟨b2, o2 + k * 3 + 1, none⟩ = some (.slice v.a v.l v.c) ∧ W.cell? ⟨b2, o2 + k * 3 + 2, none⟩ = some (.slice v.b v.m v.d)) (first | exact HKS.out _ HDR.out | exact HKS.out _ (by assumption)) (first
          | (go_at_call 92; refine (HC.out _ HDR.out).mono ?_; rintro e w1 ⟨rfl, hb1⟩; have hbb := bthen HDR.out hb1; have HB1 := Lib.hid hb1; clear hb1))
        all_goals
          go_wp2
          go_ret
          exact ⟨z, rfl, HD.out, bthen (bthen HB.out HDR.out) HB1.out⟩
    · obtain rfl : k = n := by omega
      have HD := Lib.hid (decide_eq_false (fun h : sameQ us vs => by have := same_len h; have := hu.len; have := hv.len; omega))
      have HB := Lib.hid hb
      clear hu hv hb ht
      go_wp2
      go_ret
      exact ⟨1, rfl, by rw [HD.out]; rfl, HB.out⟩
theorem vcmp_any (a b : Option Addr) (m n c d : Nat) (us vs : List Rv) (w : World) (hu : VecW w a m c us) (hv : VecW w b n d vs) : Calls Tryz.prog 93 #[.slice a m c, .slice b n d] w (CmpV us vs w) := by
  rcases Nat.lt_trichotomy m n with h | h | h
  · exact vcmp_lt a b m n c d us vs w hu hv h
  · exact vcmp_eq a b m n c d us vs w hu hv h
  · exact vcmp_gt a b m n c d us vs w hu hv h
set_option maxHeartbeats 1000000 in
theorem vsame_any (a b : Option Addr) (m n c d : Nat) (us vs : List Rv) (w : World) (hu : VecW w a m c us) (hv : VecW w b n d vs) : Calls Tryz.prog 68 #[.slice a m c, .slice b n d] w fun e w' => e = .returned (.bool (decide (sameQ us vs))) ∧ Below w.heap.size w w' := by
  have HC := Lib.hid (vcmp_any a b m n c d us vs w hu hv)
  obtain ⟨z2, hz2⟩ : ∃ z, decide (sameQ us vs) = z := ⟨_, rfl⟩
  have HZ := Lib.hid hz2
  rw [hz2]
  clear hu hv hz2
  go_enter Tryz.func68, Tryz.ntmps68
  go_wp2_with fail
  refine HC.out.mono ?_
  rintro e w1 ⟨z, rfl, hz, hb⟩
  rw [HZ.out] at hz
  have HB := Lib.hid hb
  have HZZ := Lib.hid hz
  clear hb hz
  go_wp2_with fail
  go_ret
  exact ⟨by rw [← HZZ.out]; rfl, HB.out⟩
set_option maxHeartbeats 1000000 in
theorem vcopy_any (a : Option Addr) (n c : Nat) (cs : List Value) (w : World) (h : Sl w 3 (.slice a n c) n cs) (h1 : ∀ u ∈ cs, u.oneCell' = true) (hn : n ≤ 1000000) : Calls Tryz.prog 62 #[.slice a n c] w (OwnR w 51 3 n cs) := by
  obtain ⟨tr, hi, hz0, hz1, hz2⟩ := info_parts Tryz.infoRat
  have HS := Lib.hid (h.src (P := Tryz.prog) Tryz.underlying70 h1)
  clear h h1
  go_enter Tryz.func62, Tryz.ntmps62
  go_wp2_with (at_builtin; refine wpList_append_mid (v := .slice none 0 0) rfl _ _ 70 70 rfl tr (.agg #[.bool false, .slice none 0 0, .slice none 0 0]) 56 Tryz.underlying70 hi hz0 hz1 hz2 rfl rfl (Mid.nil w w.heap.size 51 3) _ rfl n _ HS.out (by unfold maxLen; omega) (by omega) (Nat.le_refl _) ?_; intro a1 c1 w1 hmid hgrow hblk; have HM := Lib.hid hmid; have HG := Lib.hid hgrow; have HBL := Lib.hid hblk; clear hmid hgrow hblk)
  go_ret
  have hm := HM.out
  rw [Nat.zero_add, List.nil_append] at hm
  refine ⟨a1, c1, by simp, hm, ?_⟩
  exact (Below.refl w.heap.size w).grown HG.out (Nat.le_refl _) (fun k hk => by cases hk)
end Go.Proofs.YtaehklhbokocbaaGreatDoor
namespace Go.Proofs.YtaehklhbokocbaaGreatDoor
open Go.RowKit
def sizeQ (q : Rat) : Nat := if q = 0 then 0 else bitLen q.num.natAbs + bitLen q.den
theorem sizeQ_le {v : Rv} (h : v.small) : sizeQ v.q ≤ 192 := by
  unfold sizeQ
  split
  · omega
  · have h1 := bits_le v.q.num.natAbs
    have h2 := bits_le v.q.den
    have := h.1
    have := h.2
    omega
theorem rv_zero (v : Rv) (w : World) (h : v.ok w) : Calls Tryz.prog 88 #[.agg #[.bool v.s, .slice v.a v.l v.c, .slice v.b v.m v.d]] w fun e w' => e = .returned (.bool (decide (v.q = 0))) ∧ Below w.heap.size w w' := by
  rw [h.s, h.l]; exact rzero_any v.a v.b v.c v.d v.m v.q w
theorem rv_bits (v : Rv) (w : World) (h : v.ok w) (hs : v.small) : Calls Tryz.prog 89 #[.agg #[.bool v.s, .slice v.a v.l v.c, .slice v.b v.m v.d]] w fun e w' => e = .returned (.int .i64 ((bitLen v.q.num.natAbs + bitLen v.q.den : Nat) : Int)) ∧ Below w.heap.size w w' := by
  rw [h.l, h.m]; exact rbits_any v.s v.a v.b v.c v.d _ v.q w h.num h.den (by have := hs.1; omega) (by have := hs.2; omega)
set_option maxHeartbeats 2000000 in
theorem size_any (v : Rv) (w : World) (h : v.ok w) (hs : v.small) : Calls Tryz.prog 58 #[.agg #[.bool v.s, .slice v.a v.l v.c, .slice v.b v.m v.d]] w fun e w' => e = .returned (.int .i64 (sizeQ v.q)) ∧ Below w.heap.size w w' := by
  have hZ := rv_zero v _ (h.below (belowBox w (.cells #[.bool v.s, .slice v.a v.l v.c, .slice v.b v.m v.d] 51)))
  have HB := Lib.hid (fun (W : World) (q : v.ok W) => rv_bits v W q hs)
  have HV := Lib.hid (h.below (belowBox w (.cells #[.bool v.s, .slice v.a v.l v.c, .slice v.b v.m v.d] 51)))
  unfold sizeQ
  by_cases h0 : v.q = 0
  · rw [decide_eq_true h0] at hZ
    rw [if_pos h0]
    have HZ := Lib.hid hZ
    clear hZ h hs h0
    go_enter Tryz.func58, Tryz.ntmps58
    go_wp2_with fail
    refine HZ.out.mono ?_
    rintro e w1 ⟨rfl, hb⟩
    go_wp2_with fail
    go_ret
    exact ⟨rfl, bthen (belowBox _ _) hb⟩
  · rw [decide_eq_false h0] at hZ
    rw [if_neg h0]
    have HZ := Lib.hid hZ
    obtain ⟨x, hx⟩ : ∃ x, bitLen v.q.num.natAbs + bitLen v.q.den = x := ⟨_, rfl⟩
    rw [hx] at HB ⊢
    clear hZ h hs h0 hx
    go_enter Tryz.func58, Tryz.ntmps58
    go_wp2_with fail
    refine HZ.out.mono ?_
    rintro e w1 ⟨rfl, hb⟩
    obtain ⟨hc, _⟩ := bcell hb
    have k0 : w1.cell? ⟨w.heap.size, 0, none⟩ = some (.bool v.s) := (hc _ _ (by simp)).trans (by simp)
    have k1 : w1.cell? ⟨w.heap.size, 1, none⟩ = some (.slice v.a v.l v.c) := (hc _ _ (by simp)).trans (by simp)
    have k2 : w1.cell? ⟨w.heap.size, 2, none⟩ = some (.slice v.b v.m v.d) := (hc _ _ (by simp)).trans (by simp)
    have HB1 := Lib.hid hb
    have HB2 := Lib.hid (HB.out _ (HV.out.below hb))
    clear hb hc
    go_wp2_with fail
    refine HB2.out.mono ?_
    rintro e w2 ⟨rfl, hb2⟩
    go_wp2_with fail
    go_ret
    exact ⟨rfl, bthen (bthen (belowBox _ _) HB1.out) hb2⟩
def sumQ : List Rv → Nat
  | [] => 0
  | v :: r => sizeQ v.q + sumQ r
theorem sumQ_append (a b : List Rv) : sumQ (a ++ b) = sumQ a + sumQ b := by
  induction a with
  | nil => simp [sumQ]
  | cons v r ih => simp only [List.cons_append, sumQ, ih]; omega
theorem sumQ_take (l : List Rv) (k : Nat) (h : k < l.length) : sumQ (l.take (k + 1)) = sumQ (l.take k) + sizeQ l[k].q := by
  rw [List.take_succ_eq_append_getElem h, sumQ_append]; simp [sumQ]
theorem sumQ_le (l : List Rv) (h : ∀ v, v ∈ l → v.small) : sumQ l ≤ 192 * l.length := by
  induction l with
  | nil => simp [sumQ]
  | cons v r ih =>
    have h1 := sizeQ_le (h v (by simp))
    have h2 := ih fun v hv => h v (by simp [hv])
    simp only [sumQ, List.length_cons]
    omega
def sumRow (r : Rw) : Nat := sizeQ r.rhs.q + sumQ r.coef
def sumRows : List Rw → Nat
  | [] => 0
  | r :: l => sumRow r + sumRows l
theorem sumRows_append (a b : List Rw) : sumRows (a ++ b) = sumRows a + sumRows b := by
  induction a with
  | nil => simp [sumRows]
  | cons v r ih => simp only [List.cons_append, sumRows, ih]; omega
theorem sumRows_take (l : List Rw) (k : Nat) (h : k < l.length) : sumRows (l.take (k + 1)) = sumRows (l.take k) + sumRow l[k] := by
  rw [List.take_succ_eq_append_getElem h, sumRows_append]; simp [sumRows]
structure Few (rows : List Rw) (cols : List Cl) : Prop where
  nr : rows.length ≤ 4096
  nc : cols.length ≤ 4096
  len : ∀ r, r ∈ rows → r.coef.length ≤ 4096
  rhs : ∀ r, r ∈ rows → r.rhs.small
  coef : ∀ r, r ∈ rows → ∀ v, v ∈ r.coef → v.small
  cost : ∀ c, c ∈ cols → c.cost.small
theorem sumRow_le {r : Rw} (h1 : r.rhs.small) (h2 : ∀ v, v ∈ r.coef → v.small) (h3 : r.coef.length ≤ 4096) : sumRow r ≤ 786624 := by
  have := sizeQ_le h1
  have := sumQ_le _ h2
  unfold sumRow; omega
theorem sumRows_le (l : List Rw) (h : ∀ r, r ∈ l → sumRow r ≤ 786624) : sumRows l ≤ 786624 * l.length := by
  induction l with
  | nil => simp [sumRows]
  | cons v r ih =>
    have h1 := h v (by simp)
    have h2 := ih fun v hv => h v (by simp [hv])
    simp only [sumRows, List.length_cons]
    omega
def sumAll (rows : List Rw) (cols : List Cl) : Nat := sumQ (cols.map (·.cost)) + sumRows rows
theorem costs_get {cols : List Cl} {k : Nat} (h : k < cols.length) : (cols.map (·.cost))[k]'(by simpa using h) = cols[k].cost := by simp
set_option maxRecDepth 100000 in
set_option maxHeartbeats 8000000 in
theorem bits_any (sb : Nat) (G : Nat → Prop) (rows : List Rw) (cols : List Cl) (lr lc : Int) (w : World) (h : SS w sb G rows cols lr lc) (hf : Few rows cols) :
    Calls Tryz.prog 21 #[.pointer (some ⟨sb, 0, none⟩)] w fun e w' => e = .returned (.int .i64 (sumAll rows cols)) ∧ Below w.heap.size w w' := by
  obtain ⟨ra, ca, rc, cc, r⟩ := h.read
  have c1 := r.c1
  have HR := Lib.hid r
  have HN := Lib.hid h.nums
  have HF := Lib.hid hf
  have hncs := hf.nc
  have hnrs := hf.nr
  have hcs : sumQ (cols.map (·.cost)) ≤ 786432 := by
    have := sumQ_le (cols.map (·.cost)) fun v hv => by
      obtain ⟨c, hc, rfl⟩ := List.mem_map.1 hv; exact hf.cost c hc
    rw [List.length_map] at this
    omega
  obtain ⟨ct, hct⟩ : ∃ ct, ct = cols.map (·.cost) := ⟨_, rfl⟩
  have hctl : ct.length = cols.length := by rw [hct, List.length_map]
  have HCTL := Lib.hid hctl
  have HCT := Lib.hid hct
  obtain ⟨Z, hZ⟩ : ∃ Z, sumAll rows cols = Z := ⟨_, rfl⟩
  rw [hZ]
  have HZ := Lib.hid (show Z = sumQ ct + sumRows rows by rw [← hZ, hct]; rfl)
  rw [← hct] at hcs
  clear h r hf hct hZ hctl
  go_enter Tryz.func21, Tryz.ntmps21
  go_wp2
  go_loopw [3, 15] (fun nv iv wr => ∃ k : Nat, k ≤ cols.length ∧ iv = .int .i64 k ∧ nv = .int .i64 (sumQ (ct.take k)) ∧ Below w.heap.size w wr) (fun _ iv _ => cols.length - (intOf iv).toNat)
  case atStart => exact ⟨0, Nat.zero_le _, rfl, rfl, Below.refl _ _⟩
  case round =>
    obtain ⟨k, hk, rfl, rfl, hb⟩ := hrel
    by_cases hlt : k < cols.length
    · obtain ⟨b, o, e1, _, k0, k1, k2, k3⟩ := col_get (HR.out.below hb).cls k hlt
      have hst := sumQ_take ct k (by rw [HCTL.out]; exact hlt)
      have hv1 : ct[k]'(by rw [HCTL.out]; exact hlt) = cols[k].cost := by
        have := HCT.out
        subst this
        exact costs_get hlt
      rw [hv1] at hst
      have hok := (HN.out.cost _ (List.getElem_mem hlt)).below hb
      have hsm := HF.out.cost _ (List.getElem_mem hlt)
      have hle : sumQ (ct.take k) ≤ 786432 := by
        have := sumQ_le (ct.take k) fun v hv => by
          have hm := List.mem_of_mem_take hv
          rw [HCT.out] at hm
          obtain ⟨c, hc, rfl⟩ := List.mem_map.1 hm; exact HF.out.cost c hc
        have h2 : (ct.take k).length ≤ 4096 := by rw [List.length_take, HCTL.out]; omega
        omega
      have hle2 := sizeQ_le hsm
      generalize cols[k].id = ci at k0
      generalize cols[k].cost = v at k1 k2 k3 hst hok hsm hle2
      subst e1
      obtain ⟨n, hn⟩ : ∃ n, sumQ (ct.take k) = n := ⟨_, rfl⟩
      obtain ⟨z, hz⟩ : ∃ z, sizeQ v.q = z := ⟨_, rfl⟩
      have HSZ := Lib.hid (hz ▸ size_any v (wr.alloc (.cells #[.int .i64 ci, .bool v.s, .slice v.a v.l v.c, .slice v.b v.m v.d] 113)) (hok.below (belowBox _ _)) hsm)
      rw [hn, hz] at hst
      rw [hn] at hle ⊢
      rw [hz] at hle2
      have HST := Lib.hid hst
      have HB := Lib.hid hb
      have i0' : (0 : Int) ≤ (k : Int) := by omega
      have i1 : (k : Int) < (cols.length : Int) := by omega
      clear hst hok hsm hn hz hv1 hb c1
      go_wp2_with fail
      refine HSZ.out.mono ?_
      rintro e w1 ⟨rfl, hb1⟩
      have HB1 := Lib.hid (HB.out.trans (((belowBox _ _).trans (hb1.mono (belowBox _ _).size)).mono HB.out.size))
      clear hb1
      go_wp2_with fail
      go_roundw
      case rel => exact ⟨k + 1, by omega, by go_num, by rw [HST.out]; go_num, HB1.out⟩
      case measure => simp [intOf]; omega
    · obtain rfl : k = cols.length := by omega
      have e1 : ct.take cols.length = ct := by rw [← HCTL.out, List.take_length]
      rw [e1]
      obtain ⟨n0, hn0⟩ : ∃ n, sumQ ct = n := ⟨_, rfl⟩
      rw [hn0] at HZ hcs ⊢
      have HB := Lib.hid hb
      have c0 := (HR.out.below hb).c0
      clear hb e1 hn0 c1
      obtain ⟨wo, rfl⟩ : ∃ wo : World, wo = wr := ⟨_, rfl⟩
      go_wp2_with fail
      go_loopw [3, 30] (fun nv iv wr => ∃ k : Nat, k ≤ rows.length ∧ iv = .int .i64 k ∧ nv = .int .i64 ((n0 + sumRows (rows.take k) : Nat) : Int) ∧ Below w.heap.size w wr) (fun _ iv _ => rows.length - (intOf iv).toNat)
      case atStart => exact ⟨0, Nat.zero_le _, rfl, rfl, HB.out⟩
      case round =>
        obtain ⟨k, hk, rfl, rfl, hb⟩ := hrel
        by_cases hlt : k < rows.length
        · obtain ⟨wo2, rfl⟩ : ∃ wo2 : World, wo2 = wr := ⟨_, rfl⟩
          obtain ⟨b, o, e1, _, k0, k1, k2, k3, k4, k5⟩ := row_get (HR.out.below hb).rws k hlt
          have hst := sumRows_take rows k hlt
          have hok := (HN.out.rhs _ (List.getElem_mem hlt)).below hb
          have hoc := HN.out.coef _ (List.getElem_mem hlt)
          have hsm := HF.out.rhs _ (List.getElem_mem hlt)
          have hsc := HF.out.coef _ (List.getElem_mem hlt)
          have hlc := HF.out.len _ (List.getElem_mem hlt)
          have hcf := HR.out.coef _ (List.getElem_mem hlt)
          have hle : sumRows (rows.take k) ≤ 786624 * 4096 := by
            have h1 := sumRows_le (rows.take k) fun r hr => by
              have hm := List.mem_of_mem_take hr
              exact sumRow_le (HF.out.rhs r hm) (HF.out.coef r hm) (HF.out.len r hm)
            have h2 : (rows.take k).length ≤ 4096 := by rw [List.length_take]; omega
            omega
          generalize rows[k] = R at k0 k1 k2 k3 k4 k5 hst hok hoc hsm hsc hlc hcf
          obtain ⟨i1', kd, v, cv, cf⟩ := R
          simp only at k0 k1 k2 k3 k4 k5 hok hoc hsm hsc hlc hcf
          obtain ⟨ja, jc, rfl, _⟩ := hcf.len
          obtain ⟨jl, hjl⟩ : ∃ jl, jl = cf.length := ⟨_, rfl⟩
          obtain ⟨n, hn⟩ : ∃ n, n0 + sumRows (rows.take k) = n := ⟨_, rfl⟩
          obtain ⟨z, hz⟩ : ∃ z, sizeQ v.q = z := ⟨_, rfl⟩
          have hle2 := sizeQ_le hsm
          have hle3 := sumQ_le cf hsc
          have HSZ := Lib.hid (hz ▸ size_any v (wo2.alloc (.cells #[.int .i64 i1', .int .i64 kd, .bool v.s, .slice v.a v.l v.c, .slice v.b v.m v.d, .slice ja jl jc] 111)) (hok.below (belowBox _ _)) hsm)
          have hst2 : n0 + sumRows (rows.take (k + 1)) = n + z + sumQ cf := by rw [hst, ← hn, ← hz]; unfold sumRow; simp only; omega
          have hn2 : n ≤ 4294967296 := by omega
          rw [hn]
          rw [hz] at hle2
          rw [← hjl] at k5 hcf hlc
          have hle4 : sumQ cf ≤ 786432 := by rw [← hjl] at hle3; omega
          have HST := Lib.hid hst2
          have HB2 := Lib.hid hb
          have HCF := Lib.hid hcf
          have HOC := Lib.hid hoc
          have HSC := Lib.hid hsc
          have HJL := Lib.hid hjl
          subst e1
          have i0' : (0 : Int) ≤ (k : Int) := by omega
          have i1 : (k : Int) < (rows.length : Int) := by omega
          clear hst hst2 hok hoc hsm hsc hcf hn hz hb hjl hle hle3
          go_wp2_with fail
          refine HSZ.out.mono ?_
          rintro e w1 ⟨rfl, hb1⟩
          have m5 : w1.cell? ⟨wo2.heap.size, 5, none⟩ = some (.slice ja jl jc) := ((bcell hb1).1 _ _ (by simp)).trans (by simp)
          have HB1 := Lib.hid (HB2.out.trans (((belowBox _ _).trans (hb1.mono (belowBox _ _).size)).mono HB2.out.size))
          clear hb1
          go_wp2_with fail
          go_loopw [3, 42] (fun nv iv wr => ∃ j : Nat, j ≤ jl ∧ iv = .int .i64 j ∧ nv = .int .i64 ((n + z + sumQ (cf.take j) : Nat) : Int) ∧ Below w.heap.size w wr) (fun _ iv _ => jl - (intOf iv).toNat)
          case atStart => exact ⟨0, Nat.zero_le _, rfl, by simp [sumQ], HB1.out⟩
          case round =>
            obtain ⟨j, hj, rfl, rfl, hbj⟩ := hrel
            by_cases hltj : j < jl
            · have hltc : j < cf.length := by rw [← HJL.out]; exact hltj
              have hcf := HCF.out
              rw [HJL.out] at hcf
              obtain ⟨b2, o2, e2, hb2, q0, q1, q2⟩ := rv_get hcf j hltc
              have q0 := (hbj.cell (p := ⟨b2, o2 + j * 3, none⟩) hb2).trans q0
              have q1 := (hbj.cell (p := ⟨b2, o2 + j * 3 + 1, none⟩) hb2).trans q1
              have q2 := (hbj.cell (p := ⟨b2, o2 + j * 3 + 2, none⟩) hb2).trans q2
              have hst := sumQ_take cf j hltc
              have hok := (HOC.out _ (List.getElem_mem hltc)).below hbj
              have hsm := HSC.out _ (List.getElem_mem hltc)
              have hle3 : sumQ (cf.take j) ≤ 786432 := by
                have := sumQ_le (cf.take j) fun v hv => HSC.out v (List.mem_of_mem_take hv)
                have h2 : (cf.take j).length ≤ 4096 := by rw [List.length_take]; have := HJL.out; omega
                omega
              generalize cf[j] = v2 at q0 q1 q2 hst hok hsm
              subst e2
              obtain ⟨n2, hn2'⟩ : ∃ n2, n + z + sumQ (cf.take j) = n2 := ⟨_, rfl⟩
              obtain ⟨z2, hz2⟩ : ∃ z2, sizeQ v2.q = z2 := ⟨_, rfl⟩
              have hle5 := sizeQ_le hsm
              have HSZ2 := Lib.hid (hz2 ▸ size_any v2 (wr.alloc (.cells #[.bool v2.s, .slice v2.a v2.l v2.c, .slice v2.b v2.m v2.d] 51)) (hok.below (belowBox _ _)) hsm)
              have HST2 := Lib.hid (show n + z + sumQ (cf.take (j + 1)) = n2 + z2 by rw [hst, ← hn2', ← hz2]; omega)
              have hn3 : n2 ≤ 8589934592 := by omega
              rw [hn2']
              rw [hz2] at hle5
              have HBJ := Lib.hid hbj
              have j0 : (0 : Int) ≤ (j : Int) := by omega
              have j1 : (j : Int) < (jl : Int) := by omega
              clear hst hok hsm hcf hn2' hz2 hbj hle3 c0 m5
              go_wp2_with fail
              refine HSZ2.out.mono ?_
              rintro e w2 ⟨rfl, hb2⟩
              have HB3 := Lib.hid (HBJ.out.trans (((belowBox _ _).trans (hb2.mono (belowBox _ _).size)).mono HBJ.out.size))
              clear hb2
              go_wp2_with fail
              go_roundw
              case rel => exact ⟨j + 1, by omega, by go_num, by rw [HST2.out]; go_num, HB3.out⟩
              case measure => simp [intOf]; omega
            · obtain rfl : j = jl := by omega
              have e2 : cf.take j = cf := by rw [HJL.out, List.take_length]
              rw [e2]
              obtain ⟨y, hy⟩ : ∃ y, n + z + sumQ cf = y := ⟨_, rfl⟩
              rw [hy] at HST ⊢
              have HBJ := Lib.hid hbj
              clear hbj e2 hy c0 m5
              go_wp2_with fail
              go_roundw
              case rel => exact ⟨k + 1, by omega, by go_num, by rw [HST.out], HBJ.out⟩
              case measure => simp [intOf]; omega
        · obtain rfl : k = rows.length := by omega
          rw [List.take_length]
          have HB2 := Lib.hid hb
          clear hb c0
          go_wp2_with fail
          go_ret
          exact ⟨by rw [HZ.out]; rfl, HB2.out⟩
end Go.Proofs.YtaehklhbokocbaaGreatDoor
