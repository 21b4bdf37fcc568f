/-
  What the laws stand on, part L: contracts and plain laws of PMake, PPrP, PRight, PPCopy, PSameP, PPrSet; the conditions are each law's own.
-/
import Derived.Test.YtndndfobkbeolaaUS
import Derived.Deep.DeepCutAuto
import Derived.Test.YtndndfobkbeolaaUV
set_option linter.unusedVariables false
set_option linter.unusedSimpArgs false
namespace Go.Proofs.Ytndndfobkbeolaa
open Go.RowKit Go.Extern.Stop Go.Stop Go.Extern
theorem Try.infoPRow : (Try.prog.info? 45).map (fun i => (i.zero, i.size, i.bytes)) = some (some (.agg #[.slice none 0 0, .int .i64 0, .bool false, .slice none 0 0, .slice none 0 0]), 5, 88) := by kernel_rfl
theorem frCells_len (v : Fr) : (frCells v).length = 2 := rfl
structure FrW (w : World) (a : Option Addr) (n c : Nat) (fs : List Fr) : Prop where
  len : fs.length = n
  sl : Sl w 2 (.slice a n c) n (fs.flatMap frCells)
  ok : ∀ v, v ∈ fs → I64 v.1 ∧ I64 v.2
theorem FrW.below {w w' : World} {a : Option Addr} {n c : Nat} {fs : List Fr} (h : FrW w a n c fs) (hb : Below w.heap.size w w') : FrW w' a n c fs := ⟨h.len, h.sl.below hb, h.ok⟩
theorem FrW.get {w : World} {a : Option Addr} {n c : Nat} {fs : List Fr} (h : FrW w a n c fs) (k : Nat) (hk : k < n) : ∃ b o v, a = some ⟨b, o, none⟩ ∧ fs[k]? = some v ∧ w.cell? ⟨b, o + k * 2, none⟩ = some (.int .i64 v.1) ∧ w.cell? ⟨b, o + k * 2 + 1, none⟩ = some (.int .i64 v.2) ∧ I64 v.1 ∧ I64 v.2 := by
  obtain ⟨hl, hs, ho⟩ := h
  subst hl
  obtain ⟨b, o, c', e, h1, h2, h3, h4⟩ := hs.plain (by omega)
  cases e
  have hc := fun j u hj => h4 _ u (flat_at frCells 2 frCells_len fs k hk j u hj)
  have c0 := hc 0 _ rfl
  have c1 := hc 1 _ rfl
  simp only [← Nat.add_assoc, Nat.add_zero] at c0 c1
  exact ⟨b, o, fs[k], rfl, List.getElem?_eq_getElem hk, c0, c1, (ho _ (List.getElem_mem hk)).1, (ho _ (List.getElem_mem hk)).2⟩
structure LRow where
  a : Option Addr
  n : Nat
  c : Nat
  fs : List Fr
  kind : Int
  rhs : Fr
def lineCells (r : LRow) : List Value := [.slice r.a r.n r.c, .int .i64 r.kind, .int .i64 r.rhs.1, .int .i64 r.rhs.2]
theorem lineCells_len (r : LRow) : (lineCells r).length = 4 := rfl
structure LRow.ok (w : World) (r : LRow) : Prop where
  fr : FrW w r.a r.n r.c r.fs
  kind : I64 r.kind
  rhs : I64 r.rhs.1 ∧ I64 r.rhs.2
structure RawW (w : World) (ca : Option Addr) (cn cc : Nat) (ra : Option Addr) (rn rc : Nat) (cost : List Fr) (lines : List LRow) : Prop where
  cost : FrW w ca cn cc cost
  len : lines.length = rn
  sl : Sl w 4 (.slice ra rn rc) rn (lines.flatMap lineCells)
  ok : ∀ r, r ∈ lines → r.ok w
theorem RawW.below {w w' : World} {ca : Option Addr} {cn cc : Nat} {ra : Option Addr} {rn rc : Nat} {cost : List Fr} {lines : List LRow} (h : RawW w ca cn cc ra rn rc cost lines) (hb : Below w.heap.size w w') : RawW w' ca cn cc ra rn rc cost lines :=
  ⟨h.cost.below hb, h.len, h.sl.below hb, fun r hr => ⟨(h.ok r hr).fr.below hb, (h.ok r hr).kind, (h.ok r hr).rhs⟩⟩
theorem RawW.get {w : World} {ca : Option Addr} {cn cc : Nat} {ra : Option Addr} {rn rc : Nat} {cost : List Fr} {lines : List LRow} (h : RawW w ca cn cc ra rn rc cost lines) (k : Nat) (hk : k < rn) :
    ∃ b o r, ra = some ⟨b, o, none⟩ ∧ lines[k]? = some r ∧ w.cell? ⟨b, o + k * 4, none⟩ = some (.slice r.a r.n r.c) ∧ w.cell? ⟨b, o + k * 4 + 1, none⟩ = some (.int .i64 r.kind) ∧ w.cell? ⟨b, o + k * 4 + 2, none⟩ = some (.int .i64 r.rhs.1) ∧ w.cell? ⟨b, o + k * 4 + 3, none⟩ = some (.int .i64 r.rhs.2) ∧ r.ok w := by
  obtain ⟨_, hl, hs, ho⟩ := h
  subst hl
  obtain ⟨b, o, c', e, h1, h2, h3, h4⟩ := hs.plain (by omega)
  cases e
  have hc := fun j u hj => h4 _ u (flat_at lineCells 4 lineCells_len lines k hk j u hj)
  have c0 := hc 0 _ rfl
  have c1 := hc 1 _ rfl
  have c2 := hc 2 _ rfl
  have c3 := hc 3 _ rfl
  simp only [← Nat.add_assoc, Nat.add_zero] at c0 c1 c2 c3
  exact ⟨b, o, lines[k], rfl, List.getElem?_eq_getElem hk, c0, c1, c2, c3, ho _ (List.getElem_mem hk)⟩
def ApartS (a : Option Addr) (n c : Nat) (a' : Option Addr) (n' c' : Nat) : Prop := ∀ z, (Value.slice a n c).ownBlock = some z → (Value.slice a' n' c').ownBlock ≠ some z
structure PrB (w0 : World) (ca : Option Addr) (cn cc : Nat) (ra : Option Addr) (rn rc : Nat) (cs : List Rv) (rows : List PRow) (W : World) : Prop where
  cost : VB w0 (qs cs) ca cn cc cs W
  mid : Mid W w0.heap.size 45 5 (.slice ra rn rc) rn (rows.flatMap prowCells)
  len : rows.length = rn
  ok : ∀ r, r ∈ rows → VB w0 (qs r.coef) r.a r.n r.c r.coef W ∧ r.rhs.ok W ∧ I64 r.kind ∧ ApartS r.a r.n r.c ca cn cc
  nod : rows.Pairwise fun r s => ApartS r.a r.n r.c s.a s.n s.c
  bel : Below w0.heap.size w0 W
section
variable {w0 W W' : World} {ca : Option Addr} {cn cc : Nat} {ra : Option Addr} {rn rc : Nat} {cs : List Rv} {rows : List PRow} {S : Nat → Prop}
theorem PrB.call (h : PrB w0 ca cn cc ra rn rc cs rows W) (hb : Below W.heap.size W W') : PrB w0 ca cn cc ra rn rc cs rows W' :=
  ⟨h.cost.call hb, mid_under h.mid hb, h.len, fun r hr => ⟨(h.ok r hr).1.call hb, (h.ok r hr).2.1.below hb, (h.ok r hr).2.2⟩, h.nod, bthen h.bel hb⟩
theorem PrB.foreign {U : TypeId} (h : PrB w0 ca cn cc ra rn rc cs rows W) (hf : Foreign W w0.heap.size U S) (hk : Keeps W W' S) (h1 : 40 ≠ U) (h2 : 45 ≠ U) (h3 : U ≠ 128) : PrB w0 ca cn cc ra rn rc cs rows W' :=
  ⟨h.cost.foreign hf hk h1 h3, hf.mids hk h2 h.mid, h.len, fun r hr => ⟨(h.ok r hr).1.foreign hf hk h1 h3, hf.rv hk h3 (h.ok r hr).2.1, (h.ok r hr).2.2⟩, h.nod, h.bel.trans (hk.below h.bel.size hf.ge)⟩
theorem PrB.prw (h : PrB w0 ca cn cc ra rn rc cs rows W) : PrW W ca cn cc ra rn rc cs rows := ⟨h.cost.vec, h.len, Sl.ofMid h.mid, fun r hr => ⟨(h.ok r hr).1.vec, (h.ok r hr).2.1, (h.ok r hr).2.2.1⟩⟩
theorem PrB.lts (h : PrB w0 ca cn cc ra rn rc cs rows W) : ∀ r, r ∈ rows → ∀ z, (Value.slice r.a r.n r.c).ownBlock = some z → z < W.heap.size := fun r hr z hz => ((h.ok r hr).1.mid.lt z hz).2
theorem PrB.ltc (h : PrB w0 ca cn cc ra rn rc cs rows W) : ∀ z, (Value.slice ca cn cc).ownBlock = some z → z < W.heap.size := fun z hz => (h.cost.mid.lt z hz).2
theorem PrB.push (h : PrB w0 ca cn cc ra rn rc cs rows W) {ob : Obj} {r : PRow} {a' : Option Addr} {c' : Nat} (hv : VB w0 (qs r.coef) r.a r.n r.c r.coef W) (hr : r.rhs.ok W) (hk : I64 r.kind)
    (hn : ∀ z, (Value.slice r.a r.n r.c).ownBlock = some z → ∀ q, q ∈ rows → (Value.slice q.a q.n q.c).ownBlock ≠ some z) (hc : ∀ z, (Value.slice r.a r.n r.c).ownBlock = some z → (Value.slice ca cn cc).ownBlock ≠ some z)
    (hm : Mid W' w0.heap.size 45 5 (.slice a' (rn + 1) c') (rn + 1) (rows.flatMap prowCells ++ prowCells r)) (hg : (W.alloc ob).grownBy W' (Value.slice ra rn rc).ownBlock) : PrB w0 ca cn cc a' (rn + 1) c' cs (rows ++ [r]) W' := by
  have hkp := grown_keeps hg
  have hf := Foreign.mid h.mid
  refine ⟨h.cost.foreign hf hkp (by decide) (by decide), by rw [List.flatMap_append]; simpa using hm, by rw [List.length_append, h.len]; rfl, fun q hq => ?_, List.pairwise_append.2 ⟨h.nod, List.pairwise_singleton _ _, fun x hx y hy => ?_⟩, h.bel.trans (hkp.below h.bel.size hf.ge)⟩
  · rcases List.mem_append.1 hq with hq | hq
    · exact ⟨(h.ok q hq).1.foreign hf hkp (by decide) (by decide), hf.rv hkp (by decide) (h.ok q hq).2.1, (h.ok q hq).2.2⟩
    · rw [List.mem_singleton.1 hq]
      exact ⟨hv.foreign hf hkp (by decide) (by decide), hf.rv hkp (by decide) hr, hk, hc⟩
  · rw [List.mem_singleton.1 hy]
    exact fun z hz e => hn z e x hx hz
end
def prowQ (r : PRow) : List Rat × Int × Rat := (qs r.coef, r.kind, r.rhs.q)
end Go.Proofs.Ytndndfobkbeolaa
namespace Go.Proofs.Ytndndfobkbeolaa
open Go.RowKit Go.Extern.Stop Go.Stop Go.Extern
section
variable {w0 W W' : World} {l : List Rat} {a : Option Addr} {n c : Nat} {vs : List Rv} {S : Nat → Prop}
theorem VB.keeps (h : VB w0 l a n c vs W) (hk : Keeps W W' S) (hn : ∀ z, (Value.slice a n c).ownBlock = some z → ¬ S z) (hw : ∀ z, S z → ¬ WordB W z) (hg : ∀ z, S z → w0.heap.size ≤ z) : VB w0 l a n c vs W' :=
  ⟨h.mid.keeps hk hn, h.len, fun v hv => (h.ok v hv).keeps hk hw, h.q, h.bel.trans (hk.below h.bel.size hg)⟩
end
structure PrP (w0 : World) (ca : Option Addr) (cn cc : Nat) (cs : List Rv) (rows : List PRow) (W : World) : Prop where
  cost : VB w0 (qs cs) ca cn cc cs W
  ok : ∀ r, r ∈ rows → VB w0 (qs r.coef) r.a r.n r.c r.coef W ∧ r.rhs.ok W ∧ I64 r.kind ∧ ApartS r.a r.n r.c ca cn cc
  nod : rows.Pairwise fun r s => ApartS r.a r.n r.c s.a s.n s.c
  bel : Below w0.heap.size w0 W
section
variable {w0 W W' : World} {ca : Option Addr} {cn cc : Nat} {ra : Option Addr} {rn rc : Nat} {cs : List Rv} {rows : List PRow} {S : Nat → Prop}
theorem PrB.p (h : PrB w0 ca cn cc ra rn rc cs rows W) : PrP w0 ca cn cc cs rows W := ⟨h.cost, h.ok, h.nod, h.bel⟩
theorem PrP.b (h : PrP w0 ca cn cc cs rows W) (hm : Mid W w0.heap.size 45 5 (.slice ra rn rc) rn (rows.flatMap prowCells)) (hl : rows.length = rn) : PrB w0 ca cn cc ra rn rc cs rows W := ⟨h.cost, hm, hl, h.ok, h.nod, h.bel⟩
theorem PrP.call (h : PrP w0 ca cn cc cs rows W) (hb : Below W.heap.size W W') : PrP w0 ca cn cc cs rows W' :=
  ⟨h.cost.call hb, fun r hr => ⟨(h.ok r hr).1.call hb, (h.ok r hr).2.1.below hb, (h.ok r hr).2.2⟩, h.nod, bthen h.bel hb⟩
theorem PrP.foreign {U : TypeId} (h : PrP w0 ca cn cc cs rows W) (hf : Foreign W w0.heap.size U S) (hk : Keeps W W' S) (h1 : 40 ≠ U) (h3 : U ≠ 128) : PrP w0 ca cn cc cs rows W' :=
  ⟨h.cost.foreign hf hk h1 h3, fun r hr => ⟨(h.ok r hr).1.foreign hf hk h1 h3, hf.rv hk h3 (h.ok r hr).2.1, (h.ok r hr).2.2⟩, h.nod, h.bel.trans (hk.below h.bel.size hf.ge)⟩
theorem ApartS.symm {a a' : Option Addr} {n c n' c' : Nat} (h : ApartS a n c a' n' c') : ApartS a' n' c' a n c := fun z h1 h2 => h z h2 h1
theorem PrP.apart (h : PrP w0 ca cn cc cs rows W) {i j : Nat} {r s : PRow} (hi : rows[i]? = some r) (hj : rows[j]? = some s) (hne : i ≠ j) : ApartS r.a r.n r.c s.a s.n s.c := by
  obtain ⟨hi1, hi2⟩ := List.getElem?_eq_some_iff.1 hi
  obtain ⟨hj1, hj2⟩ := List.getElem?_eq_some_iff.1 hj
  have hp := List.pairwise_iff_getElem.1 h.nod
  rcases Nat.lt_or_gt_of_ne hne with hlt | hlt
  · have := hp i j hi1 hj1 hlt; rw [hi2, hj2] at this; exact this
  · have := hp j i hj1 hi1 hlt; rw [hi2, hj2] at this; exact this.symm
end
end Go.Proofs.Ytndndfobkbeolaa
namespace Go.Proofs.Ytndndfobkbeolaa
open Go.RowKit Go.Extern.Stop Go.Stop Go.Extern
theorem PrB.rebase {w w1 W : World} {ca : Option Addr} {cn cc : Nat} {ra : Option Addr} {rn rc : Nat} {cs : List Rv} {rows : List PRow} (h : PrB w1 ca cn cc ra rn rc cs rows W) (hb : Below w.heap.size w w1) : PrB w ca cn cc ra rn rc cs rows W :=
  ⟨h.cost.rebase hb, h.mid.mono hb.size, h.len, fun r hr => ⟨(h.ok r hr).1.rebase hb, (h.ok r hr).2⟩, h.nod, bthen hb h.bel⟩
end Go.Proofs.Ytndndfobkbeolaa
namespace Go.Proofs.Ytndndfobkbeolaa
open Go.RowKit Go.Extern.Stop Go.Stop Go.Extern
def FewL (l : List Rat) : Prop := ∀ q, q ∈ l → Few q
end Go.Proofs.Ytndndfobkbeolaa
namespace Go.Proofs.Ytndndfobkbeolaa
open Go.RowKit Go.Extern.Stop Go.Stop Go.Extern
section
variable {w0 W W' : World} {ca : Option Addr} {cn cc : Nat} {ra : Option Addr} {rn rc : Nat} {cs : List Rv} {rows : List PRow} {S : Nat → Prop}
theorem PrB.typed (h : PrB w0 ca cn cc ra rn rc cs rows W) {z : Nat} (hz : (Value.slice ca cn cc).ownBlock = some z) : ∃ ds, W.heap[z]? = some (.cells ds 40 (0, 0)) := h.cost.mid.typed hz
end
def Short (q : Rat) : Prop := lenW q.num.natAbs ≤ 1 ∧ lenW q.den ≤ 1
theorem Short.few {q : Rat} (h : Short q) : Few q := ⟨Nat.le_trans h.1 (by omega), h.2⟩
structure RightL (m : Nat) (rows : List PRow) : Prop where
  coef : ∀ r, r ∈ rows → ∀ q, q ∈ qs r.coef → Short q
  rhs : ∀ r, r ∈ rows → Short r.rhs.q
  len : ∀ r, r ∈ rows → (qs r.coef).length = m
  kind : ∀ r, r ∈ rows → 1 ≤ r.kind ∧ r.kind ≤ 3
theorem RightL.few {m : Nat} {rows : List PRow} (h : RightL m rows) : ∀ r, r ∈ rows → FewL (qs r.coef) ∧ Few r.rhs.q := fun r hr => ⟨fun q hq => (h.coef r hr q hq).few, (h.rhs r hr).few⟩
end Go.Proofs.Ytndndfobkbeolaa
