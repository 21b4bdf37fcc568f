/-
 What the laws stand on, part O: contracts and plain laws of Bulk, Kit, POpen; the conditions are each law's own.
-/
import Derived.Test.YtndndfobkbeolaaRows
import Derived.ProofKit
import Derived.WalkKit
import Derived.OpenShut
import Derived.JoinedCond
import Derived.Carry
import Derived.Test.YtndndfobkbeolaaTL
import Derived.Deep.Slices
import Derived.Deep.Fields
import Derived.ChangeSame
import Derived.Lib.SmallJoins
import Derived.ChangeMaps5
set_option linter.unusedVariables false
set_option linter.unusedSimpArgs false
namespace Go.Proofs.Ytndndfobkbeolaa.bulks
theorem one_le {H : Type} (d : DataW H) : 1 ≤ Rows.uptoBulk d := by
 cases d with
 | lit l => cases l <;> simp [Rows.uptoBulk]
 | nil => simp [Rows.uptoBulk]
 | ptr d => simp [Rows.uptoBulk]
 | slice elems spare => simp [Rows.uptoBulk]
 | agg parts => simp [Rows.uptoBulk]
 | iface t d => simp [Rows.uptoBulk]
 | map entries => simp [Rows.uptoBulk]
 | held h => simp [Rows.uptoBulk]
theorem append {H : Type} (l r : List (DataW H)) : Rows.uptoBulkAll (l ++ r) = Rows.uptoBulkAll l + Rows.uptoBulkAll r := by
 induction l with
 | nil => simp [Rows.uptoBulkAll]
 | cons x l ih => simp only [List.cons_append, Rows.uptoBulkAll, ih]; omega
theorem length_le {H : Type} (l : List (DataW H)) : l.length ≤ Rows.uptoBulkAll l := by
 induction l with
 | nil => simp [Rows.uptoBulkAll]
 | cons x r ih => have := one_le x; simp only [Rows.uptoBulkAll, List.length_cons]; omega
theorem slice_le {H : Type} (elems spare : List (DataW H)) : elems.length + spare.length + 1 ≤ Rows.uptoBulk (.slice elems spare) := by
 have h1 := length_le elems
 have h2 := length_le spare
 simp only [Rows.uptoBulk]
 omega
theorem slice_elems {H : Type} (elems spare : List (DataW H)) : Rows.uptoBulkAll elems + 1 ≤ Rows.uptoBulk (.slice elems spare) := by
 simp only [Rows.uptoBulk]
 omega
theorem bound {H : Type} {l : List (DataW H)} (hk : Rows.uptoSmall H l = true) : Rows.uptoBulkAll l ≤ 1048576 := by
 simpa [Rows.uptoSmall] using hk
end Go.Proofs.Ytndndfobkbeolaa.bulks
namespace Go.Proofs.Ytndndfobkbeolaa
open Go.ChangeShapes Go.WideShapes Go.ChangeAt Go.RowKit
section
variable {H : Type} {enc : TypeId × Value → H} {P : Program}
theorem trodAll_below (hl : laidOutB P = true) {W W' : World} (hb : Below W.heap.size W W') :
  ∀ (ts : List TypeId) (vs : List Value) (ds : List (DataW H)) (ps : List MemPlace), (∀ t, t ∈ ts → P.readableRec t = true ∧ t < P.types.size) → (∀ x, x ∈ ps → x.block < W.heap.size) →
   DataW.TrodAll enc P W 0 (fun _ => true) true ts vs ds ps → DataW.TrodAll enc P W' 0 (fun b => decide (b < W.heap.size)) true ts vs ds ps
 | [], [], [], _, _, _, h => h
 | [], [], _ :: _, _, _, _, h => h.elim
 | [], _ :: _, _, _, _, _, h => by cases h
 | _ :: _, [], _, _, _, _, h => by cases h
 | _ :: _, _ :: _, [], _, _, _, h => by cases h
 | t :: ts, v :: vs, d :: ds, ps, hr, hlt, h => by
  obtain ⟨p, q, h1, h2, rfl⟩ := h
  exact ⟨p, q, Below.trod hl (hr t (by simp)).1 (hr t (by simp)).2 h1 hb (fun x hx => hlt x (by simp [hx])), trodAll_below hl hb ts vs ds q (fun u hu => hr u (by simp [hu])) (fun x hx => hlt x (by simp [hx])) h2, rfl⟩
theorem law_post {f : Func} {s : ChangeSpec} {apart fresh handsOn : Bool} {W W' : World} {args : Array Value} {ds gs : List (DataW H)} {before : List MemPlace} {tb : TypeId}
  (hl : laidOutB P = true) (hr : ∀ t, t ∈ f.params.toList → P.readableRec t = true ∧ t < P.types.size) (hres : f.resultTypes = #[tb]) (htb : P.underlying tb = some .bool) (hvars : s.vars = [])
  (hW : DataW.Whole enc P f.params.toList s.vars apart W args.toList ds gs before) (hfn : s.fn H (ds ++ gs) = { results := [.lit (.bool true)], args := ds }) (hb : Below W.heap.size W W') :
  s.post enc P f apart fresh handsOn false W args (.bool true) W' := by
 have hW' := hW
 obtain ⟨p, q, hA, hV, rfl, _, _⟩ := hW
 rw [hvars] at hV
 have hlt : ∀ x, x ∈ p → x.block < W.heap.size := fun x hx => hW'.lt x (by simp [hx])
 refine ⟨ds, gs, _, [], p, [], hW', ?_, ?_, ?_, hb.frame _, fun h => by cases h⟩
 ·
  rw [hfn, hres]; exact trodAll_mk1 (shut_bool htb true)
 ·
  rw [hfn]; exact trodAll_below hl hb _ _ _ _ hr hlt hA
 ·
  rw [hfn, hvars]; rfl
end
theorem own : ownKnob Try.prog.godebug = none := by kernel_rfl
theorem laidOut : laidOutB Try.prog = true := by kernel_rfl
end Go.Proofs.Ytndndfobkbeolaa
namespace Go.Proofs.Ytndndfobkbeolaa
open Go.ChangeShapes Go.WideShapes Go.ChangeAt Go.RowKit Go.Deep Go.Joins
theorem Try.cellsTF : Try.prog.cellsOf 96 = 2 := by kernel_rfl
theorem Try.cellsTFS : Try.prog.cellsOf 22 = 1 := by kernel_rfl
theorem Try.cellsTL : Try.prog.cellsOf 98 = 4 := by kernel_rfl
theorem Try.cellsTLS : Try.prog.cellsOf 23 = 1 := by kernel_rfl
theorem Try.cellsTI : Try.prog.cellsOf 3 = 1 := by kernel_rfl
theorem Try.cellsTK : Try.prog.cellsOf 43 = 1 := by kernel_rfl
theorem i64_of {n : Int} (h : (Lit.int .i64 n).wf = true) : I64 n := by
 simp only [Lit.wf, Bool.and_eq_true, decide_eq_true_eq] at h
 exact h
theorem cell_spot {w : World} {a : Addr} {u : Value} (h : w.cell? a = some u) : a = ⟨a.block, a.off, none⟩ := by
 unfold World.cell? at h
 split at h
 ·
  split at h
  ·
   cases h
  ·
   obtain ⟨x, y, z⟩ := a
   cases z with
   | none => rfl
   | some _ => simp_all
 ·
  cases h
theorem two {α : Type} (l : List α) (h : l.length = 2) : ∃ a b, l = [a, b] := by
 match l, h with
 | [a, b], _ => exact ⟨a, b, rfl⟩
theorem three {α : Type} (l : List α) (h : l.length = 3) : ∃ a b c, l = [a, b, c] := by
 match l, h with
 | [a, b, c], _ => exact ⟨a, b, c, rfl⟩
theorem four {α : Type} (l : List α) (h : l.length = 4) : ∃ a b c d, l = [a, b, c, d] := by
 match l, h with
 | [a, b, c, d], _ => exact ⟨a, b, c, d, rfl⟩
instance : Inhabited LRow := ⟨⟨none, 0, 0, [], 0, (0, 0)⟩⟩
theorem sl_of {α : Type} {W : World} {a : Addr} {len cap : Nat} (g : α → List Value) (k : Nat) (hk : ∀ x, (g x).length = k) (hk0 : 0 < k) (f : Nat → α) (hl : len ≤ cap) (hm : cap ≤ maxLen) (h : ∀ i, i < len → ∀ j, j < k → W.cell? (a.add (i * k + j)) = (g (f i))[j]?) : Sl W k (.slice (some a) len cap) len (((List.range len).map f).flatMap g) := by
 refine ⟨by rw [flat_len g k hk]; simp, ?_⟩
 rcases Nat.eq_zero_or_pos len with rfl | hp
 ·
  exact .inl ⟨some a, cap, by simp, by simp, hm, fun h => by cases h⟩
 ·
  have h0 := h 0 hp 0 hk0
  have hg0 : (g (f 0))[0]? = some ((g (f 0))[0]'(by rw [hk]; exact hk0)) := List.getElem?_eq_getElem _
  rw [hg0, show a.add (0 * k + 0) = a by simp [Addr.add]] at h0
  have hs := cell_spot h0
  have hb : a.block < W.heap.size := World.block_lt_of_cell? _ _ h0
  refine .inr ⟨a.block, a.off, cap, by rw [← hs], hl, hm, hb, fun j u hj => ?_⟩
  obtain ⟨i, hi, j', rfl, hj', hu⟩ := flat_inv g k hk _ j u hj
  simp only [List.length_map, List.length_range] at hi
  simp only [List.getElem_map, List.getElem_range] at hu
  have := h i hi j' hj'
  rw [hu] at this
  rw [hs] at this
  rw [Addr.add_lit] at this
  exact this
theorem bulk_mem {H : Type} : ∀ (l : List (DataW H)) (x : DataW H), x ∈ l → Rows.uptoBulk x ≤ Rows.uptoBulkAll l
 | [], _, h => by cases h
 | y :: r, x, h => by
  simp only [Rows.uptoBulkAll]
  rcases List.mem_cons.1 h with rfl | h
  ·
   omega
  ·
   have := bulk_mem r x h
   omega
section
variable {H : Type} {enc : TypeId × Value → H} {W : World} {base : Nat} {spare : Nat → Bool} {held : Bool}
theorem frac_trod {fuel : Nat} {cs : List Value} {x : DataW H × List MemPlace} (h : DataW.trod enc Try.prog W base spare held fuel 96 cs = some x) : ∃ p q, cs = [IV p, IV q] ∧ I64 p ∧ I64 q := by
 obtain ⟨xs, n, _, _, hl, hxl, hf⟩ := DataW.trod_struct Try.underlying96 h
 rw [Try.cellsTF] at hl
 obtain ⟨c0, c1, rfl⟩ := two cs hl
 obtain ⟨y0, y1, rfl⟩ := two xs hxl
 have h0 : DataW.trod enc Try.prog W base spare held n 3 (([c0, c1].drop 0).take (Try.prog.cellsOf 3)) = some y0 := hf 0 _ rfl
 have h1 : DataW.trod enc Try.prog W base spare held n 3 (([c0, c1].drop 1).take (Try.prog.cellsOf 3)) = some y1 := hf 1 _ rfl
 rw [Try.cellsTI] at h0 h1
 obtain ⟨p, e0, _, w0⟩ := DataW.trod_int Try.underlying3 h0
 obtain ⟨q, e1, _, w1⟩ := DataW.trod_int Try.underlying3 h1
 simp at e0 e1
 subst e0 e1
 exact ⟨p, q, rfl, i64_of w0, i64_of w1⟩
theorem fracs_trod {fuel : Nat} {cs : List Value} {x : DataW H × List MemPlace} (h : DataW.trod enc Try.prog W base spare held fuel 22 cs = some x) :
  ∃ (ea : Option Addr) (n ec : Nat) (es : List Fr), cs = [.slice ea n ec] ∧ FrW W ea n ec es ∧ n + 1 ≤ Rows.uptoBulk x.1 := by
 rcases Deep.open_slice Try.underlying22 h with ⟨rfl, rfl⟩ | ⟨a, len, cap, m, n, D, Pl, rfl, _, hl, hm, hmm, rfl, hx⟩
 ·
  exact ⟨none, 0, 0, [], rfl, ⟨rfl, ⟨rfl, .inl ⟨none, 0, rfl, rfl, Nat.zero_le _, fun _ => rfl⟩⟩, fun e h => (by cases h)⟩, by simp [Rows.uptoBulk]⟩
 ·
  have hlm : len ≤ m := by rw [hmm]; split <;> omega
  rw [Try.cellsTF] at hx
  obtain ⟨f, hf2⟩ := Deep.choose_lt (n := m) (p := fun i (e : Fr) => (I64 e.1 ∧ I64 e.2) ∧ ∀ j, j < 2 → W.cell? (a.add (i * 2 + j)) = (frCells e)[j]?) (fun i hi => by
   obtain ⟨cs', hc, ht⟩ := hx i hi
   obtain ⟨p, q, rfl, hp, hq⟩ := frac_trod ht
   obtain ⟨_, _, hat⟩ := World.cells?_some hc
   exact ⟨(p, q), ⟨hp, hq⟩, fun j hj => by rw [← Go.Deep.add_add]; exact hat j hj⟩)
  have hle : ((List.range len).map f).length = len := by simp
  refine ⟨some a, len, cap, (List.range len).map f, rfl, ⟨hle, sl_of frCells 2 frCells_len (by omega) f hl hm fun i hi j hj => (hf2 i (by omega)).2 j hj, fun e he => ?_⟩, ?_⟩
  ·
   obtain ⟨i, hi, rfl⟩ := List.mem_map.1 he
   exact (hf2 i (by have := List.mem_range.1 hi; omega)).1
  ·
   have := bulks.slice_le (H := H) ((List.range len).map D) ((List.range (m - len)).map fun j => D (len + j))
   simp only [List.length_map, List.length_range] at this ⊢
   omega
theorem line_trod {fuel : Nat} {cs : List Value} {x : DataW H × List MemPlace} (h : DataW.trod enc Try.prog W base spare held fuel 98 cs = some x) : ∃ r : LRow, cs = lineCells r ∧ r.ok W ∧ r.n + 1 ≤ Rows.uptoBulk x.1 := by
 obtain ⟨xs, n, _, rfl, hl, hxl, hf⟩ := DataW.trod_struct Try.underlying98 h
 rw [Try.cellsTL] at hl
 obtain ⟨c0, c1, c2, c3, rfl⟩ := four cs hl
 obtain ⟨y0, y1, y2, rfl⟩ := three xs hxl
 have h0 : DataW.trod enc Try.prog W base spare held n 22 (([c0, c1, c2, c3].drop 0).take (Try.prog.cellsOf 22)) = some y0 := hf 0 _ rfl
 have h1 : DataW.trod enc Try.prog W base spare held n 43 (([c0, c1, c2, c3].drop 1).take (Try.prog.cellsOf 43)) = some y1 := hf 1 _ rfl
 have h2 : DataW.trod enc Try.prog W base spare held n 96 (([c0, c1, c2, c3].drop 2).take (Try.prog.cellsOf 96)) = some y2 := hf 2 _ rfl
 clear hf
 rw [Try.cellsTFS] at h0
 rw [Try.cellsTK] at h1
 rw [Try.cellsTF] at h2
 obtain ⟨ea, m, ec, es, e0, hfr, hbk⟩ := fracs_trod h0
 obtain ⟨k, e1, _, w1⟩ := DataW.trod_int Try.underlying43 h1
 obtain ⟨p, q, e2, hp, hq⟩ := frac_trod h2
 simp at e0 e1 e2
 obtain ⟨rfl, rfl⟩ := e2
 subst e0 e1
 refine ⟨⟨ea, m, ec, es, k, (p, q)⟩, rfl, ⟨hfr, i64_of w1, hp, hq⟩, ?_⟩
 simp only [Rows.uptoBulk, List.map_cons, List.map_nil, Rows.uptoBulkAll]
 omega
theorem lines_trod {fuel : Nat} {cs : List Value} {x : DataW H × List MemPlace} (h : DataW.trod enc Try.prog W base spare held fuel 23 cs = some x) :
  ∃ (a : Option Addr) (n c : Nat) (ls : List LRow), cs = [.slice a n c] ∧ ls.length = n ∧ Sl W 4 (.slice a n c) n (ls.flatMap lineCells) ∧ (∀ r, r ∈ ls → r.ok W ∧ r.n + 1 ≤ Rows.uptoBulk x.1) ∧ n + 1 ≤ Rows.uptoBulk x.1 := by
 rcases Deep.open_slice Try.underlying23 h with ⟨rfl, rfl⟩ | ⟨a, len, cap, m, n, D, Pl, rfl, _, hl, hm, hmm, rfl, hx⟩
 ·
  exact ⟨none, 0, 0, [], rfl, rfl, ⟨rfl, .inl ⟨none, 0, rfl, rfl, Nat.zero_le _, fun _ => rfl⟩⟩, fun e h => (by cases h), by simp [Rows.uptoBulk]⟩
 ·
  have hlm : len ≤ m := by rw [hmm]; split <;> omega
  rw [Try.cellsTL] at hx
  obtain ⟨f, hf2⟩ := Deep.choose_lt (n := m) (p := fun i (r : LRow) => r.ok W ∧ r.n + 1 ≤ Rows.uptoBulk (D i) ∧ ∀ j, j < 4 → W.cell? (a.add (i * 4 + j)) = (lineCells r)[j]?) (fun i hi => by
   obtain ⟨cs', hc, ht⟩ := hx i hi
   obtain ⟨r, rfl, ho, hb⟩ := line_trod ht
   obtain ⟨_, _, hat⟩ := World.cells?_some hc
   exact ⟨r, ho, hb, fun j hj => by rw [← Go.Deep.add_add]; exact hat j hj⟩)
  have hle : ((List.range len).map f).length = len := by simp
  have h2 := bulks.slice_elems (H := H) ((List.range len).map D) ((List.range (m - len)).map fun j => D (len + j))
  refine ⟨some a, len, cap, (List.range len).map f, rfl, hle, sl_of lineCells 4 lineCells_len (by omega) f hl hm fun i hi j hj => (hf2 i (by omega)).2.2 j hj, fun r hr => ?_, ?_⟩
  ·
   obtain ⟨i, hi, rfl⟩ := List.mem_map.1 hr
   have hi2 := List.mem_range.1 hi
   have h3 := hf2 i (by omega)
   have h4 := bulk_mem ((List.range len).map D) (D i) (List.mem_map_of_mem hi)
   exact ⟨h3.1, by show _ ≤ Rows.uptoBulk (DataW.slice _ _); omega⟩
  ·
   have := bulks.slice_le (H := H) ((List.range len).map D) ((List.range (m - len)).map fun j => D (len + j))
   simp only [List.length_map, List.length_range] at this ⊢
   omega
set_option maxRecDepth 100000 in
theorem raw_open {v : Value} {d : DataW H} {ps : List MemPlace} {r : Reach} {b0 : Nat} (hv : Value.okWide Try.prog W r b0 25 v) (h : DataW.Trod enc Try.prog W base spare held 25 v d ps) :
  ∃ (ca : Option Addr) (cn cc : Nat) (ra : Option Addr) (rn rc : Nat) (cost : List Fr) (lines : List LRow), v = .agg #[.slice ca cn cc, .slice ra rn rc] ∧ RawW W ca cn cc ra rn rc cost lines ∧ cn + 1 ≤ Rows.uptoBulk d ∧ rn + 1 ≤ Rows.uptoBulk d ∧ ∀ r, r ∈ lines → r.n + 1 ≤ Rows.uptoBulk d := by
 obtain ⟨cs, rfl, _⟩ := okWide_struct Try.underlying25 hv
 obtain ⟨fuel, hf⟩ := h
 obtain ⟨xs, n, _, e9, hl, hxl, hf⟩ := DataW.trod_struct Try.underlying25 hf
 obtain ⟨l⟩ := cs
 have hl2 : l.length = 2 := by
  have : Try.prog.cellsOf 25 = 2 := by kernel_rfl
  rw [this] at hl
  simpa [Value.cells] using hl
 obtain ⟨c0, c1, rfl⟩ := two l hl2
 obtain ⟨y0, y1, rfl⟩ := two xs hxl
 have h0 : DataW.trod enc Try.prog W base spare held n 22 (([c0, c1].drop 0).take (Try.prog.cellsOf 22)) = some y0 := hf 0 _ rfl
 have h1 : DataW.trod enc Try.prog W base spare held n 23 (([c0, c1].drop 1).take (Try.prog.cellsOf 23)) = some y1 := hf 1 _ rfl
 rw [Try.cellsTFS] at h0
 rw [Try.cellsTLS] at h1
 obtain ⟨ca, cn, cc, cost, e0, hfr, hb0⟩ := fracs_trod h0
 obtain ⟨ra, rn, rc, lines, e1, hlen, hsl, hok, hb1⟩ := lines_trod h1
 simp at e0 e1
 subst e0 e1
 have hd : d = .agg [y0.1, y1.1] := congrArg Prod.fst e9
 subst hd
 have hbk : Rows.uptoBulk (.agg [y0.1, y1.1] : DataW H) = Rows.uptoBulk y0.1 + (Rows.uptoBulk y1.1 + 0) + 1 := by simp only [Rows.uptoBulk, Rows.uptoBulkAll]
 refine ⟨ca, cn, cc, ra, rn, rc, cost, lines, rfl, ⟨hfr, hlen, hsl, fun r hr => (hok r hr).1⟩, by omega, by omega, fun r hr => ?_⟩
 have := (hok r hr).2
 omega
end
end Go.Proofs.Ytndndfobkbeolaa
