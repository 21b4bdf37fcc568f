/-
  What the laws of a store stand on, part O: contracts and plain laws of Kit, Bulk, LOpen; the conditions are each law's own.
-/
import Derived.Test.YtaehklhbokocbaaGreatDoorRows
import Derived.Test.YtaehklhbokocbaaGreatDoorXF
import Derived.ProofKit
import Derived.LaidHandle
import Derived.LaidLaws
import Derived.Carry
import Derived.Deep.DeepHandedRow
import Derived.Test.YtaehklhbokocbaaGreatDoorXM
import Derived.Deep.Slices
import Derived.Deep.Fields
import Derived.ChangeSame
import Derived.Lib.SmallJoins
import Derived.ChangeMaps5
set_option linter.unusedVariables false
set_option linter.unusedSimpArgs false
namespace Go.Proofs.YtaehklhbokocbaaGreatDoor
open Go.ChangeShapes Go.WideShapes Go.ChangeAt Go.RowKit
def Yes (w : World) (e : Ending) (w' : World) : Prop := e = .returned (.bool true) ∧ Below w.heap.size w w'
section
variable {H : Type} {enc : TypeId × Value → H} {P : Program}
theorem trodAll_below (hl : laidOutB P = true) {W W' : World} (hb : Below W.heap.size W W') :
    ∀ (ts : List TypeId) (vs : List Value) (ds : List (DataW H)) (ps : List MemPlace), (∀ t, t ∈ ts → P.readableRec t = true ∧ t < P.types.size) → (∀ x, x ∈ ps → x.block < W.heap.size) →
      DataW.TrodAll enc P W 0 (fun _ => true) true ts vs ds ps → DataW.TrodAll enc P W' 0 (fun b => decide (b < W.heap.size)) true ts vs ds ps
  | [], [], [], _, _, _, h => h
  | [], [], _ :: _, _, _, _, h => h.elim
  | [], _ :: _, _, _, _, _, h => by cases h
  | _ :: _, [], _, _, _, _, h => by cases h
  | _ :: _, _ :: _, [], _, _, _, h => by cases h
  | t :: ts, v :: vs, d :: ds, ps, hr, hlt, h => by
    obtain ⟨p, q, h1, h2, rfl⟩ := h
    exact ⟨p, q, Below.trod hl (hr t (by simp)).1 (hr t (by simp)).2 h1 hb (fun x hx => hlt x (by simp [hx])), trodAll_below hl hb ts vs ds q (fun u hu => hr u (by simp [hu])) (fun x hx => hlt x (by simp [hx])) h2, rfl⟩
theorem law_post {f : Func} {s : ChangeSpec} {apart fresh handsOn : Bool} {W W' : World} {args : Array Value} {ds gs : List (DataW H)} {before : List MemPlace} {tb : TypeId}
    (hl : laidOutB P = true) (hr : ∀ t, t ∈ f.params.toList → P.readableRec t = true ∧ t < P.types.size) (hres : f.resultTypes = #[tb]) (htb : P.underlying tb = some .bool) (hvars : s.vars = [])
    (hW : DataW.Whole enc P f.params.toList s.vars apart W args.toList ds gs before) (hfn : s.fn H (ds ++ gs) = { results := [.lit (.bool true)], args := ds }) (hb : Below W.heap.size W W') :
    s.post enc P f apart fresh handsOn false W args (.bool true) W' := by
  have hW' := hW
  obtain ⟨p, q, hA, hV, rfl, _, _⟩ := hW
  rw [hvars] at hV
  have hlt : ∀ x, x ∈ p → x.block < W.heap.size := fun x hx => hW'.lt x (by simp [hx])
  refine ⟨ds, gs, _, [], p, [], hW', ?_, ?_, ?_, hb.frame _, fun h => by cases h⟩
  · rw [hfn, hres]; exact trodAll_mk1 (shut_bool htb true)
  · rw [hfn]; exact trodAll_below hl hb _ _ _ _ hr hlt hA
  · rw [hfn, hvars]; rfl
end
theorem own : ownKnob Tryz.prog.godebug = none := by kernel_rfl
theorem laidOut : laidOutB Tryz.prog = true := by kernel_rfl
theorem Tryz.et : Tryz.prog.globalNamed "errors.errorType" = some 0 := by kernel_rfl
theorem Tryz.rt : (Tryz.prog.cutTypes.find? (·.1 == "internal/reflectlite.rtype")).map (·.2) = some 204 := by kernel_rfl
theorem Tryz.oneRow : ((List.range 266).filter fun t => Tryz.prog.rowNamed t [101, 114, 114, 111, 114]) = [42] := by kernel_rfl
theorem Tryz.size : Tryz.prog.types.size = 266 := by kernel_rfl
abbrev laidList : List (String × DataW Unit) := [("errors.errorType", Rows.laid_errors_errorType)]
theorem handle_of_laid {W : World} (h : laidMetH Tryz.prog laidList W) : Hg W := by
  have h' : laidMet Tryz.prog [] W ∧ handlesMet Tryz.prog laidList W := h
  obtain ⟨name, u, ty, e1, e2, e3, e4, e5⟩ := h'.2 _ (List.mem_singleton.2 rfl)
  have en : name = [101, 114, 114, 111, 114] := (Option.some.inj e1).symm
  subst en
  obtain rfl := Option.some.inj (Tryz.rt.symm.trans e2)
  have hm : ty ∈ (List.range 266).filter fun t => Tryz.prog.rowNamed t [101, 114, 114, 111, 114] := List.mem_filter.2 ⟨List.mem_range.2 (by rw [← Tryz.size]; exact e3), e4⟩
  rw [Tryz.oneRow] at hm
  obtain rfl := List.mem_singleton.1 hm
  have hh : typeHandle Tryz.prog 42 = .pointer (some ⟨1, 42, none⟩) := by kernel_rfl
  rw [hh] at e5
  have := World.var?_cell Tryz.et e5 0
  unfold Hg
  simpa using this
noncomputable def laidWorld (os : Os) : World :=
  let w0 := World.holding Tryz.prog os ⟨#[], #[], []⟩
  { w0 with heap := w0.heap.modify 0 fun
      | .cells _ t frozen => .cells #[.iface 204 (.agg #[.pointer (some ⟨1, 42, none⟩)])] t frozen
      | o => o }
theorem laid_met (os : Os) (args : Array Value) : laidMetH Tryz.prog laidList ((laidWorld os).forCall (fun _ _ => 0) ⟨#[], args, []⟩).memory :=
  laidMetH_of_parts (laidMet_nil _ _) (by kernel_rfl)
end Go.Proofs.YtaehklhbokocbaaGreatDoor
namespace Go.Proofs.YtaehklhbokocbaaGreatDoor.bulks
theorem one_le {H : Type} (d : DataW H) : 1 ≤ Rows.uptoBulk d := by
  cases d with
  | lit l => cases l <;> simp [Rows.uptoBulk]
  | nil => simp [Rows.uptoBulk]
  | ptr d => simp [Rows.uptoBulk]
  | slice elems spare => simp [Rows.uptoBulk]
  | agg parts => simp [Rows.uptoBulk]
  | iface t d => simp [Rows.uptoBulk]
  | map entries => simp [Rows.uptoBulk]
  | held h => simp [Rows.uptoBulk]
theorem part_le {H : Type} {d : DataW H} {l : List (DataW H)} (h : d ∈ l) : Rows.uptoBulk d ≤ Rows.uptoBulkAll l := by
  induction l with
  | nil => cases h
  | cons x r ih =>
    simp only [Rows.uptoBulkAll]
    cases List.mem_cons.1 h with
    | inl e => subst e; omega
    | inr e => have := ih e; omega
theorem append {H : Type} (l r : List (DataW H)) : Rows.uptoBulkAll (l ++ r) = Rows.uptoBulkAll l + Rows.uptoBulkAll r := by
  induction l with
  | nil => simp [Rows.uptoBulkAll]
  | cons x l ih => simp only [List.cons_append, Rows.uptoBulkAll, ih]; omega
theorem length_le {H : Type} (l : List (DataW H)) : l.length ≤ Rows.uptoBulkAll l := by
  induction l with
  | nil => simp [Rows.uptoBulkAll]
  | cons x r ih => have := one_le x; simp only [Rows.uptoBulkAll, List.length_cons]; omega
theorem slice_le {H : Type} (elems spare : List (DataW H)) : elems.length + spare.length + 1 ≤ Rows.uptoBulk (.slice elems spare) := by
  have h1 := length_le elems
  have h2 := length_le spare
  simp only [Rows.uptoBulk]
  omega
theorem slice_elems {H : Type} (elems spare : List (DataW H)) : Rows.uptoBulkAll elems + 1 ≤ Rows.uptoBulk (.slice elems spare) := by
  simp only [Rows.uptoBulk]
  omega
theorem string_eq {H : Type} (bytes : List UInt8) : Rows.uptoBulk (DataW.lit (H := H) (.string bytes)) = bytes.length + 1 := by
  simp [Rows.uptoBulk]
theorem bound {H : Type} {l : List (DataW H)} (hk : Rows.uptoSmall H l = true) : Rows.uptoBulkAll l ≤ 1048576 := by
  simpa [Rows.uptoSmall] using hk
theorem room {n b : Nat} (hn : n ≤ 2097152) (hb : b ≤ 4096) : (n + n / 4 + 192) * b ≤ 281474976710656 := by
  have h : (n + n / 4 + 192) * b ≤ 2621632 * 4096 := Nat.mul_le_mul (by omega) hb
  omega
end Go.Proofs.YtaehklhbokocbaaGreatDoor.bulks
namespace Go.Proofs.YtaehklhbokocbaaGreatDoor
open Go.ChangeShapes Go.WideShapes Go.ChangeAt Go.RowKit Go.Deep Go.Joins
theorem Tryz.cellsTX : Tryz.prog.cellsOf 39 = 7 := by kernel_rfl
theorem Tryz.cellsTE : Tryz.prog.cellsOf 96 = 3 := by kernel_rfl
theorem Tryz.cellsTES : Tryz.prog.cellsOf 37 = 1 := by kernel_rfl
theorem Tryz.cellsTF : Tryz.prog.cellsOf 36 = 2 := by kernel_rfl
theorem Tryz.cellsTI : Tryz.prog.cellsOf 3 = 1 := by kernel_rfl
theorem Tryz.cellsTK : Tryz.prog.cellsOf 34 = 1 := by kernel_rfl
theorem i64_of {n : Int} (h : (Lit.int .i64 n).wf = true) : I64 n := by
  simp only [Lit.wf, Bool.and_eq_true, decide_eq_true_eq] at h
  exact h
theorem cell_spot {w : World} {a : Addr} {u : Value} (h : w.cell? a = some u) : a = ⟨a.block, a.off, none⟩ := by
  unfold World.cell? at h
  split at h
  · split at h
    · cases h
    · obtain ⟨x, y, z⟩ := a
      cases z with
      | none => rfl
      | some _ => simp_all
  · cases h
theorem lit_u8 {n : Int} (h : (Lit.int .u8 n).wf = true) : 0 ≤ n ∧ n ≤ 255 := by
  simp only [Lit.wf, Bool.and_eq_true, decide_eq_true_eq] at h
  exact h
theorem two {α : Type} (l : List α) (h : l.length = 2) : ∃ a b, l = [a, b] := by
  match l, h with
  | [a, b], _ => exact ⟨a, b, rfl⟩
theorem three {α : Type} (l : List α) (h : l.length = 3) : ∃ a b c, l = [a, b, c] := by
  match l, h with
  | [a, b, c], _ => exact ⟨a, b, c, rfl⟩
theorem six {α : Type} (l : List α) (h : l.length = 6) : ∃ a b c d e f, l = [a, b, c, d, e, f] := by
  match l, h with
  | [a, b, c, d, e, f], _ => exact ⟨a, b, c, d, e, f, rfl⟩
theorem seven {α : Type} (l : List α) (h : l.length = 7) : ∃ a b c d e f g, l = [a, b, c, d, e, f, g] := by
  match l, h with
  | [a, b, c, d, e, f, g], _ => exact ⟨a, b, c, d, e, f, g, rfl⟩
instance : Inhabited XA := ⟨⟨0, 0, 0, 0, (0, 0), []⟩⟩
theorem sl_of {α : Type} {W : World} {a : Addr} {len cap : Nat} (g : α → List Value) (k : Nat) (hk : ∀ x, (g x).length = k) (hk0 : 0 < k) (f : Nat → α) (hl : len ≤ cap) (hm : cap ≤ maxLen) (h : ∀ i, i < len → ∀ j, j < k → W.cell? (a.add (i * k + j)) = (g (f i))[j]?) : Sl W k (.slice (some a) len cap) len (((List.range len).map f).flatMap g) := by
  refine ⟨by rw [flat_len g k hk]; simp, ?_⟩
  rcases Nat.eq_zero_or_pos len with rfl | hp
  · exact .inl ⟨some a, cap, by simp, by simp, hm, fun h => by cases h⟩
  · have h0 := h 0 hp 0 hk0
    have hg0 : (g (f 0))[0]? = some ((g (f 0))[0]'(by rw [hk]; exact hk0)) := List.getElem?_eq_getElem _
    rw [hg0, show a.add (0 * k + 0) = a by simp [Addr.add]] at h0
    have hs := cell_spot h0
    have hb : a.block < W.heap.size := World.block_lt_of_cell? _ _ h0
    refine .inr ⟨a.block, a.off, cap, by rw [← hs], hl, hm, hb, fun j u hj => ?_⟩
    obtain ⟨i, hi, j', rfl, hj', hu⟩ := flat_inv g k hk _ j u hj
    simp only [List.length_map, List.length_range] at hi
    simp only [List.getElem_map, List.getElem_range] at hu
    have := h i hi j' hj'
    rw [hu] at this
    rw [hs] at this
    rw [Addr.add_lit] at this
    exact this
section
variable {H : Type} {enc : TypeId × Value → H} {W : World} {base : Nat} {spare : Nat → Bool} {held : Bool}
theorem frac_trod {fuel : Nat} {cs : List Value} {x : DataW H × List MemPlace} (h : DataW.trod enc Tryz.prog W base spare held fuel 36 cs = some x) : ∃ p q, cs = [IV p, IV q] ∧ I64 p ∧ I64 q := by
  obtain ⟨xs, n, _, _, hl, hxl, hf⟩ := DataW.trod_struct Tryz.underlying36 h
  rw [Tryz.cellsTF] at hl
  obtain ⟨c0, c1, rfl⟩ := two cs hl
  obtain ⟨y0, y1, rfl⟩ := two xs hxl
  have h0 : DataW.trod enc Tryz.prog W base spare held n 3 (([c0, c1].drop 0).take (Tryz.prog.cellsOf 3)) = some y0 := hf 0 _ rfl
  have h1 : DataW.trod enc Tryz.prog W base spare held n 3 (([c0, c1].drop 1).take (Tryz.prog.cellsOf 3)) = some y1 := hf 1 _ rfl
  rw [Tryz.cellsTI] at h0 h1
  obtain ⟨p, e0, _, w0⟩ := DataW.trod_int Tryz.underlying3 h0
  obtain ⟨q, e1, _, w1⟩ := DataW.trod_int Tryz.underlying3 h1
  simp at e0 e1
  subst e0 e1
  exact ⟨p, q, rfl, i64_of w0, i64_of w1⟩
theorem en_trod {fuel : Nat} {cs : List Value} {x : DataW H × List MemPlace} (h : DataW.trod enc Tryz.prog W base spare held fuel 96 cs = some x) : ∃ e, cs = enCells e ∧ EnOk e := by
  obtain ⟨xs, n, _, _, hl, hxl, hf⟩ := DataW.trod_struct Tryz.underlying96 h
  rw [Tryz.cellsTE] at hl
  obtain ⟨c0, c1, c2, rfl⟩ := three cs hl
  obtain ⟨y0, y1, rfl⟩ := two xs hxl
  have h0 : DataW.trod enc Tryz.prog W base spare held n 3 (([c0, c1, c2].drop 0).take (Tryz.prog.cellsOf 3)) = some y0 := hf 0 _ rfl
  have h1 : DataW.trod enc Tryz.prog W base spare held n 36 (([c0, c1, c2].drop 1).take (Tryz.prog.cellsOf 36)) = some y1 := hf 1 _ rfl
  rw [Tryz.cellsTI] at h0
  rw [Tryz.cellsTF] at h1
  obtain ⟨i, e0, _, w0⟩ := DataW.trod_int Tryz.underlying3 h0
  obtain ⟨p, q, e1, hp, hq⟩ := frac_trod h1
  simp at e0 e1
  obtain ⟨rfl, rfl⟩ := e1
  subst e0
  exact ⟨(i, p, q), rfl, i64_of w0, hp, hq⟩
theorem ens_trod {fuel : Nat} {cs : List Value} {x : DataW H × List MemPlace} (h : DataW.trod enc Tryz.prog W base spare held fuel 37 cs = some x) :
    ∃ (ea : Option Addr) (ec : Nat) (es : List (Int × Int × Int)), cs = [.slice ea es.length ec] ∧ Sl W 3 (.slice ea es.length ec) es.length (es.flatMap enCells) ∧ (∀ e, e ∈ es → EnOk e) ∧ es.length + 1 ≤ Rows.uptoBulk x.1 := by
  rcases Deep.open_slice Tryz.underlying37 h with ⟨rfl, rfl⟩ | ⟨a, len, cap, m, n, D, Pl, rfl, _, hl, hm, hmm, rfl, hx⟩
  · exact ⟨none, 0, [], rfl, ⟨rfl, .inl ⟨none, 0, rfl, rfl, Nat.zero_le _, fun _ => rfl⟩⟩, fun e h => (by cases h), by simp [Rows.uptoBulk]⟩
  · have hlm : len ≤ m := by rw [hmm]; split <;> omega
    rw [Tryz.cellsTE] at hx
    obtain ⟨f, hf2⟩ := Deep.choose_lt (n := m) (p := fun i (e : Int × Int × Int) => EnOk e ∧ ∀ j, j < 3 → W.cell? (a.add (i * 3 + j)) = (enCells e)[j]?) (fun i hi => by
      obtain ⟨cs', hc, ht⟩ := hx i hi
      obtain ⟨e, rfl, ho⟩ := en_trod ht
      obtain ⟨_, _, hat⟩ := World.cells?_some hc
      exact ⟨e, ho, fun j hj => by rw [← Go.Deep.add_add]; exact hat j hj⟩)
    have hle : ((List.range len).map f).length = len := by simp
    refine ⟨some a, cap, (List.range len).map f, by rw [hle], by rw [hle]; exact sl_of enCells 3 enCells_len (by omega) f hl hm fun i hi j hj => (hf2 i (by omega)).2 j hj, fun e he => ?_, ?_⟩
    · obtain ⟨i, hi, rfl⟩ := List.mem_map.1 he
      exact (hf2 i (by have := List.mem_range.1 hi; omega)).1
    · have := bulks.slice_le (H := H) ((List.range len).map D) ((List.range (m - len)).map fun j => D (len + j))
      simp only [List.length_map, List.length_range] at this ⊢
      omega
theorem x_trod {fuel : Nat} {cs : List Value} {x : DataW H × List MemPlace} (h : DataW.trod enc Tryz.prog W base spare held fuel 39 cs = some x) :
    ∃ z : ZA, cs = zCells z ∧ XOk z.1 ∧ Sl W 3 (.slice z.2.1 z.1.es.length z.2.2) z.1.es.length (z.1.es.flatMap enCells) ∧ z.1.es.length + 1 ≤ Rows.uptoBulk x.1 := by
  obtain ⟨xs, n, _, rfl, hl, hxl, hf⟩ := DataW.trod_struct Tryz.underlying39 h
  rw [Tryz.cellsTX] at hl
  obtain ⟨c0, c1, c2, c3, c4, c5, c6, rfl⟩ := seven cs hl
  obtain ⟨y0, y1, y2, y3, y4, y5, rfl⟩ := six xs hxl
  have h0 : DataW.trod enc Tryz.prog W base spare held n 3 (([c0, c1, c2, c3, c4, c5, c6].drop 0).take (Tryz.prog.cellsOf 3)) = some y0 := hf 0 _ rfl
  have h1 : DataW.trod enc Tryz.prog W base spare held n 3 (([c0, c1, c2, c3, c4, c5, c6].drop 1).take (Tryz.prog.cellsOf 3)) = some y1 := hf 1 _ rfl
  have h2 : DataW.trod enc Tryz.prog W base spare held n 3 (([c0, c1, c2, c3, c4, c5, c6].drop 2).take (Tryz.prog.cellsOf 3)) = some y2 := hf 2 _ rfl
  have h3 : DataW.trod enc Tryz.prog W base spare held n 34 (([c0, c1, c2, c3, c4, c5, c6].drop 3).take (Tryz.prog.cellsOf 34)) = some y3 := hf 3 _ rfl
  have h4 : DataW.trod enc Tryz.prog W base spare held n 36 (([c0, c1, c2, c3, c4, c5, c6].drop 4).take (Tryz.prog.cellsOf 36)) = some y4 := hf 4 _ rfl
  have h5 : DataW.trod enc Tryz.prog W base spare held n 37 (([c0, c1, c2, c3, c4, c5, c6].drop 6).take (Tryz.prog.cellsOf 37)) = some y5 := hf 5 _ rfl
  clear hf
  rw [Tryz.cellsTI] at h0 h1 h2
  rw [Tryz.cellsTK] at h3
  rw [Tryz.cellsTF] at h4
  rw [Tryz.cellsTES] at h5
  obtain ⟨d, e0, _, w0⟩ := DataW.trod_int Tryz.underlying3 h0
  obtain ⟨r, e1, _, w1⟩ := DataW.trod_int Tryz.underlying3 h1
  obtain ⟨c, e2, _, w2⟩ := DataW.trod_int Tryz.underlying3 h2
  obtain ⟨k, e3, _, w3⟩ := DataW.trod_int Tryz.underlying34 h3
  obtain ⟨p, q, e4, hp, hq⟩ := frac_trod h4
  obtain ⟨ea, ec, es, e5, hes, hok, hbk⟩ := ens_trod h5
  simp at e0 e1 e2 e3 e4 e5
  obtain ⟨rfl, rfl⟩ := e4
  subst e0 e1 e2 e3 e5
  refine ⟨(⟨d, r, c, k, (p, q), es⟩, ea, ec), rfl, ⟨i64_of w1, i64_of w2, i64_of w3, hp, hq, hok⟩, hes, ?_⟩
  simp only [Rows.uptoBulk, List.map_cons, List.map_nil, Rows.uptoBulkAll]
  omega
theorem load_bulk (l : List Nat) (f : Nat → ZA) (D : Nat → DataW H) (h : ∀ i, i ∈ l → (f i).1.es.length + 1 ≤ Rows.uptoBulk (D i)) : load (acts (l.map f)) ≤ Rows.uptoBulkAll (l.map D) := by
  induction l with
  | nil => simp [load, acts]
  | cons x r ih =>
    have h1 := h x (by simp)
    have h2 := ih fun i hi => h i (by simp [hi])
    unfold load acts at h2 ⊢
    simp only [List.map_cons, List.sum_cons, Rows.uptoBulkAll]
    omega
set_option maxRecDepth 100000 in
theorem scr_open {v : Value} {d : DataW H} {ps : List MemPlace} {r : Reach} {b0 : Nat} (hv : Value.okWide Tryz.prog W r b0 22 v) (h : DataW.Trod enc Tryz.prog W base spare held 22 v d ps) :
    ∃ (a : Option Addr) (c : Nat) (zs : List ZA), v = .slice a zs.length c ∧ Scr W (.slice a zs.length c) zs ∧ load (acts zs) + 1 ≤ Rows.uptoBulk d := by
  obtain ⟨a0, len0, cap0, rfl⟩ := okWide_slice Tryz.underlying22 hv
  obtain ⟨fuel, hf⟩ := h
  rcases Deep.open_slice Tryz.underlying22 hf with ⟨e, e2⟩ | ⟨a, len, cap, m, n, D, Pl, e, _, hl, hm, hmm, e2, hx⟩
  · have e' : Value.slice a0 len0 cap0 = .slice none 0 0 := by simpa [Value.cells] using e
    cases e'
    cases e2
    exact ⟨none, 0, [], rfl, ⟨⟨rfl, .inl ⟨none, 0, rfl, rfl, Nat.zero_le _, fun _ => rfl⟩⟩, fun z h => (by cases h)⟩, by simp [Rows.uptoBulk, load, acts]⟩
  · have e' : Value.slice a0 len0 cap0 = .slice (some a) len cap := by simpa [Value.cells] using e
    obtain ⟨rfl, rfl, rfl⟩ : some a = a0 ∧ len = len0 ∧ cap = cap0 := by cases e'; exact ⟨rfl, rfl, rfl⟩
    cases e2
    have hlm : len ≤ m := by rw [hmm]; split <;> omega
    rw [Tryz.cellsTX] at hx
    obtain ⟨f, hf2⟩ := Deep.choose_lt (n := m) (p := fun i (z : ZA) => (XOk z.1 ∧ Sl W 3 (.slice z.2.1 z.1.es.length z.2.2) z.1.es.length (z.1.es.flatMap enCells)) ∧ z.1.es.length + 1 ≤ Rows.uptoBulk (D i) ∧ ∀ j, j < 7 → W.cell? (a.add (i * 7 + j)) = (zCells z)[j]?) (fun i hi => by
      obtain ⟨cs', hc, ht⟩ := hx i hi
      obtain ⟨z, rfl, ho, hs, hb⟩ := x_trod ht
      obtain ⟨_, _, hat⟩ := World.cells?_some hc
      exact ⟨z, ⟨ho, hs⟩, hb, fun j hj => by rw [← Go.Deep.add_add]; exact hat j hj⟩)
    have hle : ((List.range len).map f).length = len := by simp
    refine ⟨some a, cap, (List.range len).map f, by rw [hle], ⟨by rw [hle]; exact sl_of zCells 7 zCells_len (by omega) f hl hm fun i hi j hj => (hf2 i (by omega)).2.2 j hj, fun z hz => ?_⟩, ?_⟩
    · obtain ⟨i, hi, rfl⟩ := List.mem_map.1 hz
      exact (hf2 i (by have := List.mem_range.1 hi; omega)).1
    · have h1 := load_bulk (List.range len) f D fun i hi => (hf2 i (by have := List.mem_range.1 hi; omega)).2.1
      have h2 := bulks.slice_elems (H := H) ((List.range len).map D) ((List.range (m - len)).map fun j => D (len + j))
      omega
set_option maxRecDepth 100000 in
theorem act_open {v : Value} {d : DataW H} {ps : List MemPlace} {r : Reach} {b0 : Nat} (hv : Value.okWide Tryz.prog W r b0 39 v) (h : DataW.Trod enc Tryz.prog W base spare held 39 v d ps) :
    ∃ (x : XA) (ea : Option Addr) (ec : Nat), v = actV x ea ec ∧ XOk x ∧ Sl W 3 (.slice ea x.es.length ec) x.es.length (x.es.flatMap enCells) ∧ x.es.length + 1 ≤ Rows.uptoBulk d := by
  obtain ⟨cs, rfl, _⟩ := okWide_struct Tryz.underlying39 hv
  obtain ⟨fuel, hf⟩ := h
  obtain ⟨z, e, ho, hs, hb⟩ := x_trod hf
  obtain ⟨l⟩ := cs
  have e' : l = zCells z := by simpa [Value.cells] using e
  subst e'
  exact ⟨z.1, z.2.1, z.2.2, rfl, ho, hs, hb⟩
set_option maxRecDepth 100000 in
theorem frac_open {v : Value} {d : DataW H} {ps : List MemPlace} {r : Reach} {b0 : Nat} (hv : Value.okWide Tryz.prog W r b0 36 v) (h : DataW.Trod enc Tryz.prog W base spare held 36 v d ps) :
    ∃ p q, v = .agg #[.int .i64 p, .int .i64 q] ∧ I64 p ∧ I64 q := by
  obtain ⟨cs, rfl, _⟩ := okWide_struct Tryz.underlying36 hv
  obtain ⟨fuel, hf⟩ := h
  obtain ⟨p, q, e, hp, hq⟩ := frac_trod hf
  obtain ⟨l⟩ := cs
  have e' : l = [IV p, IV q] := by simpa [Value.cells] using e
  subst e'
  exact ⟨p, q, rfl, hp, hq⟩
end
end Go.Proofs.YtaehklhbokocbaaGreatDoor
