/-
 What the laws stand on, part O: contracts and plain laws of Kit, Bulk, DOpen, POpen; the conditions are each law's own.
-/
import Derived.Test.YtmhainidincjhaaGreatDoorRows
import Derived.Test.YtmhainidincjhaaGreatDoorUF
import Derived.ProofKit
import Derived.LaidHandle
import Derived.LaidLaws
import Derived.Carry
import Derived.Deep.DeepHandedRow
import Derived.Test.YtmhainidincjhaaGreatDoorUV
import Derived.Deep.Slices
import Derived.Test.YtmhainidincjhaaGreatDoorUL
import Derived.ChangeSame
import Derived.ChangeMaps5
set_option linter.unusedVariables false
set_option linter.unusedSimpArgs false
set_option maxRecDepth 100000
set_option maxHeartbeats 16000000
namespace Go.Proofs.YtmhainidincjhaaGreatDoor
open Go.ChangeShapes Go.WideShapes Go.ChangeAt Go.RowKit
section
variable {H : Type} {enc : TypeId × Value → H} {P : Program}
theorem trodAll_below (hl : laidOutB P = true) {W W' : World} (hb : Below W.heap.size W W') :
  ∀ (ts : List TypeId) (vs : List Value) (ds : List (DataW H)) (ps : List MemPlace), (∀ t, t ∈ ts → P.readableRec t = true ∧ t < P.types.size) → (∀ x, x ∈ ps → x.block < W.heap.size) →
   DataW.TrodAll enc P W 0 (fun _ => true) true ts vs ds ps → DataW.TrodAll enc P W' 0 (fun b => decide (b < W.heap.size)) true ts vs ds ps
 | [], [], [], _, _, _, h => h
 | [], [], _ :: _, _, _, _, h => h.elim
 | [], _ :: _, _, _, _, _, h => by cases h
 | _ :: _, [], _, _, _, _, h => by cases h
 | _ :: _, _ :: _, [], _, _, _, h => by cases h
 | t :: ts, v :: vs, d :: ds, ps, hr, hlt, h => by
  obtain ⟨p, q, h1, h2, rfl⟩ := h
  exact ⟨p, q, Below.trod hl (hr t (by simp)).1 (hr t (by simp)).2 h1 hb (fun x hx => hlt x (by simp [hx])), trodAll_below hl hb ts vs ds q (fun u hu => hr u (by simp [hu])) (fun x hx => hlt x (by simp [hx])) h2, rfl⟩
theorem law_post {f : Func} {s : ChangeSpec} {apart fresh handsOn : Bool} {W W' : World} {args : Array Value} {ds gs : List (DataW H)} {before : List MemPlace} {tb : TypeId}
  (hl : laidOutB P = true) (hr : ∀ t, t ∈ f.params.toList → P.readableRec t = true ∧ t < P.types.size) (hres : f.resultTypes = #[tb]) (htb : P.underlying tb = some .bool) (hvars : s.vars = [])
  (hW : DataW.Whole enc P f.params.toList s.vars apart W args.toList ds gs before) (hfn : s.fn H (ds ++ gs) = { results := [.lit (.bool true)], args := ds }) (hb : Below W.heap.size W W') :
  s.post enc P f apart fresh handsOn false W args (.bool true) W' := by
 have hW' := hW
 obtain ⟨p, q, hA, hV, rfl, _, _⟩ := hW
 rw [hvars] at hV
 have hlt : ∀ x, x ∈ p → x.block < W.heap.size := fun x hx => hW'.lt x (by simp [hx])
 refine ⟨ds, gs, _, [], p, [], hW', ?_, ?_, ?_, hb.frame _, fun h => by cases h⟩
 ·
  rw [hfn, hres]; exact trodAll_mk1 (shut_bool htb true)
 ·
  rw [hfn]; exact trodAll_below hl hb _ _ _ _ hr hlt hA
 ·
  rw [hfn, hvars]; rfl
end
theorem own : ownKnob Tryz.prog.godebug = none := by kernel_rfl
theorem laidOut : laidOutB Tryz.prog = true := by kernel_rfl
theorem Tryz.et : Tryz.prog.globalNamed "errors.errorType" = some 0 := by kernel_rfl
theorem Tryz.rt : (Tryz.prog.cutTypes.find? (·.1 == "internal/reflectlite.rtype")).map (·.2) = some 265 := by kernel_rfl
theorem Tryz.oneRow : ((List.range 358).filter fun t => Tryz.prog.rowNamed t [101, 114, 114, 111, 114]) = [34] := by kernel_rfl
theorem Tryz.size : Tryz.prog.types.size = 358 := by kernel_rfl
abbrev laidList : List (String × DataW Unit) := [("errors.errorType", Rows.laid_errors_errorType)]
theorem handle_of_laid {W : World} (h : laidMetH Tryz.prog laidList W) : Hg W := by
 have h' : laidMet Tryz.prog [] W ∧ handlesMet Tryz.prog laidList W := h
 obtain ⟨name, u, ty, e1, e2, e3, e4, e5⟩ := h'.2 _ (List.mem_singleton.2 rfl)
 have en : name = [101, 114, 114, 111, 114] := (Option.some.inj e1).symm
 subst en
 obtain rfl := Option.some.inj (Tryz.rt.symm.trans e2)
 have hm : ty ∈ (List.range 358).filter fun t => Tryz.prog.rowNamed t [101, 114, 114, 111, 114] := List.mem_filter.2 ⟨List.mem_range.2 (by rw [← Tryz.size]; exact e3), e4⟩
 rw [Tryz.oneRow] at hm
 obtain rfl := List.mem_singleton.1 hm
 have hh : typeHandle Tryz.prog 34 = .pointer (some ⟨2, 34, none⟩) := by kernel_rfl
 rw [hh] at e5
 have := World.var?_cell Tryz.et e5 0
 unfold Hg
 simpa using this
noncomputable def laidWorld (os : Os) : World :=
 let w0 := World.holding Tryz.prog os ⟨#[], #[], []⟩
 { w0 with heap := w0.heap.modify 0 fun
   | .cells _ t frozen => .cells #[.iface 265 (.agg #[.pointer (some ⟨2, 34, none⟩)])] t frozen
   | o => o }
theorem laid_met (os : Os) (args : Array Value) : laidMetH Tryz.prog laidList ((laidWorld os).forCall (fun _ _ => 0) ⟨#[], args, []⟩).memory :=
 laidMetH_of_parts (laidMet_nil _ _) (by kernel_rfl)
end Go.Proofs.YtmhainidincjhaaGreatDoor
namespace Go.Proofs.YtmhainidincjhaaGreatDoor.bulks
theorem one_le {H : Type} (d : DataW H) : 1 ≤ Rows.uptoBulk d := by
 cases d with
 | lit l => cases l <;> simp [Rows.uptoBulk]
 | nil => simp [Rows.uptoBulk]
 | ptr d => simp [Rows.uptoBulk]
 | slice elems spare => simp [Rows.uptoBulk]
 | agg parts => simp [Rows.uptoBulk]
 | iface t d => simp [Rows.uptoBulk]
 | map entries => simp [Rows.uptoBulk]
 | held h => simp [Rows.uptoBulk]
theorem append {H : Type} (l r : List (DataW H)) : Rows.uptoBulkAll (l ++ r) = Rows.uptoBulkAll l + Rows.uptoBulkAll r := by
 induction l with
 | nil => simp [Rows.uptoBulkAll]
 | cons x l ih => simp only [List.cons_append, Rows.uptoBulkAll, ih]; omega
theorem length_le {H : Type} (l : List (DataW H)) : l.length ≤ Rows.uptoBulkAll l := by
 induction l with
 | nil => simp [Rows.uptoBulkAll]
 | cons x r ih => have := one_le x; simp only [Rows.uptoBulkAll, List.length_cons]; omega
theorem slice_le {H : Type} (elems spare : List (DataW H)) : elems.length + spare.length + 1 ≤ Rows.uptoBulk (.slice elems spare) := by
 have h1 := length_le elems
 have h2 := length_le spare
 simp only [Rows.uptoBulk]
 omega
end Go.Proofs.YtmhainidincjhaaGreatDoor.bulks
namespace Go.Proofs.YtmhainidincjhaaGreatDoor
open Go.ChangeShapes Go.WideShapes Go.ChangeAt Go.RowKit
def Byt (xs : List Int) : Prop := ∀ x, x ∈ xs → 0 ≤ x ∧ x ≤ 255
theorem Byt.nil : Byt [] := fun _ h => by cases h
section
variable {H : Type} {enc : TypeId × Value → H} {W : World} {base : Nat} {spare : Nat → Bool} {held : Bool}
theorem len_lits {k : IntKind} (zs : List Int) : (lits (H := H) k zs).length = zs.length := by unfold lits; simp
theorem cell_spot {w : World} {a : Addr} {u : Value} (h : w.cell? a = some u) : a = ⟨a.block, a.off, none⟩ := by
 unfold World.cell? at h
 split at h
 ·
  split at h
  ·
   cases h
  ·
   obtain ⟨x, y, z⟩ := a
   cases z with
   | none => rfl
   | some _ => simp_all
 ·
  cases h
theorem cell_add {w : World} {a : Addr} {n : Nat} {f : Nat → Value} (h : ∀ i, i < n → w.cell? (a.add i) = some (f i)) (hn : 0 < n) : a = ⟨a.block, a.off, none⟩ ∧ a.block < w.heap.size ∧ ∀ i, i < n → w.cell? ⟨a.block, a.off + i, none⟩ = some (f i) := by
 have h0 := h 0 hn
 rw [show a.add 0 = a from rfl] at h0
 have e := cell_spot h0
 refine ⟨e, World.block_lt_of_cell? _ _ h0, fun i hi => ?_⟩
 have := h i hi
 rw [e] at this
 rw [Addr.add_lit] at this
 exact this
end
theorem Tryz.cellsTP : Tryz.prog.cellsOf 26 = 3 := by kernel_rfl
theorem Tryz.cellsTWH : Tryz.prog.cellsOf 24 = 2 := by kernel_rfl
theorem Tryz.cellsTWS : Tryz.prog.cellsOf 22 = 1 := by kernel_rfl
theorem Tryz.cellsTW : Tryz.prog.cellsOf 164 = 1 := by kernel_rfl
theorem Tryz.cellsTBO : Tryz.prog.cellsOf 4 = 1 := by kernel_rfl
theorem lit_u64 {n : Int} (h : (Lit.int .u64 n).wf = true) : 0 ≤ n ∧ n ≤ 18446744073709551615 := by
 simp only [Lit.wf, Bool.and_eq_true, decide_eq_true_eq] at h
 exact h
theorem two {α : Type} (l : List α) (h : l.length = 2) : ∃ a b, l = [a, b] := by
 match l, h with
 | [a, b], _ => exact ⟨a, b, rfl⟩
theorem three {α : Type} (l : List α) (h : l.length = 3) : ∃ a b c, l = [a, b, c] := by
 match l, h with
 | [a, b, c], _ => exact ⟨a, b, c, rfl⟩
def Words (w : World) (a : Option Addr) (n c : Nat) (xs : List Nat) : Prop := Sl w 1 (.slice a n c) n (xs.map UV) ∧ ∀ x ∈ xs, x < W64
section
variable {H : Type} {enc : TypeId × Value → H} {W : World} {base : Nat} {spare : Nat → Bool} {held : Bool}
theorem words_trod {fuel : Nat} {cs : List Value} {x : DataW H × List MemPlace} (h : DataW.trod enc Tryz.prog W base spare held fuel 22 cs = some x) :
  ∃ (a : Option Addr) (n c : Nat) (xs : List Nat), cs = [.slice a n c] ∧ Words W a n c xs ∧ n + 1 ≤ Rows.uptoBulk x.1 := by
 rcases open_ints Tryz.underlying22 Tryz.underlying164 Tryz.cellsTW h with ⟨rfl, rfl⟩ | ⟨a, len, cap, zs, rfl, _, hl, hm, hz, rfl, hc, hw⟩
 ·
  exact ⟨none, 0, 0, [], rfl, ⟨⟨rfl, .inl ⟨none, 0, rfl, rfl, Nat.zero_le _, fun _ => rfl⟩⟩, fun _ h => by cases h⟩, by simp [Rows.uptoBulk]⟩
 ·
  have hlz : len ≤ zs.length := by rw [hz]; split <;> omega
  have htl : (zs.take len).length = len := by rw [List.length_take]; omega
  have hwd : ∀ x, x ∈ zs → 0 ≤ x ∧ x ≤ 18446744073709551615 := fun x hx => lit_u64 (hw x hx)
  refine ⟨some a, len, cap, (zs.take len).map Int.toNat, rfl, ⟨?_, fun x hx => ?_⟩, ?_⟩
  ·
   refine ⟨by rw [List.length_map, List.length_map]; omega, ?_⟩
   rcases Nat.eq_zero_or_pos len with rfl | hp
   ·
    exact .inl ⟨_, _, rfl, rfl, hm, fun h => by cases h⟩
   ·
    obtain ⟨e, hb, hc'⟩ := cell_add hc (by omega)
    refine .inr ⟨a.block, a.off, cap, by rw [← e], hl, hm, hb, fun j u hj => ?_⟩
    rw [List.getElem?_map, List.getElem?_map, List.getElem?_take] at hj
    split at hj
    ·
     rename_i hjl
     have h1 := hc' j (by omega)
     have hjz : j < zs.length := by omega
     rw [List.getElem?_eq_getElem hjz] at hj
     have h2 := hwd _ (List.getElem_mem hjz)
     rw [h1, ← hj]
     simp only [Option.map_some, List.getD, List.getElem?_eq_getElem hjz, Option.getD_some]
     show some (Value.int IntKind.u64 _) = some (Value.int IntKind.u64 _)
     rw [Int.toNat_of_nonneg h2.1]
    ·
     cases hj
  ·
   obtain ⟨y, hy, rfl⟩ := List.mem_map.1 hx
   have := hwd y (List.mem_of_mem_take hy)
   unfold W64
   omega
  ·
   have := bulks.slice_le (H := H) (lits .u64 (zs.take len)) (lits .u64 (zs.drop len))
   rw [len_lits, len_lits] at this
   show len + 1 ≤ Rows.uptoBulk (DataW.slice (lits .u64 (zs.take len)) (lits .u64 (zs.drop len)))
   omega
theorem part_trod {fuel : Nat} {cs : List Value} {x : DataW H × List MemPlace} (h : DataW.trod enc Tryz.prog W base spare held fuel 26 cs = some x) :
  ∃ (sg : Bool) (a : Option Addr) (n c : Nat) (b : Option Addr) (m d : Nat) (xs ys : List Nat), cs = [.bool sg, .slice a n c, .slice b m d] ∧ Words W a n c xs ∧ Words W b m d ys ∧ n + m + 2 ≤ Rows.uptoBulk x.1 := by
 obtain ⟨ds, k, _, rfl, hl, hxl, hf⟩ := DataW.trod_struct Tryz.underlying26 h
 rw [Tryz.cellsTP] at hl
 obtain ⟨c0, c1, c2, rfl⟩ := three cs hl
 obtain ⟨y0, y1, rfl⟩ := two ds hxl
 have h0 : DataW.trod enc Tryz.prog W base spare held k 24 (([c0, c1, c2].drop 0).take (Tryz.prog.cellsOf 24)) = some y0 := hf 0 _ rfl
 have h1 : DataW.trod enc Tryz.prog W base spare held k 22 (([c0, c1, c2].drop 2).take (Tryz.prog.cellsOf 22)) = some y1 := hf 1 _ rfl
 clear hf
 rw [Tryz.cellsTWH] at h0
 rw [Tryz.cellsTWS] at h1
 obtain ⟨es, k2, _, e9, hl2, hxl2, hf2⟩ := DataW.trod_struct Tryz.underlying24 h0
 obtain ⟨z0, z1, rfl⟩ := two es hxl2
 have g0 : DataW.trod enc Tryz.prog W base spare held k2 4 ((([c0, c1, c2].drop 0).take 2 |>.drop 0).take (Tryz.prog.cellsOf 4)) = some z0 := hf2 0 _ rfl
 have g1 : DataW.trod enc Tryz.prog W base spare held k2 22 ((([c0, c1, c2].drop 0).take 2 |>.drop 1).take (Tryz.prog.cellsOf 22)) = some z1 := hf2 1 _ rfl
 clear hf2
 rw [Tryz.cellsTBO] at g0
 rw [Tryz.cellsTWS] at g1
 obtain ⟨sg, e0, _⟩ := DataW.trod_bool Tryz.underlying4 g0
 obtain ⟨a, n, c, xs, e1, hw1, hb1⟩ := words_trod g1
 obtain ⟨b, m, d, ys, e2, hw2, hb2⟩ := words_trod h1
 simp at e0 e1 e2
 subst e0 e1 e2
 refine ⟨sg, a, n, c, b, m, d, xs, ys, rfl, hw1, hw2, ?_⟩
 have hy : y0.1 = .agg [z0.1, z1.1] := congrArg Prod.fst e9
 have hz0 := bulks.one_le z0.1
 simp only [Rows.uptoBulk, List.map_cons, List.map_nil, Rows.uptoBulkAll, hy]
 omega
theorem part_open {v : Value} {d : DataW H} {ps : List MemPlace} {r : Reach} {b0 : Nat} (hv : Value.okWide Tryz.prog W r b0 26 v) (h : DataW.Trod enc Tryz.prog W base spare held 26 v d ps) :
  ∃ (sg : Bool) (a : Option Addr) (n c : Nat) (b : Option Addr) (m e : Nat) (xs ys : List Nat), v = .agg #[.bool sg, .slice a n c, .slice b m e] ∧ Words W a n c xs ∧ Words W b m e ys ∧ n + m + 2 ≤ Rows.uptoBulk d := by
 obtain ⟨cs, rfl, _⟩ := okWide_struct Tryz.underlying26 hv
 obtain ⟨fuel, hf⟩ := h
 obtain ⟨sg, a, n, c, b, m, e, xs, ys, hc, h1, h2, h3⟩ := part_trod hf
 obtain ⟨l⟩ := cs
 have hc : l = [.bool sg, .slice a n c, .slice b m e] := by simpa [Value.cells] using hc
 subst hc
 exact ⟨sg, a, n, c, b, m, e, xs, ys, rfl, h1, h2, h3⟩
end
end Go.Proofs.YtmhainidincjhaaGreatDoor
