/-
  What the laws stand on, part O: contracts and plain laws of PTold, Bulk, Kit, POpen; the conditions are each law's own.
-/
import Derived.Test.YtndndfobkbeolaaGreatDoorQW
import Derived.Test.YtndndfobkbeolaaGreatDoorQF
import Derived.Test.YtndndfobkbeolaaGreatDoorRows
import Derived.ProofKit
import Derived.LaidHandle
import Derived.LaidLaws
import Derived.Carry
import Derived.Deep.DeepHandedRow
import Derived.Test.YtndndfobkbeolaaGreatDoorQL
import Derived.Deep.Slices
import Derived.Deep.Fields
import Derived.ChangeSame
import Derived.Lib.SmallJoins
import Derived.ChangeMaps5
set_option linter.unusedVariables false
set_option linter.unusedSimpArgs false
namespace Go.Proofs.YtndndfobkbeolaaGreatDoor
open Go.RowKit Go.Extern.Stop Go.Stop Go.Extern
def BoolR (w : World) (p : Prop) (e : Ending) (w' : World) : Prop := ∃ b, e = .returned (.bool b) ∧ (p → b = true) ∧ Below w.heap.size w w'
set_option maxHeartbeats 2000000 in
theorem told_no1 (v : Value) (n k m j : Int) (is : Bool) (s t : ByteArray) (w : World) (hP : Calls Tryz.prog 23 #[v] w fun e w' => e = .returned (.tuple #[.string s, .int .i64 k, .bool is]) ∧ Below w.heap.size w w')
    (hN : ∀ W, Below w.heap.size w W → Calls Tryz.prog 24 #[v] W fun e w' => e = .returned (.int .i64 n) ∧ Below W.heap.size W w') (h0 : n ≠ m) :
    Calls Tryz.prog 8 #[v, .int .i64 m, .string t, .int .i64 j] w fun e w' => e = .returned (.bool false) ∧ Below w.heap.size w w' := by
  have HP := Lib.hid hP
  have HN := Lib.hid hN
  clear hP hN
  (try subst h0)
  (try subst his)
  (try subst hkj)
  go_enter Tryz.func8, Tryz.ntmps8
  go_wp2_with fail
  refine HP.out.mono ?_
  rintro e w1 ⟨rfl, hb⟩
  have HB := Lib.hid hb
  clear hb
  go_wp2_with fail
  refine (HN.out _ HB.out).mono ?_
  rintro e w2 ⟨rfl, hb2⟩
  have HB2 := Lib.hid hb2
  clear hb2
  go_wp2
  go_ret
  exact ⟨rfl, HB.out.trans (HB2.out.mono HB.out.size)⟩
set_option maxHeartbeats 2000000 in
theorem told_no2 (v : Value) (n k m j : Int) (is : Bool) (s t : ByteArray) (w : World) (hP : Calls Tryz.prog 23 #[v] w fun e w' => e = .returned (.tuple #[.string s, .int .i64 k, .bool is]) ∧ Below w.heap.size w w')
    (hN : ∀ W, Below w.heap.size w W → Calls Tryz.prog 24 #[v] W fun e w' => e = .returned (.int .i64 n) ∧ Below W.heap.size W w') (h0 : n = m) (his : is = true) (ht : t.toList.isEmpty = true) :
    Calls Tryz.prog 8 #[v, .int .i64 m, .string t, .int .i64 j] w fun e w' => e = .returned (.bool false) ∧ Below w.heap.size w w' := by
  have HP := Lib.hid hP
  have HN := Lib.hid hN
  clear hP hN
  (try subst h0)
  (try subst his)
  (try subst hkj)
  go_enter Tryz.func8, Tryz.ntmps8
  go_wp2_with fail
  refine HP.out.mono ?_
  rintro e w1 ⟨rfl, hb⟩
  have HB := Lib.hid hb
  clear hb
  go_wp2_with fail
  refine (HN.out _ HB.out).mono ?_
  rintro e w2 ⟨rfl, hb2⟩
  have HB2 := Lib.hid hb2
  clear hb2
  go_wp2
  go_ret
  exact ⟨rfl, HB.out.trans (HB2.out.mono HB.out.size)⟩
set_option maxHeartbeats 2000000 in
theorem told_no3 (v : Value) (n k m j : Int) (is : Bool) (s t : ByteArray) (w : World) (hP : Calls Tryz.prog 23 #[v] w fun e w' => e = .returned (.tuple #[.string s, .int .i64 k, .bool is]) ∧ Below w.heap.size w w')
    (hN : ∀ W, Below w.heap.size w W → Calls Tryz.prog 24 #[v] W fun e w' => e = .returned (.int .i64 n) ∧ Below W.heap.size W w') (h0 : n = m) (his : is = false) (ht : t.toList.isEmpty = false) :
    Calls Tryz.prog 8 #[v, .int .i64 m, .string t, .int .i64 j] w fun e w' => e = .returned (.bool false) ∧ Below w.heap.size w w' := by
  have HP := Lib.hid hP
  have HN := Lib.hid hN
  clear hP hN
  (try subst h0)
  (try subst his)
  (try subst hkj)
  go_enter Tryz.func8, Tryz.ntmps8
  go_wp2_with fail
  refine HP.out.mono ?_
  rintro e w1 ⟨rfl, hb⟩
  have HB := Lib.hid hb
  clear hb
  go_wp2_with fail
  refine (HN.out _ HB.out).mono ?_
  rintro e w2 ⟨rfl, hb2⟩
  have HB2 := Lib.hid hb2
  clear hb2
  go_wp2
  go_ret
  exact ⟨rfl, HB.out.trans (HB2.out.mono HB.out.size)⟩
set_option maxHeartbeats 2000000 in
theorem told_yes1 (v : Value) (n k m j : Int) (is : Bool) (s t : ByteArray) (w : World) (hP : Calls Tryz.prog 23 #[v] w fun e w' => e = .returned (.tuple #[.string s, .int .i64 k, .bool is]) ∧ Below w.heap.size w w')
    (hN : ∀ W, Below w.heap.size w W → Calls Tryz.prog 24 #[v] W fun e w' => e = .returned (.int .i64 n) ∧ Below W.heap.size W w') (h0 : n = m) (his : is = false) (ht : t.toList.isEmpty = true) :
    Calls Tryz.prog 8 #[v, .int .i64 m, .string t, .int .i64 j] w fun e w' => e = .returned (.bool true) ∧ Below w.heap.size w w' := by
  have HP := Lib.hid hP
  have HN := Lib.hid hN
  clear hP hN
  (try subst h0)
  (try subst his)
  (try subst hkj)
  go_enter Tryz.func8, Tryz.ntmps8
  go_wp2_with fail
  refine HP.out.mono ?_
  rintro e w1 ⟨rfl, hb⟩
  have HB := Lib.hid hb
  clear hb
  go_wp2_with fail
  refine (HN.out _ HB.out).mono ?_
  rintro e w2 ⟨rfl, hb2⟩
  have HB2 := Lib.hid hb2
  clear hb2
  go_wp2
  go_ret
  exact ⟨rfl, HB.out.trans (HB2.out.mono HB.out.size)⟩
set_option maxHeartbeats 2000000 in
theorem told_no4 (v : Value) (n k m j : Int) (is : Bool) (s t : ByteArray) (w : World) (hP : Calls Tryz.prog 23 #[v] w fun e w' => e = .returned (.tuple #[.string s, .int .i64 k, .bool is]) ∧ Below w.heap.size w w')
    (hN : ∀ W, Below w.heap.size w W → Calls Tryz.prog 24 #[v] W fun e w' => e = .returned (.int .i64 n) ∧ Below W.heap.size W w') (h0 : n = m) (his : is = true) (ht : t.toList.isEmpty = false) (hst : ¬ s.toList = t.toList) :
    Calls Tryz.prog 8 #[v, .int .i64 m, .string t, .int .i64 j] w fun e w' => e = .returned (.bool false) ∧ Below w.heap.size w w' := by
  have HP := Lib.hid hP
  have HN := Lib.hid hN
  clear hP hN
  (try subst h0)
  (try subst his)
  (try subst hkj)
  go_enter Tryz.func8, Tryz.ntmps8
  go_wp2_with fail
  refine HP.out.mono ?_
  rintro e w1 ⟨rfl, hb⟩
  have HB := Lib.hid hb
  clear hb
  go_wp2_with fail
  refine (HN.out _ HB.out).mono ?_
  rintro e w2 ⟨rfl, hb2⟩
  have HB2 := Lib.hid hb2
  clear hb2
  go_wp2
  go_ret
  exact ⟨rfl, HB.out.trans (HB2.out.mono HB.out.size)⟩
set_option maxHeartbeats 2000000 in
theorem told_no5 (v : Value) (n k m j : Int) (is : Bool) (s t : ByteArray) (w : World) (hP : Calls Tryz.prog 23 #[v] w fun e w' => e = .returned (.tuple #[.string s, .int .i64 k, .bool is]) ∧ Below w.heap.size w w')
    (hN : ∀ W, Below w.heap.size w W → Calls Tryz.prog 24 #[v] W fun e w' => e = .returned (.int .i64 n) ∧ Below W.heap.size W w') (h0 : n = m) (his : is = true) (ht : t.toList.isEmpty = false) (hst : s.toList = t.toList) (hkj : k ≠ j) :
    Calls Tryz.prog 8 #[v, .int .i64 m, .string t, .int .i64 j] w fun e w' => e = .returned (.bool false) ∧ Below w.heap.size w w' := by
  have HP := Lib.hid hP
  have HN := Lib.hid hN
  clear hP hN
  (try subst h0)
  (try subst his)
  (try subst hkj)
  go_enter Tryz.func8, Tryz.ntmps8
  go_wp2_with fail
  refine HP.out.mono ?_
  rintro e w1 ⟨rfl, hb⟩
  have HB := Lib.hid hb
  clear hb
  go_wp2_with fail
  refine (HN.out _ HB.out).mono ?_
  rintro e w2 ⟨rfl, hb2⟩
  have HB2 := Lib.hid hb2
  clear hb2
  go_wp2
  go_ret
  exact ⟨by simp [hkj], HB.out.trans (HB2.out.mono HB.out.size)⟩
set_option maxHeartbeats 2000000 in
theorem told_yes2 (v : Value) (n k m j : Int) (is : Bool) (s t : ByteArray) (w : World) (hP : Calls Tryz.prog 23 #[v] w fun e w' => e = .returned (.tuple #[.string s, .int .i64 k, .bool is]) ∧ Below w.heap.size w w')
    (hN : ∀ W, Below w.heap.size w W → Calls Tryz.prog 24 #[v] W fun e w' => e = .returned (.int .i64 n) ∧ Below W.heap.size W w') (h0 : n = m) (his : is = true) (ht : t.toList.isEmpty = false) (hst : s.toList = t.toList) (hkj : k = j) :
    Calls Tryz.prog 8 #[v, .int .i64 m, .string t, .int .i64 j] w fun e w' => e = .returned (.bool true) ∧ Below w.heap.size w w' := by
  have HP := Lib.hid hP
  have HN := Lib.hid hN
  clear hP hN
  (try subst h0)
  (try subst his)
  (try subst hkj)
  go_enter Tryz.func8, Tryz.ntmps8
  go_wp2_with fail
  refine HP.out.mono ?_
  rintro e w1 ⟨rfl, hb⟩
  have HB := Lib.hid hb
  clear hb
  go_wp2_with fail
  refine (HN.out _ HB.out).mono ?_
  rintro e w2 ⟨rfl, hb2⟩
  have HB2 := Lib.hid hb2
  clear hb2
  go_wp2
  go_ret
  exact ⟨rfl, HB.out.trans (HB2.out.mono HB.out.size)⟩
theorem told_gen (v : Value) (n k m j : Int) (is : Bool) (s t : ByteArray) (w : World) (hP : Calls Tryz.prog 23 #[v] w fun e w' => e = .returned (.tuple #[.string s, .int .i64 k, .bool is]) ∧ Below w.heap.size w w')
    (hN : ∀ W, Below w.heap.size w W → Calls Tryz.prog 24 #[v] W fun e w' => e = .returned (.int .i64 n) ∧ Below W.heap.size W w') (hi : is = !s.toList.isEmpty) (hk : is = false → k = 0) :
    Calls Tryz.prog 8 #[v, .int .i64 m, .string t, .int .i64 j] w (BoolR w ((n, s, k) = (m, t, j))) := by
  have hno : ∀ {e : Ending} {w' : World}, (¬ (n, s, k) = (m, t, j)) → (e = .returned (.bool false) ∧ Below w.heap.size w w') → BoolR w ((n, s, k) = (m, t, j)) e w' := fun h0 h => ⟨false, h.1, fun h3 => absurd h3 h0, h.2⟩
  have hin : (n, s, k) = (m, t, j) → n = m ∧ s = t ∧ k = j := fun h => by cases h; exact ⟨rfl, rfl, rfl⟩
  by_cases h0 : n = m
  · cases hs : is with
    | true =>
      cases ht : t.toList.isEmpty with
      | true => exact (told_no2 v n k m j is s t w hP hN h0 hs ht).mono fun e w' h => hno (fun h3 => by
          have := (hin h3).2.1; subst this; rw [ht, hs] at hi; cases hi) h
      | false =>
        by_cases hst : s.toList = t.toList
        · by_cases hkj : k = j
          · exact (told_yes2 v n k m j is s t w hP hN h0 hs ht hst hkj).mono fun e w' h => ⟨true, h.1, fun _ => rfl, h.2⟩
          · exact (told_no5 v n k m j is s t w hP hN h0 hs ht hst hkj).mono fun e w' h => hno (fun h3 => hkj (hin h3).2.2) h
        · exact (told_no4 v n k m j is s t w hP hN h0 hs ht hst).mono fun e w' h => hno (fun h3 => hst (by rw [(hin h3).2.1])) h
    | false =>
      cases ht : t.toList.isEmpty with
      | true => exact (told_yes1 v n k m j is s t w hP hN h0 hs ht).mono fun e w' h => ⟨true, h.1, fun _ => rfl, h.2⟩
      | false => exact (told_no3 v n k m j is s t w hP hN h0 hs ht).mono fun e w' h => hno (fun h3 => by
          have := (hin h3).2.1; subst this; rw [ht, hs] at hi; cases hi) h
  · exact (told_no1 v n k m j is s t w hP hN h0).mono fun e w' h => hno (fun h3 => h0 (hin h3).1) h
theorem noWh_nil : false = !(ByteArray.toList ⟨#[]⟩).isEmpty := by decide +kernel
theorem told_any (f g : Fl) (v : Value) (base : Nat) (w : World) (hg : Hg w) (h : ErrV w base f v) :
    Calls Tryz.prog 8 #[v, .int .i64 g.1, .string g.2.1, .int .i64 g.2.2] w (BoolR w (f = g)) := by
  obtain ⟨fn, fs, fk⟩ := f
  obtain ⟨gn, gs, gk⟩ := g
  rcases h with ⟨h1, rfl⟩ | ⟨h1, h2, h3, rfl⟩ | ⟨h1, h2, b, h3, rfl, hi⟩
  · cases h1
    exact told_gen _ 0 0 gn gk false ⟨#[]⟩ gs w (place_nil w) (fun W hb => number_nil W) noWh_nil (fun _ => rfl)
  · dsimp only at h1 h2
    subst h1 h2
    exact told_gen _ fn 0 gn gk false ⟨#[]⟩ gs w (place_E fn w hg) (fun W hb => number_E fn W (hg.below hb hg.lt)) noWh_nil (fun _ => rfl)
  · have hl := hi.lt
    exact told_gen _ fn fk gn gk true fs gs w (place_F b fs fk fn w hg hi) (fun W hb => number_F b fn W (hg.below hb hg.lt) (hi.below hb hl).2.2) (by dsimp only at h2; cases hx : fs.toList.isEmpty with | true => exact absurd (List.isEmpty_iff.1 hx) h2 | false => rfl) (fun h => by cases h)
end Go.Proofs.YtndndfobkbeolaaGreatDoor
namespace Go.Proofs.YtndndfobkbeolaaGreatDoor.bulks
theorem one_le {H : Type} (d : DataW H) : 1 ≤ Rows.uptoBulk d := by
  cases d with
  | lit l => cases l <;> simp [Rows.uptoBulk]
  | nil => simp [Rows.uptoBulk]
  | ptr d => simp [Rows.uptoBulk]
  | slice elems spare => simp [Rows.uptoBulk]
  | agg parts => simp [Rows.uptoBulk]
  | iface t d => simp [Rows.uptoBulk]
  | map entries => simp [Rows.uptoBulk]
  | held h => simp [Rows.uptoBulk]
theorem append {H : Type} (l r : List (DataW H)) : Rows.uptoBulkAll (l ++ r) = Rows.uptoBulkAll l + Rows.uptoBulkAll r := by
  induction l with
  | nil => simp [Rows.uptoBulkAll]
  | cons x l ih => simp only [List.cons_append, Rows.uptoBulkAll, ih]; omega
theorem length_le {H : Type} (l : List (DataW H)) : l.length ≤ Rows.uptoBulkAll l := by
  induction l with
  | nil => simp [Rows.uptoBulkAll]
  | cons x r ih => have := one_le x; simp only [Rows.uptoBulkAll, List.length_cons]; omega
theorem slice_le {H : Type} (elems spare : List (DataW H)) : elems.length + spare.length + 1 ≤ Rows.uptoBulk (.slice elems spare) := by
  have h1 := length_le elems
  have h2 := length_le spare
  simp only [Rows.uptoBulk]
  omega
theorem slice_elems {H : Type} (elems spare : List (DataW H)) : Rows.uptoBulkAll elems + 1 ≤ Rows.uptoBulk (.slice elems spare) := by
  simp only [Rows.uptoBulk]
  omega
theorem bound {H : Type} {l : List (DataW H)} (hk : Rows.uptoSmall H l = true) : Rows.uptoBulkAll l ≤ 1048576 := by
  simpa [Rows.uptoSmall] using hk
end Go.Proofs.YtndndfobkbeolaaGreatDoor.bulks
namespace Go.Proofs.YtndndfobkbeolaaGreatDoor
open Go.ChangeShapes Go.WideShapes Go.ChangeAt Go.RowKit
section
variable {H : Type} {enc : TypeId × Value → H} {P : Program}
theorem trodAll_below (hl : laidOutB P = true) {W W' : World} (hb : Below W.heap.size W W') :
    ∀ (ts : List TypeId) (vs : List Value) (ds : List (DataW H)) (ps : List MemPlace), (∀ t, t ∈ ts → P.readableRec t = true ∧ t < P.types.size) → (∀ x, x ∈ ps → x.block < W.heap.size) →
      DataW.TrodAll enc P W 0 (fun _ => true) true ts vs ds ps → DataW.TrodAll enc P W' 0 (fun b => decide (b < W.heap.size)) true ts vs ds ps
  | [], [], [], _, _, _, h => h
  | [], [], _ :: _, _, _, _, h => h.elim
  | [], _ :: _, _, _, _, _, h => by cases h
  | _ :: _, [], _, _, _, _, h => by cases h
  | _ :: _, _ :: _, [], _, _, _, h => by cases h
  | t :: ts, v :: vs, d :: ds, ps, hr, hlt, h => by
    obtain ⟨p, q, h1, h2, rfl⟩ := h
    exact ⟨p, q, Below.trod hl (hr t (by simp)).1 (hr t (by simp)).2 h1 hb (fun x hx => hlt x (by simp [hx])), trodAll_below hl hb ts vs ds q (fun u hu => hr u (by simp [hu])) (fun x hx => hlt x (by simp [hx])) h2, rfl⟩
theorem law_post {f : Func} {s : ChangeSpec} {apart fresh handsOn : Bool} {W W' : World} {args : Array Value} {ds gs : List (DataW H)} {before : List MemPlace} {tb : TypeId}
    (hl : laidOutB P = true) (hr : ∀ t, t ∈ f.params.toList → P.readableRec t = true ∧ t < P.types.size) (hres : f.resultTypes = #[tb]) (htb : P.underlying tb = some .bool) (hvars : s.vars = [])
    (hW : DataW.Whole enc P f.params.toList s.vars apart W args.toList ds gs before) (hfn : s.fn H (ds ++ gs) = { results := [.lit (.bool true)], args := ds }) (hb : Below W.heap.size W W') :
    s.post enc P f apart fresh handsOn false W args (.bool true) W' := by
  have hW' := hW
  obtain ⟨p, q, hA, hV, rfl, _, _⟩ := hW
  rw [hvars] at hV
  have hlt : ∀ x, x ∈ p → x.block < W.heap.size := fun x hx => hW'.lt x (by simp [hx])
  refine ⟨ds, gs, _, [], p, [], hW', ?_, ?_, ?_, hb.frame _, fun h => by cases h⟩
  · rw [hfn, hres]; exact trodAll_mk1 (shut_bool htb true)
  · rw [hfn]; exact trodAll_below hl hb _ _ _ _ hr hlt hA
  · rw [hfn, hvars]; rfl
end
theorem own : ownKnob Tryz.prog.godebug = none := by kernel_rfl
theorem laidOut : laidOutB Tryz.prog = true := by kernel_rfl
theorem Tryz.et : Tryz.prog.globalNamed "errors.errorType" = some 0 := by kernel_rfl
theorem Tryz.rt : (Tryz.prog.cutTypes.find? (·.1 == "internal/reflectlite.rtype")).map (·.2) = some 135 := by kernel_rfl
theorem Tryz.oneRow : ((List.range 199).filter fun t => Tryz.prog.rowNamed t [101, 114, 114, 111, 114]) = [34] := by kernel_rfl
theorem Tryz.size : Tryz.prog.types.size = 199 := by kernel_rfl
abbrev laidList : List (String × DataW Unit) := [("errors.errorType", Rows.laid_errors_errorType)]
theorem handle_of_laid {W : World} (h : laidMetH Tryz.prog laidList W) : Hg W := by
  have h' : laidMet Tryz.prog [] W ∧ handlesMet Tryz.prog laidList W := h
  obtain ⟨name, u, ty, e1, e2, e3, e4, e5⟩ := h'.2 _ (List.mem_singleton.2 rfl)
  have en : name = [101, 114, 114, 111, 114] := (Option.some.inj e1).symm
  subst en
  obtain rfl := Option.some.inj (Tryz.rt.symm.trans e2)
  have hm : ty ∈ (List.range 199).filter fun t => Tryz.prog.rowNamed t [101, 114, 114, 111, 114] := List.mem_filter.2 ⟨List.mem_range.2 (by rw [← Tryz.size]; exact e3), e4⟩
  rw [Tryz.oneRow] at hm
  obtain rfl := List.mem_singleton.1 hm
  have hh : typeHandle Tryz.prog 34 = .pointer (some ⟨1, 34, none⟩) := by kernel_rfl
  rw [hh] at e5
  have := World.var?_cell Tryz.et e5 0
  unfold Hg
  simpa using this
noncomputable def laidWorld (os : Os) : World :=
  let w0 := World.holding Tryz.prog os ⟨#[], #[], []⟩
  { w0 with heap := w0.heap.modify 0 fun
      | .cells _ t frozen => .cells #[.iface 135 (.agg #[.pointer (some ⟨1, 34, none⟩)])] t frozen
      | o => o }
theorem laid_met (os : Os) (args : Array Value) : laidMetH Tryz.prog laidList ((laidWorld os).forCall (fun _ _ => 0) ⟨#[], args, []⟩).memory :=
  laidMetH_of_parts (laidMet_nil _ _) (by kernel_rfl)
end Go.Proofs.YtndndfobkbeolaaGreatDoor
namespace Go.Proofs.YtndndfobkbeolaaGreatDoor
open Go.ChangeShapes Go.WideShapes Go.ChangeAt Go.RowKit Go.Deep Go.Joins
theorem Tryz.cellsTF : Tryz.prog.cellsOf 47 = 2 := by kernel_rfl
theorem Tryz.cellsTFS : Tryz.prog.cellsOf 22 = 1 := by kernel_rfl
theorem Tryz.cellsTL : Tryz.prog.cellsOf 49 = 4 := by kernel_rfl
theorem Tryz.cellsTLS : Tryz.prog.cellsOf 23 = 1 := by kernel_rfl
theorem Tryz.cellsTI : Tryz.prog.cellsOf 3 = 1 := by kernel_rfl
theorem Tryz.cellsTK : Tryz.prog.cellsOf 45 = 1 := by kernel_rfl
theorem i64_of {n : Int} (h : (Lit.int .i64 n).wf = true) : I64 n := by
  simp only [Lit.wf, Bool.and_eq_true, decide_eq_true_eq] at h
  exact h
theorem cell_spot {w : World} {a : Addr} {u : Value} (h : w.cell? a = some u) : a = ⟨a.block, a.off, none⟩ := by
  unfold World.cell? at h
  split at h
  · split at h
    · cases h
    · obtain ⟨x, y, z⟩ := a
      cases z with
      | none => rfl
      | some _ => simp_all
  · cases h
theorem two {α : Type} (l : List α) (h : l.length = 2) : ∃ a b, l = [a, b] := by
  match l, h with
  | [a, b], _ => exact ⟨a, b, rfl⟩
theorem three {α : Type} (l : List α) (h : l.length = 3) : ∃ a b c, l = [a, b, c] := by
  match l, h with
  | [a, b, c], _ => exact ⟨a, b, c, rfl⟩
theorem four {α : Type} (l : List α) (h : l.length = 4) : ∃ a b c d, l = [a, b, c, d] := by
  match l, h with
  | [a, b, c, d], _ => exact ⟨a, b, c, d, rfl⟩
instance : Inhabited LRow := ⟨⟨none, 0, 0, [], 0, (0, 0)⟩⟩
theorem sl_of {α : Type} {W : World} {a : Addr} {len cap : Nat} (g : α → List Value) (k : Nat) (hk : ∀ x, (g x).length = k) (hk0 : 0 < k) (f : Nat → α) (hl : len ≤ cap) (hm : cap ≤ maxLen) (h : ∀ i, i < len → ∀ j, j < k → W.cell? (a.add (i * k + j)) = (g (f i))[j]?) : Sl W k (.slice (some a) len cap) len (((List.range len).map f).flatMap g) := by
  refine ⟨by rw [flat_len g k hk]; simp, ?_⟩
  rcases Nat.eq_zero_or_pos len with rfl | hp
  · exact .inl ⟨some a, cap, by simp, by simp, hm, fun h => by cases h⟩
  · have h0 := h 0 hp 0 hk0
    have hg0 : (g (f 0))[0]? = some ((g (f 0))[0]'(by rw [hk]; exact hk0)) := List.getElem?_eq_getElem _
    rw [hg0, show a.add (0 * k + 0) = a by simp [Addr.add]] at h0
    have hs := cell_spot h0
    have hb : a.block < W.heap.size := World.block_lt_of_cell? _ _ h0
    refine .inr ⟨a.block, a.off, cap, by rw [← hs], hl, hm, hb, fun j u hj => ?_⟩
    obtain ⟨i, hi, j', rfl, hj', hu⟩ := flat_inv g k hk _ j u hj
    simp only [List.length_map, List.length_range] at hi
    simp only [List.getElem_map, List.getElem_range] at hu
    have := h i hi j' hj'
    rw [hu] at this
    rw [hs] at this
    rw [Addr.add_lit] at this
    exact this
theorem bulk_mem {H : Type} : ∀ (l : List (DataW H)) (x : DataW H), x ∈ l → Rows.uptoBulk x ≤ Rows.uptoBulkAll l
  | [], _, h => by cases h
  | y :: r, x, h => by
    simp only [Rows.uptoBulkAll]
    rcases List.mem_cons.1 h with rfl | h
    · omega
    · have := bulk_mem r x h
      omega
section
variable {H : Type} {enc : TypeId × Value → H} {W : World} {base : Nat} {spare : Nat → Bool} {held : Bool}
theorem frac_trod {fuel : Nat} {cs : List Value} {x : DataW H × List MemPlace} (h : DataW.trod enc Tryz.prog W base spare held fuel 47 cs = some x) : ∃ p q, cs = [IV p, IV q] ∧ I64 p ∧ I64 q := by
  obtain ⟨xs, n, _, _, hl, hxl, hf⟩ := DataW.trod_struct Tryz.underlying47 h
  rw [Tryz.cellsTF] at hl
  obtain ⟨c0, c1, rfl⟩ := two cs hl
  obtain ⟨y0, y1, rfl⟩ := two xs hxl
  have h0 : DataW.trod enc Tryz.prog W base spare held n 3 (([c0, c1].drop 0).take (Tryz.prog.cellsOf 3)) = some y0 := hf 0 _ rfl
  have h1 : DataW.trod enc Tryz.prog W base spare held n 3 (([c0, c1].drop 1).take (Tryz.prog.cellsOf 3)) = some y1 := hf 1 _ rfl
  rw [Tryz.cellsTI] at h0 h1
  obtain ⟨p, e0, _, w0⟩ := DataW.trod_int Tryz.underlying3 h0
  obtain ⟨q, e1, _, w1⟩ := DataW.trod_int Tryz.underlying3 h1
  simp at e0 e1
  subst e0 e1
  exact ⟨p, q, rfl, i64_of w0, i64_of w1⟩
theorem fracs_trod {fuel : Nat} {cs : List Value} {x : DataW H × List MemPlace} (h : DataW.trod enc Tryz.prog W base spare held fuel 22 cs = some x) :
    ∃ (ea : Option Addr) (n ec : Nat) (es : List Fr), cs = [.slice ea n ec] ∧ FrW W ea n ec es ∧ n + 1 ≤ Rows.uptoBulk x.1 := by
  rcases Deep.open_slice Tryz.underlying22 h with ⟨rfl, rfl⟩ | ⟨a, len, cap, m, n, D, Pl, rfl, _, hl, hm, hmm, rfl, hx⟩
  · exact ⟨none, 0, 0, [], rfl, ⟨rfl, ⟨rfl, .inl ⟨none, 0, rfl, rfl, Nat.zero_le _, fun _ => rfl⟩⟩, fun e h => (by cases h)⟩, by simp [Rows.uptoBulk]⟩
  · have hlm : len ≤ m := by rw [hmm]; split <;> omega
    rw [Tryz.cellsTF] at hx
    obtain ⟨f, hf2⟩ := Deep.choose_lt (n := m) (p := fun i (e : Fr) => (I64 e.1 ∧ I64 e.2) ∧ ∀ j, j < 2 → W.cell? (a.add (i * 2 + j)) = (frCells e)[j]?) (fun i hi => by
      obtain ⟨cs', hc, ht⟩ := hx i hi
      obtain ⟨p, q, rfl, hp, hq⟩ := frac_trod ht
      obtain ⟨_, _, hat⟩ := World.cells?_some hc
      exact ⟨(p, q), ⟨hp, hq⟩, fun j hj => by rw [← Go.Deep.add_add]; exact hat j hj⟩)
    have hle : ((List.range len).map f).length = len := by simp
    refine ⟨some a, len, cap, (List.range len).map f, rfl, ⟨hle, sl_of frCells 2 frCells_len (by omega) f hl hm fun i hi j hj => (hf2 i (by omega)).2 j hj, fun e he => ?_⟩, ?_⟩
    · obtain ⟨i, hi, rfl⟩ := List.mem_map.1 he
      exact (hf2 i (by have := List.mem_range.1 hi; omega)).1
    · have := bulks.slice_le (H := H) ((List.range len).map D) ((List.range (m - len)).map fun j => D (len + j))
      simp only [List.length_map, List.length_range] at this ⊢
      omega
theorem line_trod {fuel : Nat} {cs : List Value} {x : DataW H × List MemPlace} (h : DataW.trod enc Tryz.prog W base spare held fuel 49 cs = some x) : ∃ r : LRow, cs = lineCells r ∧ r.ok W ∧ r.n + 1 ≤ Rows.uptoBulk x.1 := by
  obtain ⟨xs, n, _, rfl, hl, hxl, hf⟩ := DataW.trod_struct Tryz.underlying49 h
  rw [Tryz.cellsTL] at hl
  obtain ⟨c0, c1, c2, c3, rfl⟩ := four cs hl
  obtain ⟨y0, y1, y2, rfl⟩ := three xs hxl
  have h0 : DataW.trod enc Tryz.prog W base spare held n 22 (([c0, c1, c2, c3].drop 0).take (Tryz.prog.cellsOf 22)) = some y0 := hf 0 _ rfl
  have h1 : DataW.trod enc Tryz.prog W base spare held n 45 (([c0, c1, c2, c3].drop 1).take (Tryz.prog.cellsOf 45)) = some y1 := hf 1 _ rfl
  have h2 : DataW.trod enc Tryz.prog W base spare held n 47 (([c0, c1, c2, c3].drop 2).take (Tryz.prog.cellsOf 47)) = some y2 := hf 2 _ rfl
  clear hf
  rw [Tryz.cellsTFS] at h0
  rw [Tryz.cellsTK] at h1
  rw [Tryz.cellsTF] at h2
  obtain ⟨ea, m, ec, es, e0, hfr, hbk⟩ := fracs_trod h0
  obtain ⟨k, e1, _, w1⟩ := DataW.trod_int Tryz.underlying45 h1
  obtain ⟨p, q, e2, hp, hq⟩ := frac_trod h2
  simp at e0 e1 e2
  obtain ⟨rfl, rfl⟩ := e2
  subst e0 e1
  refine ⟨⟨ea, m, ec, es, k, (p, q)⟩, rfl, ⟨hfr, i64_of w1, hp, hq⟩, ?_⟩
  simp only [Rows.uptoBulk, List.map_cons, List.map_nil, Rows.uptoBulkAll]
  omega
theorem lines_trod {fuel : Nat} {cs : List Value} {x : DataW H × List MemPlace} (h : DataW.trod enc Tryz.prog W base spare held fuel 23 cs = some x) :
    ∃ (a : Option Addr) (n c : Nat) (ls : List LRow), cs = [.slice a n c] ∧ ls.length = n ∧ Sl W 4 (.slice a n c) n (ls.flatMap lineCells) ∧ (∀ r, r ∈ ls → r.ok W ∧ r.n + 1 ≤ Rows.uptoBulk x.1) ∧ n + 1 ≤ Rows.uptoBulk x.1 := by
  rcases Deep.open_slice Tryz.underlying23 h with ⟨rfl, rfl⟩ | ⟨a, len, cap, m, n, D, Pl, rfl, _, hl, hm, hmm, rfl, hx⟩
  · exact ⟨none, 0, 0, [], rfl, rfl, ⟨rfl, .inl ⟨none, 0, rfl, rfl, Nat.zero_le _, fun _ => rfl⟩⟩, fun e h => (by cases h), by simp [Rows.uptoBulk]⟩
  · have hlm : len ≤ m := by rw [hmm]; split <;> omega
    rw [Tryz.cellsTL] at hx
    obtain ⟨f, hf2⟩ := Deep.choose_lt (n := m) (p := fun i (r : LRow) => r.ok W ∧ r.n + 1 ≤ Rows.uptoBulk (D i) ∧ ∀ j, j < 4 → W.cell? (a.add (i * 4 + j)) = (lineCells r)[j]?) (fun i hi => by
      obtain ⟨cs', hc, ht⟩ := hx i hi
      obtain ⟨r, rfl, ho, hb⟩ := line_trod ht
      obtain ⟨_, _, hat⟩ := World.cells?_some hc
      exact ⟨r, ho, hb, fun j hj => by rw [← Go.Deep.add_add]; exact hat j hj⟩)
    have hle : ((List.range len).map f).length = len := by simp
    have h2 := bulks.slice_elems (H := H) ((List.range len).map D) ((List.range (m - len)).map fun j => D (len + j))
    refine ⟨some a, len, cap, (List.range len).map f, rfl, hle, sl_of lineCells 4 lineCells_len (by omega) f hl hm fun i hi j hj => (hf2 i (by omega)).2.2 j hj, fun r hr => ?_, ?_⟩
    · obtain ⟨i, hi, rfl⟩ := List.mem_map.1 hr
      have hi2 := List.mem_range.1 hi
      have h3 := hf2 i (by omega)
      have h4 := bulk_mem ((List.range len).map D) (D i) (List.mem_map_of_mem hi)
      exact ⟨h3.1, by show _ ≤ Rows.uptoBulk (DataW.slice _ _); omega⟩
    · have := bulks.slice_le (H := H) ((List.range len).map D) ((List.range (m - len)).map fun j => D (len + j))
      simp only [List.length_map, List.length_range] at this ⊢
      omega
set_option maxRecDepth 100000 in
theorem raw_open {v : Value} {d : DataW H} {ps : List MemPlace} {r : Reach} {b0 : Nat} (hv : Value.okWide Tryz.prog W r b0 25 v) (h : DataW.Trod enc Tryz.prog W base spare held 25 v d ps) :
    ∃ (ca : Option Addr) (cn cc : Nat) (ra : Option Addr) (rn rc : Nat) (cost : List Fr) (lines : List LRow), v = .agg #[.slice ca cn cc, .slice ra rn rc] ∧ RawW W ca cn cc ra rn rc cost lines ∧ cn + 1 ≤ Rows.uptoBulk d ∧ rn + 1 ≤ Rows.uptoBulk d ∧ ∀ r, r ∈ lines → r.n + 1 ≤ Rows.uptoBulk d := by
  obtain ⟨cs, rfl, _⟩ := okWide_struct Tryz.underlying25 hv
  obtain ⟨fuel, hf⟩ := h
  obtain ⟨xs, n, _, e9, hl, hxl, hf⟩ := DataW.trod_struct Tryz.underlying25 hf
  obtain ⟨l⟩ := cs
  have hl2 : l.length = 2 := by
    have : Tryz.prog.cellsOf 25 = 2 := by kernel_rfl
    rw [this] at hl
    simpa [Value.cells] using hl
  obtain ⟨c0, c1, rfl⟩ := two l hl2
  obtain ⟨y0, y1, rfl⟩ := two xs hxl
  have h0 : DataW.trod enc Tryz.prog W base spare held n 22 (([c0, c1].drop 0).take (Tryz.prog.cellsOf 22)) = some y0 := hf 0 _ rfl
  have h1 : DataW.trod enc Tryz.prog W base spare held n 23 (([c0, c1].drop 1).take (Tryz.prog.cellsOf 23)) = some y1 := hf 1 _ rfl
  rw [Tryz.cellsTFS] at h0
  rw [Tryz.cellsTLS] at h1
  obtain ⟨ca, cn, cc, cost, e0, hfr, hb0⟩ := fracs_trod h0
  obtain ⟨ra, rn, rc, lines, e1, hlen, hsl, hok, hb1⟩ := lines_trod h1
  simp at e0 e1
  subst e0 e1
  have hd : d = .agg [y0.1, y1.1] := congrArg Prod.fst e9
  subst hd
  have hbk : Rows.uptoBulk (.agg [y0.1, y1.1] : DataW H) = Rows.uptoBulk y0.1 + (Rows.uptoBulk y1.1 + 0) + 1 := by simp only [Rows.uptoBulk, Rows.uptoBulkAll]
  refine ⟨ca, cn, cc, ra, rn, rc, cost, lines, rfl, ⟨hfr, hlen, hsl, fun r hr => (hok r hr).1⟩, by omega, by omega, fun r hr => ?_⟩
  have := (hok r hr).2
  omega
end
end Go.Proofs.YtndndfobkbeolaaGreatDoor
