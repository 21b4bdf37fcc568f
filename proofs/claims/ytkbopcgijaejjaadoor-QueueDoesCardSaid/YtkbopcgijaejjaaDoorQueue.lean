/-
  A queue in memory; at, Len, All, Busy and Ready by contract; the conditions: the queue's cells, and how many jobs there are.
  Printed by a program of this repository (wip/qu1.py).
-/
import Derived.Test.YtkbopcgijaejjaaDoorChecked
import Derived.Test.YtkbopcgijaejjaaDoorOwn
import Derived.LoopTactic
import Derived.Lib.Hide
import Derived.Deep.QuietTactic
import Derived.BigQuiet
import Derived.OwnWalk
import Derived.Laws.StructEq
import Derived.Shelf.Abstract
namespace Go.Proofs.YtkbopcgijaejjaaDoor
open Go.RowKit

/-- A row: its key, its jobs, whether a worker has its first one. -/
structure Rw where
  t : Int
  s : Int
  jobs : List Int
  busy : Bool
abbrev IV (n : Int) : Value := .int .i64 n
def rowCells (p : Rw × Value) : List Value := [.int .i64 p.1.t, .int .i64 p.1.s, p.2, .bool p.1.busy]
def kyCells (k : Int × Int) : List Value := [.int .i64 k.1, .int .i64 k.2]
/-- A row's jobs. -/
def jp (p : Rw × Value) : Pc := ⟨p.2, 3, 1, p.1.jobs.length, p.1.jobs.map IV⟩
def qPs (rv wv bv : Value) (RS : List (Rw × Value)) (ws : List (Int × Int)) (bs : List Bool) : List Pc :=
  ⟨rv, 67, 4, RS.length, RS.flatMap rowCells⟩ :: ⟨wv, 29, 2, ws.length, ws.flatMap kyCells⟩ :: ⟨bv, 4, 1, bs.length, bs.map Value.bool⟩ :: RS.map jp
/-- A queue: its three cells; its rows, its workers; it lies in the blocks F alone. -/
def QS (w : World) (qb : Nat) (F : Nat → Prop) (RS : List (Rw × Value)) (ws : List (Int × Int)) (bs : List Bool) : Prop :=
  ∃ (ra wa ba : Option Addr) (rc wc bc : Nat), w.heap[qb]? = some (.cells #[.slice ra RS.length rc, .slice wa ws.length wc, .slice ba bs.length bc] 65 (0, 0)) ∧
    Own w (qPs (.slice ra RS.length rc) (.slice wa ws.length wc) (.slice ba bs.length bc) RS ws bs) ∧ F qb ∧ (∀ k, Foot (qPs (.slice ra RS.length rc) (.slice wa ws.length wc) (.slice ba bs.length bc) RS ws bs) k → F k ∧ k ≠ qb) ∧ ∀ k, F k → k < w.heap.size
theorem QS.keeps {w w' : World} {qb : Nat} {F S : Nat → Prop} {RS : List (Rw × Value)} {ws : List (Int × Int)} {bs : List Bool} (h : QS w qb F RS ws bs) (hk : Keeps w w' S) (hs : ∀ k, F k → ¬ S k) : QS w' qb F RS ws bs := by
  obtain ⟨ra, wa, ba, rc, wc, bc, h1, h2, h3, h4, h5⟩ := h
  exact ⟨ra, wa, ba, rc, wc, bc, (hk.block qb (lt_of_block h1) (hs qb h3)).trans h1, h2.keeps hk fun k hf => hs k (h4 k hf).1, h3, h4, fun k h => Nat.lt_of_lt_of_le (h5 k h) hk.size⟩
theorem QS.below {w w' : World} {qb : Nat} {F : Nat → Prop} {RS : List (Rw × Value)} {ws : List (Int × Int)} {bs : List Bool} (h : QS w qb F RS ws bs) (hb : Below w.heap.size w w') : QS w' qb F RS ws bs := by
  obtain ⟨_, _, _, _, _, _, _, _, _, _, h5⟩ := id h
  exact h.keeps (Keeps.of_below hb (S := fun k => w.heap.size ≤ k) fun b h _ => h) fun k hF hn => by have := h5 k hF; omega
/-- What the functions read of a queue. -/
structure QR (w : World) (qb : Nat) (ra wa ba : Option Addr) (rc wc bc : Nat) (RS : List (Rw × Value)) (ws : List (Int × Int)) (bs : List Bool) : Prop where
  c0 : w.cell? ⟨qb, 0, none⟩ = some (.slice ra RS.length rc)
  c1 : w.cell? ⟨qb, 1, none⟩ = some (.slice wa ws.length wc)
  c2 : w.cell? ⟨qb, 2, none⟩ = some (.slice ba bs.length bc)
  rows : Sl w 4 (.slice ra RS.length rc) RS.length (RS.flatMap rowCells)
  work : Sl w 2 (.slice wa ws.length wc) ws.length (ws.flatMap kyCells)
  busy : Sl w 1 (.slice ba bs.length bc) bs.length (bs.map Value.bool)
  jobs : ∀ p, p ∈ RS → Sl w 1 p.2 p.1.jobs.length (p.1.jobs.map IV)
theorem QS.read {w : World} {qb : Nat} {F : Nat → Prop} {RS : List (Rw × Value)} {ws : List (Int × Int)} {bs : List Bool} (h : QS w qb F RS ws bs) : ∃ ra wa ba rc wc bc, QR w qb ra wa ba rc wc bc RS ws bs := by
  obtain ⟨ra, wa, ba, rc, wc, bc, h1, h2, _⟩ := h
  have m0 := h2.1 ⟨.slice ra RS.length rc, 67, 4, RS.length, RS.flatMap rowCells⟩ (by simp [qPs])
  have m1 := h2.1 ⟨.slice wa ws.length wc, 29, 2, ws.length, ws.flatMap kyCells⟩ (by simp [qPs])
  have m2 := h2.1 ⟨.slice ba bs.length bc, 4, 1, bs.length, bs.map Value.bool⟩ (by simp [qPs])
  exact ⟨ra, wa, ba, rc, wc, bc, cell_of_block h1 rfl, cell_of_block h1 rfl, cell_of_block h1 rfl, Sl.ofMid (show Mid _ _ _ _ _ _ _ from m0), Sl.ofMid (show Mid _ _ _ _ _ _ _ from m1), Sl.ofMid (show Mid _ _ _ _ _ _ _ from m2), fun p hp => by
    have := h2.1 (jp p) (by simp only [qPs, List.mem_cons, List.mem_map]; exact .inr (.inr (.inr ⟨p, hp, rfl⟩)))
    exact Sl.ofMid (show Mid _ _ _ _ _ _ _ from this)⟩
/-- A row's cells. -/
theorem row_get {w wr : World} {a : Option Addr} {c : Nat} {RS : List (Rw × Value)} (h : Sl w 4 (.slice a RS.length c) RS.length (RS.flatMap rowCells)) (hb : Below w.heap.size w wr) (k : Nat) (hk : k < RS.length) :
    ∃ b o, a = some ⟨b, o, none⟩ ∧ b < w.heap.size ∧ wr.cell? ⟨b, o + k * 4, none⟩ = some (.int .i64 RS[k].1.t) ∧ wr.cell? ⟨b, o + k * 4 + 1, none⟩ = some (.int .i64 RS[k].1.s) ∧ wr.cell? ⟨b, o + k * 4 + 2, none⟩ = some RS[k].2 ∧ wr.cell? ⟨b, o + k * 4 + 3, none⟩ = some (.bool RS[k].1.busy) := by
  obtain ⟨b, o, c', e, h1, h2, h3, h4⟩ := h.plain (by omega)
  cases e
  have hc := fun j u hj => (hb.cell (p := ⟨b, o + (k * 4 + j), none⟩) h3).trans (h4 _ u (flat_at rowCells 4 (fun _ => rfl) RS k hk j u hj))
  have c0 := hc 0 _ rfl
  have c1 := hc 1 _ rfl
  have c2 := hc 2 _ rfl
  have c3 := hc 3 _ rfl
  simp only [← Nat.add_assoc, Nat.add_zero] at c0 c1 c2 c3
  exact ⟨b, o, rfl, h3, c0, c1, c2, c3⟩
theorem Sl.lenI {w : World} {size n : Nat} {a : Option Addr} {c : Nat} {cs : List Value} (h : Sl w size (.slice a n c) n cs) : n ≤ 9223372036854775807 ∧ n ≤ c ∧ c ≤ 9223372036854775807 := by
  obtain ⟨a', c', e, h1, h2, _⟩ := h.len
  cases e
  unfold maxLen at h2; omega

/-- Is a row a key's? -/
def keyIs (t s : Int) (p : Rw × Value) : Prop := p.1.t = t ∧ p.1.s = s
instance (t s : Int) (p : Rw × Value) : Decidable (keyIs t s p) := inferInstanceAs (Decidable (_ ∧ _))
theorem Tryd.enterCl : ∀ args w, (callFunc 41 args).run Tryd.prog w = .ok (.enter 41 args) w := enters_of Tryd.func41 (by kernel_rfl) rfl

set_option maxHeartbeats 1000000 in
theorem cl_yes (tb : Nat) (t s t' s' : Int) (jv : Value) (z : Bool) (w : World) (h0 : w.cell? ⟨tb, 0, none⟩ = some (.int .i64 t)) (h1 : w.cell? ⟨tb, 1, none⟩ = some (.int .i64 s)) (ht : t' = t) (hs : s' = s) :
    Calls Tryd.prog 41 #[.agg #[.int .i64 t', .int .i64 s', jv, .bool z], .pointer (some ⟨tb, 0, none⟩)] w fun e w' => e = .returned (.bool true) ∧ Below w.heap.size w w' := by
  have hlt := World.block_lt_of_cell? _ _ h0
  subst ht hs
  go_enter Tryd.func41, Tryd.ntmps41
  go_wp2
  go_ret
  exact ⟨by first | rfl | simp, (Below.refl _ _).alloc (Nat.le_refl _) _⟩

set_option maxHeartbeats 1000000 in
theorem cl_not (tb : Nat) (t s t' s' : Int) (jv : Value) (z : Bool) (w : World) (h0 : w.cell? ⟨tb, 0, none⟩ = some (.int .i64 t)) (h1 : w.cell? ⟨tb, 1, none⟩ = some (.int .i64 s)) (ht : t' ≠ t) :
    Calls Tryd.prog 41 #[.agg #[.int .i64 t', .int .i64 s', jv, .bool z], .pointer (some ⟨tb, 0, none⟩)] w fun e w' => e = .returned (.bool false) ∧ Below w.heap.size w w' := by
  have hlt := World.block_lt_of_cell? _ _ h0
  have b0 : (t' == t) = false := beq_eq_false_iff_ne.2 ht
  clear ht
  go_enter Tryd.func41, Tryd.ntmps41
  go_wp2
  go_ret
  exact ⟨by first | rfl | simp, (Below.refl _ _).alloc (Nat.le_refl _) _⟩

set_option maxHeartbeats 1000000 in
theorem cl_nos (tb : Nat) (t s t' s' : Int) (jv : Value) (z : Bool) (w : World) (h0 : w.cell? ⟨tb, 0, none⟩ = some (.int .i64 t)) (h1 : w.cell? ⟨tb, 1, none⟩ = some (.int .i64 s)) (ht : t' = t) (hs : s' ≠ s) :
    Calls Tryd.prog 41 #[.agg #[.int .i64 t', .int .i64 s', jv, .bool z], .pointer (some ⟨tb, 0, none⟩)] w fun e w' => e = .returned (.bool false) ∧ Below w.heap.size w w' := by
  have hlt := World.block_lt_of_cell? _ _ h0
  subst ht
  have b0 : (s' == s) = false := beq_eq_false_iff_ne.2 hs
  clear hs
  go_enter Tryd.func41, Tryd.ntmps41
  go_wp2
  go_ret
  exact ⟨by first | rfl | simp, (Below.refl _ _).alloc (Nat.le_refl _) _⟩


theorem cl_no (tb : Nat) (t s : Int) (p : Rw × Value) (w : World) (h0 : w.cell? ⟨tb, 0, none⟩ = some (.int .i64 t)) (h1 : w.cell? ⟨tb, 1, none⟩ = some (.int .i64 s)) (hn : ¬ keyIs t s p) :
    Calls Tryd.prog 41 #[.agg #[.int .i64 p.1.t, .int .i64 p.1.s, p.2, .bool p.1.busy], .pointer (some ⟨tb, 0, none⟩)] w fun e w' => e = .returned (.bool false) ∧ Below w.heap.size w w' := by
  by_cases ht : p.1.t = t
  · exact cl_nos tb t s _ _ _ _ w h0 h1 ht fun hs => hn ⟨ht, hs⟩
  · exact cl_not tb t s _ _ _ _ w h0 h1 ht

set_option maxRecDepth 100000 in
set_option maxHeartbeats 1000000 in
theorem index_hit (tb : Nat) (a : Option Addr) (c : Nat) (RS : List (Rw × Value)) (t s : Int) (i : Nat) (w : World) (k0 : w.cell? ⟨tb, 0, none⟩ = some (.int .i64 t)) (k1 : w.cell? ⟨tb, 1, none⟩ = some (.int .i64 s)) (hl : Sl w 4 (.slice a RS.length c) RS.length (RS.flatMap rowCells)) (hi : i < RS.length) (h1 : keyIs t s RS[i]) (h0 : ∀ (j : Nat) (hj : j < i), ¬ keyIs t s (RS[j]'(by omega))) :
    Calls Tryd.prog 40 #[.slice a RS.length c, .func (.func 41) #[] #[.pointer (some ⟨tb, 0, none⟩)]] w fun e w' => e = .returned (.int .i64 i) ∧ Below w.heap.size w w' := by
  have hlt0 := World.block_lt_of_cell? _ _ k0
  have eg := Tryd.enterCl
  have hlen := hl.lenI
  have HL := Lib.hid hl
  have H0 := Lib.hid h0
  have K0 := Lib.hid k0
  have K1 := Lib.hid k1
  have H1 := Lib.hid h1
  clear hl h0 k0 k1 h1
  go_enter Tryd.func40, Tryd.ntmps40
  go_wp2
  go_loopw [8] (fun iv wr => ∃ k : Nat, k ≤ i ∧ iv = .int .i64 k ∧ Below w.heap.size w wr) (fun iv _ => RS.length - (intOf iv).toNat)
  case atStart => exact ⟨0, Nat.zero_le _, rfl, Below.refl _ _⟩
  case round =>
    obtain ⟨k, hk, rfl, hb⟩ := hrel
    obtain ⟨b, o, rfl, _, c0, c1, c2, c3⟩ := row_get HL.out hb k (by omega)
    have i0 : (0 : Int) ≤ (k : Int) := by omega
    have i1 : (k : Int) < (RS.length : Int) := by omega
    have hw0 := (hb.cell (p := ⟨tb, 0, none⟩) hlt0).trans K0.out
    have hw1 := (hb.cell (p := ⟨tb, 1, none⟩) hlt0).trans K1.out
    have HB := Lib.hid hb
    clear hb
    by_cases he : k = i
    · subst he
      have hy := cl_yes tb t s RS[k].1.t RS[k].1.s RS[k].2 RS[k].1.busy wr hw0 hw1 H1.out.1 H1.out.2
      generalize hG : RS[k] = G at c0 c1 c2 c3 hy
      clear hG
      obtain ⟨⟨t', s', js, z⟩, jv⟩ := G
      simp only at c0 c1 c2 c3 hy
      have HY := Lib.hid hy
      clear hy hw0 hw1
      go_wp2_with (go_at_fn 41; refine HY.out.mono ?_; rintro e w1 ⟨rfl, hb1⟩)
      go_ret
      exact ⟨rfl, HB.out.trans (Below.mono (by assumption) HB.out.size)⟩
    · skip
      have hy := cl_no tb t s RS[k] wr hw0 hw1 (H0.out k (by omega))
      generalize hG : RS[k] = G at c0 c1 c2 c3 hy
      clear hG
      obtain ⟨⟨t', s', js, z⟩, jv⟩ := G
      simp only at c0 c1 c2 c3 hy
      have HY := Lib.hid hy
      clear hy hw0 hw1
      go_wp2_with (go_at_fn 41; refine HY.out.mono ?_; rintro e w1 ⟨rfl, hb1⟩)
      go_roundw
      case rel => exact ⟨k + 1, by omega, by go_num, HB.out.trans (Below.mono (by assumption) HB.out.size)⟩
      case measure => simp [intOf]; omega

set_option maxRecDepth 100000 in
set_option maxHeartbeats 1000000 in
theorem index_none (tb : Nat) (a : Option Addr) (c : Nat) (RS : List (Rw × Value)) (t s : Int) (w : World) (k0 : w.cell? ⟨tb, 0, none⟩ = some (.int .i64 t)) (k1 : w.cell? ⟨tb, 1, none⟩ = some (.int .i64 s)) (hl : Sl w 4 (.slice a RS.length c) RS.length (RS.flatMap rowCells)) (h0 : ∀ p, p ∈ RS → ¬ keyIs t s p) :
    Calls Tryd.prog 40 #[.slice a RS.length c, .func (.func 41) #[] #[.pointer (some ⟨tb, 0, none⟩)]] w fun e w' => e = .returned (.int .i64 (-1)) ∧ Below w.heap.size w w' := by
  have hlt0 := World.block_lt_of_cell? _ _ k0
  have eg := Tryd.enterCl
  have hlen := hl.lenI
  have HL := Lib.hid hl
  have H0 := Lib.hid h0
  have K0 := Lib.hid k0
  have K1 := Lib.hid k1
  skip
  clear hl h0 k0 k1 
  go_enter Tryd.func40, Tryd.ntmps40
  go_wp2
  go_loopw [8] (fun iv wr => ∃ k : Nat, k ≤ RS.length ∧ iv = .int .i64 k ∧ Below w.heap.size w wr) (fun iv _ => RS.length - (intOf iv).toNat)
  case atStart => exact ⟨0, Nat.zero_le _, rfl, Below.refl _ _⟩
  case round =>
    obtain ⟨k, hk, rfl, hb⟩ := hrel
    by_cases hlt : k < RS.length
    · skip
      obtain ⟨b, o, rfl, _, c0, c1, c2, c3⟩ := row_get HL.out hb k hlt
      have i0 : (0 : Int) ≤ (k : Int) := by omega
      have i1 : (k : Int) < (RS.length : Int) := by omega
      have hw0 := (hb.cell (p := ⟨tb, 0, none⟩) hlt0).trans K0.out
      have hw1 := (hb.cell (p := ⟨tb, 1, none⟩) hlt0).trans K1.out
      have HB := Lib.hid hb
      clear hb
      have hy := cl_no tb t s RS[k] wr hw0 hw1 (H0.out _ (List.getElem_mem hlt))
      generalize hG : RS[k] = G at c0 c1 c2 c3 hy
      clear hG
      obtain ⟨⟨t', s', js, z⟩, jv⟩ := G
      simp only at c0 c1 c2 c3 hy
      have HY := Lib.hid hy
      clear hy hw0 hw1
      go_wp2_with (go_at_fn 41; refine HY.out.mono ?_; rintro e w1 ⟨rfl, hb1⟩)
      go_roundw
      case rel => exact ⟨k + 1, by omega, by go_num, HB.out.trans (Below.mono (by assumption) HB.out.size)⟩
      case measure => simp [intOf]; omega
    · go_wp2
      go_ret
      exact ⟨rfl, hb⟩


/-- Where a key's row stands. -/
def atR (RS : List (Rw × Value)) (t s : Int) : Nat := RS.findIdx fun p => decide (keyIs t s p)
theorem atR_hit {RS : List (Rw × Value)} {t s : Int} (h : atR RS t s < RS.length) : keyIs t s (RS[atR RS t s]'h) ∧ ∀ (j : Nat) (hj : j < atR RS t s), ¬ keyIs t s (RS[j]'(by omega)) := by
  constructor
  · have := List.findIdx_getElem (w := h)
    exact of_decide_eq_true this
  · intro j hj
    have := List.not_of_lt_findIdx hj
    simpa using this
theorem atR_none {RS : List (Rw × Value)} {t s : Int} (h : ¬ atR RS t s < RS.length) : ∀ p, p ∈ RS → ¬ keyIs t s p := by
  intro p hp hk
  exact h (List.findIdx_lt_length_of_exists ⟨p, hp, by simpa using hk⟩)
def atV (RS : List (Rw × Value)) (t s : Int) : Int := if atR RS t s < RS.length then (atR RS t s : Int) else -1
set_option maxRecDepth 100000 in
set_option maxHeartbeats 1000000 in
theorem at_any (qb : Nat) (F : Nat → Prop) (RS : List (Rw × Value)) (ws : List (Int × Int)) (bs : List Bool) (t s : Int) (w : World) (h : QS w qb F RS ws bs) :
    Calls Tryd.prog 25 #[.pointer (some ⟨qb, 0, none⟩), .agg #[.int .i64 t, .int .i64 s]] w fun e w' => e = .returned (.int .i64 (atV RS t s)) ∧ Below w.heap.size w w' := by
  have hb0 : Below w.heap.size w (w.alloc (.cells #[.int .i64 t, .int .i64 s] 29)) := (Below.refl _ _).alloc (Nat.le_refl _) _
  obtain ⟨ra, wa, ba, rc, wc, bc, r⟩ := (h.below hb0).read
  have c0 := r.c0
  have HI := Lib.hid (show Calls Tryd.prog 40 #[.slice ra RS.length rc, .func (.func 41) #[] #[.pointer (some ⟨w.heap.size, 0, none⟩)]] (w.alloc (.cells #[.int .i64 t, .int .i64 s] 29)) fun e w' => e = .returned (.int .i64 (atV RS t s)) ∧ Below (w.alloc (.cells #[.int .i64 t, .int .i64 s] 29)).heap.size (w.alloc (.cells #[.int .i64 t, .int .i64 s] 29)) w' by
    unfold atV
    by_cases hh : atR RS t s < RS.length
    · rw [if_pos hh]; exact index_hit w.heap.size ra rc RS t s _ _ (by simp) (by simp) r.rows hh (atR_hit hh).1 (atR_hit hh).2
    · rw [if_neg hh]; exact index_none w.heap.size ra rc RS t s _ (by simp) (by simp) r.rows (atR_none hh))
  have HB0 := Lib.hid hb0
  clear h hb0 r
  go_enter Tryd.func25, Tryd.ntmps25
  go_wp2_with fail
  refine HI.out.mono ?_
  rintro e w1 ⟨rfl, hb1⟩
  have HB1 := Lib.hid hb1
  clear hb1
  go_wp2
  go_ret
  exact ⟨rfl, HB0.out.trans (HB1.out.mono HB0.out.size)⟩
end Go.Proofs.YtkbopcgijaejjaaDoor
