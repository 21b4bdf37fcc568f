/-
  find and does of actuarylaw28 by contract: a book of tokens and a list of them, act by act; the conditions: what errors.errorType holds, how many tokens there are, and that an act's numbers are ints.
  Printed by a program of this repository (wip/tok6.py).
-/
import Derived.Test.YtbhkbdmjikgpgaaDoorRevoke
import Derived.Test.YtbhkbdmjikgpgaaDoorKit
import Derived.Deep.RegionHeld3
namespace Go.Proofs.YtbhkbdmjikgpgaaDoor
open Go.RowKit Go.Extern.Stop Go.Stop Go.Extern

theorem bytes_ne {s t : ByteArray} (h : s ≠ t) : s.toList ≠ t.toList := fun e => h (by rw [ByteArray.toList_eq, ByteArray.toList_eq] at e; exact ByteArray.ext (Array.toList_inj.1 e))
set_option maxHeartbeats 1000000 in
theorem lfind_hit (a : Option Addr) (c : Nat) (l : List Gr) (t : ByteArray) (i : Nat) (w : World) (hl : Grs w (.slice a l.length c) l) (hi : i < l.length) (h1 : l[i].tok = t) (h0 : ∀ (j : Nat) (hj : j < i), (l[j]'(by omega)).tok ≠ t) :
    Calls Tryd.prog 20 #[.slice a l.length c, .string t] w fun e w' => e = .returned (.int .i64 i) ∧ w = w' := by
  have hlen : l.length ≤ 9223372036854775807 := by
    obtain ⟨a', c', e, h1, h2, _⟩ := hl.1.len
    unfold maxLen at h2; omega
  have HL := Lib.hid hl
  have H1 := Lib.hid h1
  have H0 := Lib.hid h0
  clear hl h1 h0
  go_enter Tryd.func20, Tryd.ntmps20
  go_wp2
  go_loop [5] (fun iv => ∃ k : Nat, k ≤ i ∧ iv = .int .i64 k) (fun iv => l.length - (intOf iv).toNat)
  case atStart => exact ⟨0, Nat.zero_le _, rfl⟩
  case round =>
    obtain ⟨k, hk, rfl⟩ := hrel
    obtain ⟨b, o, rfl, h1, h2, c0, c1, c2, _⟩ := HL.out.get k (by omega)
    have i0 : (0 : Int) ≤ (k : Int) := by omega
    have i1 : (k : Int) < (l.length : Int) := by omega
    clear h1 h2 c1 c2
    by_cases he : k = i
    · subst he
      have hy := H1.out
      generalize hG : l[k].tok = s at c0 hy
      clear hG
      subst hy
      go_wp2
      go_ret
      exact ⟨rfl, rfl⟩
    · have hy := bytes_ne (H0.out k (by omega))
      generalize hG : l[k].tok = s at c0 hy
      have hy2 : (s.toList == t.toList) = false := beq_eq_false_iff_ne.2 hy
      clear hG
      go_wp2
      go_round
      case rel => exact ⟨k + 1, by omega, by go_num⟩
      case measure => simp [intOf]; omega
set_option maxHeartbeats 1000000 in
theorem lfind_none (a : Option Addr) (c : Nat) (l : List Gr) (t : ByteArray) (w : World) (hl : Grs w (.slice a l.length c) l) (h0 : hit l t = none) :
    Calls Tryd.prog 20 #[.slice a l.length c, .string t] w fun e w' => e = .returned (.int .i64 (-1)) ∧ w = w' := by
  have hlen : l.length ≤ 9223372036854775807 := by
    obtain ⟨a', c', e, h1, h2, _⟩ := hl.1.len
    unfold maxLen at h2; omega
  have HL := Lib.hid hl
  have H0 := Lib.hid ((hit_none_iff l t).1 h0)
  clear hl h0
  go_enter Tryd.func20, Tryd.ntmps20
  go_wp2
  go_loop [5] (fun iv => ∃ k : Nat, k ≤ l.length ∧ iv = .int .i64 k) (fun iv => l.length - (intOf iv).toNat)
  case atStart => exact ⟨0, Nat.zero_le _, rfl⟩
  case round =>
    obtain ⟨k, hk, rfl⟩ := hrel
    by_cases hlt : k < l.length
    · obtain ⟨b, o, rfl, h1, h2, c0, c1, c2, _⟩ := HL.out.get k hlt
      have i0 : (0 : Int) ≤ (k : Int) := by omega
      have i1 : (k : Int) < (l.length : Int) := by omega
      clear h1 h2 c1 c2
      have hy := bytes_ne (H0.out _ (List.getElem_mem hlt))
      generalize hG : l[k].tok = s at c0 hy
      have hy2 : (s.toList == t.toList) = false := beq_eq_false_iff_ne.2 hy
      clear hG
      go_wp2
      go_round
      case rel => exact ⟨k + 1, by omega, by go_num⟩
      case measure => simp [intOf]; omega
    · go_wp2
      go_ret
      exact ⟨rfl, rfl⟩

/-- All tokens of a book are unlike, and of their length. -/
def Okl (l : List Gr) : Prop := (∀ g, g ∈ l → g.tok.size = 8) ∧ l.Pairwise fun x y => x.tok ≠ y.tok
theorem Okl.nil : Okl [] := ⟨fun g h => (by cases h), List.Pairwise.nil⟩
theorem Okl.less {l : List Gr} (h : Okl l) (t : ByteArray) : Okl (less l t) := ⟨fun g hg => h.1 g (List.mem_filter.1 hg).1, h.2.filter _⟩
theorem Okl.push {l : List Gr} (h : Okl l) (g : Gr) (h8 : g.tok.size = 8) (hh : hit l g.tok = none) : Okl (l ++ [g]) := by
  refine ⟨fun x hx => ?_, List.pairwise_append.2 ⟨h.2, List.pairwise_singleton _ _, fun x hx y hy => ?_⟩⟩
  · rcases List.mem_append.1 hx with hx | hx
    · exact h.1 x hx
    · rw [List.mem_singleton.1 hx]; exact h8
  · rw [List.mem_singleton.1 hy]; exact (hit_none_iff l _).1 hh x hx
/-- The token that is found, and where. -/
theorem Okl.first {l : List Gr} (h : Okl l) {t : ByteArray} {g : Gr} (hh : hit l t = some g) : ∃ (i : Nat) (hi : i < l.length), l[i] = g ∧ g.tok = t ∧ (∀ (j : Nat) (hj : j < i), (l[j]'(by omega)).tok ≠ t) ∧ ∀ (j : Nat) (hj : j < l.length), j ≠ i → l[j].tok ≠ t := by
  obtain ⟨i, hi, h1, h0⟩ := hit_first l t (by rw [hh]; simp)
  have hall : ∀ (j : Nat) (hj : j < l.length), j ≠ i → l[j].tok ≠ t := fun j hj hne e => by
    have hp := List.pairwise_iff_getElem.1 h.2
    rcases Nat.lt_or_gt_of_ne hne with hlt | hgt
    · exact hp j i hj hi hlt (by rw [e, h1])
    · exact hp i j hi hj hgt (by rw [e, h1])
  have hm : ∀ (o : Option Gr) (l : List Gr), l.foldl (fun o g => if g.tok = t then some g else o) o = some g → (o = some g) ∨ (g ∈ l ∧ g.tok = t) := by
    intro o l
    induction l generalizing o with
    | nil => intro h; exact .inl h
    | cons x r ih =>
      intro h
      rw [List.foldl_cons] at h
      rcases ih _ h with h | ⟨h, k⟩
      · by_cases hx : x.tok = t
        · rw [if_pos hx] at h; cases h; exact .inr ⟨by simp, hx⟩
        · rw [if_neg hx] at h; exact .inl h
      · exact .inr ⟨by simp [h], k⟩
  rcases hm none l hh with h | ⟨h, k⟩
  · cases h
  · obtain ⟨j, hj, rfl⟩ := List.mem_iff_getElem.1 h
    by_cases e : j = i
    · subst e; exact ⟨j, hj, rfl, k, h0, hall⟩
    · exact absurd k (hall j hj e)
/-- The book, and the list; both lie in the blocks G. -/
def St (w0 : World) (jb : Nat) (G : Nat → Prop) (l : List Gr) (a : Option Addr) (c : Nat) (w : World) : Prop :=
  ∃ F, Bk w jb F l ∧ (∀ k, F k → w0.heap.size ≤ k) ∧ Mid w w0.heap.size 56 3 (.slice a l.length c) l.length (grFlat l) ∧ (∀ k, (Value.slice a l.length c).ownBlock = some k → ¬ F k) ∧ Below w0.heap.size w0 w ∧ Okl l ∧ (∀ k, F k → G k) ∧ (∀ k, (Value.slice a l.length c).ownBlock = some k → G k) ∧ ∀ k, G k → k < w.heap.size
theorem St.world {w0 w : World} {jb : Nat} {G : Nat → Prop} {l : List Gr} {a : Option Addr} {c : Nat} (h : St w0 jb G l a c w) : Below w0.heap.size w0 w := by
  obtain ⟨_, _, _, _, _, h, _⟩ := h; exact h
theorem St.okl {w0 w : World} {jb : Nat} {G : Nat → Prop} {l : List Gr} {a : Option Addr} {c : Nat} (h : St w0 jb G l a c w) : Okl l := by
  obtain ⟨_, _, _, _, _, _, h, _⟩ := h; exact h
theorem St.lt {w0 w : World} {jb : Nat} {G : Nat → Prop} {l : List Gr} {a : Option Addr} {c : Nat} (h : St w0 jb G l a c w) : ∀ k, G k → k < w.heap.size := by
  obtain ⟨_, _, _, _, _, _, _, _, _, h⟩ := h; exact h
theorem St.below {w0 w w' : World} {jb : Nat} {G : Nat → Prop} {l : List Gr} {a : Option Addr} {c : Nat} (h : St w0 jb G l a c w) (hb : Below w.heap.size w w') : St w0 jb G l a c w' := by
  obtain ⟨F, h1, h2, h3, h4, h5, h6, h7, h8, h9⟩ := h
  exact ⟨F, h1.below hb, h2, h3.below hb fun k hk => (h3.lt k hk).2, h4, h5.trans (hb.mono h5.size), h6, h7, h8, fun k hk => Nat.lt_of_lt_of_le (h9 k hk) hb.size⟩
theorem St.grs {w0 w : World} {jb : Nat} {G : Nat → Prop} {l : List Gr} {a : Option Addr} {c : Nat} (h : St w0 jb G l a c w) : Grs w (.slice a l.length c) l := by
  obtain ⟨F, h1, h2, h3, h4, h5, h6, _⟩ := h
  exact ⟨Sl.ofMid h3, fun g hg => by rw [h6.1 g hg]; unfold maxLen; omega⟩
/-- What does answers: the list behind the act; the book as it is; nothing else is written. -/
def DoesR (w0 : World) (jb : Nat) (G : Nat → Prop) (w : World) (l' : List Gr) (e : Ending) (w' : World) : Prop :=
  ∃ a c G', e = .returned (.tuple #[.slice a l'.length c, .bool true]) ∧ St w0 jb G' l' a c w' ∧ (∀ k, G' k → G k ∨ w.heap.size ≤ k) ∧ Keeps w w' G
theorem DoesR.of_below {w0 w w' : World} {jb : Nat} {G : Nat → Prop} {l : List Gr} {a : Option Addr} {c : Nat} (h : St w0 jb G l a c w) (hb : Below w.heap.size w w') :
    DoesR w0 jb G w l (.returned (.tuple #[.slice a l.length c, .bool true])) w' :=
  ⟨a, c, G, rfl, h.below hb, fun k h => .inl h, Keeps.of_below hb fun b h1 h2 => by omega⟩

set_option maxRecDepth 100000 in
set_option maxHeartbeats 1000000 in
theorem does_look (w0 : World) (jb : Nat) (G : Nat → Prop) (l : List Gr) (a : Option Addr) (c : Nat) (d u r : Int) (t : ByteArray) (w : World) (h : St w0 jb G l a c w) (_ : t.size ≤ maxLen) (h1 : d ≠ 1) (h2 : d ≠ 2) :
    Calls Tryd.prog 10 #[.pointer (some ⟨jb, 0, none⟩), .slice a l.length c, .agg #[.int .i64 d, .int .i64 u, .int .i64 r, .string t]] w (DoesR w0 jb G w l) := by
  have hb : Below w.heap.size w (w.alloc (.cells #[.int .i64 d, .int .i64 u, .int .i64 r, .string t] 35)) := (Below.refl _ _).alloc (Nat.le_refl _) _
  have HS := Lib.hid (h.below hb)
  have HH := Lib.hid h
  have b1 : (d == 1) = false := beq_eq_false_iff_ne.2 h1
  have b2 : (d == 2) = false := beq_eq_false_iff_ne.2 h2
  have HF := Lib.hid (show ∃ v, Calls Tryd.prog 20 #[.slice a l.length c, .string t] (w.alloc (.cells #[.int .i64 d, .int .i64 u, .int .i64 r, .string t] 35)) fun e w' => e = .returned v ∧ (w.alloc (.cells #[.int .i64 d, .int .i64 u, .int .i64 r, .string t] 35)) = w' by
    cases hh : hit l t with
    | none => exact ⟨_, lfind_none a c l t _ HS.out.grs hh⟩
    | some g =>
      obtain ⟨i, hi, q1, q0⟩ := hit_first l t (by rw [hh]; simp)
      exact ⟨_, lfind_hit a c l t i _ HS.out.grs hi q1 q0⟩)
  obtain ⟨v, hf⟩ := HF.out
  have HF2 := Lib.hid hf
  clear hb h h1 h2 HF hf
  go_enter Tryd.func10, Tryd.ntmps10
  go_wp2_with fail
  refine HF2.out.mono ?_
  rintro e w1 ⟨rfl, rfl⟩
  go_wp2
  go_ret2
  exact DoesR.of_below HH.out ((Below.refl _ _).alloc (Nat.le_refl _) _)
end Go.Proofs.YtbhkbdmjikgpgaaDoor
