/-
  Grants in memory, and the functions of token.Book that only read: Find, Count, Check, by contract; the conditions: the cells that are read, and lengths that texts can have.
  Printed by a program of this repository (wip/tok2.py).
-/
import Derived.Test.YtbhkbdmjikgpgaaDoorEqual
import Derived.Deep.QuietTactic
import Derived.BigQuiet

namespace Go.Proofs.YtbhkbdmjikgpgaaDoor
open Go.RowKit

/-- A token: whose it is, and what it lets its holder do. -/
structure Gr where
  tok : ByteArray
  who : Int
  rts : Int
def grCells (g : Gr) : List Value := [.string g.tok, .int .i64 g.who, .int .i64 g.rts]
def grFlat (l : List Gr) : List Value := l.flatMap grCells
theorem grFlat_len (l : List Gr) : (grFlat l).length = l.length * 3 := by
  induction l with
  | nil => rfl
  | cons g r ih => unfold grFlat at *; rw [List.flatMap_cons, List.length_append, ih]; simp [grCells]; omega
theorem grFlat_append (l m : List Gr) : grFlat (l ++ m) = grFlat l ++ grFlat m := by unfold grFlat; exact List.flatMap_append
theorem grFlat_at (l : List Gr) (k : Nat) (h : k < l.length) (j : Nat) (u : Value) (hj : (grCells l[k])[j]? = some u) : (grFlat l)[k * 3 + j]? = some u := by
  induction l generalizing k with
  | nil => simp at h
  | cons g r ih =>
    unfold grFlat at *
    rw [List.flatMap_cons]
    cases k with
    | zero =>
      have : j < (grCells g).length := (List.getElem?_eq_some_iff.1 hj).1
      rw [Nat.zero_mul, Nat.zero_add, List.getElem?_append_left this]; exact hj
    | succ k =>
      have e : (grCells g).length = 3 := rfl
      rw [List.getElem?_append_right (by rw [e]; omega), e, show (k + 1) * 3 + j - 3 = k * 3 + j by omega]
      exact ih k (by simpa using h) (by simpa using hj)
/-- The last token that is this text. -/
def hit (l : List Gr) (t : ByteArray) : Option Gr := l.foldl (fun o g => if g.tok = t then some g else o) none
theorem hit_snoc (l : List Gr) (g : Gr) (t : ByteArray) : hit (l ++ [g]) t = if g.tok = t then some g else hit l t := by unfold hit; rw [List.foldl_append]; rfl
theorem hit_take (l : List Gr) (k : Nat) (h : k < l.length) (t : ByteArray) : hit (l.take (k + 1)) t = if l[k].tok = t then some l[k] else hit (l.take k) t := by
  rw [List.take_succ_eq_append_getElem h, hit_snoc]
def hw : Option Gr → Int | some g => g.who | none => 0
def hr : Option Gr → Int | some g => g.rts | none => 0
/-- How many tokens a tenant has. -/
def cnt (l : List Gr) (n : Int) : Nat := l.countP fun g => g.who == n
theorem cnt_take (l : List Gr) (k : Nat) (h : k < l.length) (n : Int) : cnt (l.take (k + 1)) n = cnt (l.take k) n + if l[k].who == n then 1 else 0 := by
  unfold cnt; rw [List.take_succ_eq_append_getElem h, List.countP_append]; simp [List.countP_cons]
theorem cnt_le (l : List Gr) (n : Int) : cnt l n ≤ l.length := List.countP_le_length
/-- A slice value that reads as these tokens, each of which is a text's length at the most. -/
def Grs (w : World) (v : Value) (l : List Gr) : Prop := Sl w 3 v l.length (grFlat l) ∧ ∀ g, g ∈ l → g.tok.size ≤ maxLen
theorem Grs.below {w w' : World} {v : Value} {l : List Gr} (h : Grs w v l) (hb : Below w.heap.size w w') : Grs w' v l := ⟨h.1.below hb, h.2⟩
theorem Grs.get {w : World} {a : Option Addr} {c : Nat} {l : List Gr} (h : Grs w (.slice a l.length c) l) (k : Nat) (hk : k < l.length) :
    ∃ b o, a = some ⟨b, o, none⟩ ∧ l.length ≤ c ∧ b < w.heap.size ∧ w.cell? ⟨b, o + k * 3, none⟩ = some (.string l[k].tok) ∧ w.cell? ⟨b, o + k * 3 + 1, none⟩ = some (.int .i64 l[k].who) ∧ w.cell? ⟨b, o + k * 3 + 2, none⟩ = some (.int .i64 l[k].rts) ∧ l[k].tok.size ≤ maxLen := by
  obtain ⟨b, o, c', e, h1, h2, h3, h4⟩ := h.1.plain (by omega)
  cases e
  exact ⟨b, o, rfl, h1, h3, h4 _ _ (grFlat_at l k hk 0 _ rfl), by rw [Nat.add_assoc]; exact h4 _ _ (grFlat_at l k hk 1 _ rfl), by rw [Nat.add_assoc]; exact h4 _ _ (grFlat_at l k hk 2 _ rfl), h.2 _ (List.getElem_mem hk)⟩

theorem ret_tup3 {a a' b b' : Int} {c c' : Bool} (h1 : a = a') (h2 : b = b') (h3 : c = c') : Ending.returned (.tuple #[.int .i64 a, .int .i64 b, .bool c]) = .returned (.tuple #[.int .i64 a', .int .i64 b', .bool c']) := by rw [h1, h2, h3]
set_option maxHeartbeats 1000000 in
theorem find_any (jb : Nat) (a : Option Addr) (c : Nat) (l : List Gr) (t : ByteArray) (w : World) (hj : w.cell? ⟨jb, 0, none⟩ = some (.slice a l.length c)) (hl : Grs w (.slice a l.length c) l) (ht : t.size ≤ maxLen) :
    Calls Tryd.prog 12 #[.pointer (some ⟨jb, 0, none⟩), .string t] w fun e w' => e = .returned (.tuple #[.int .i64 (hw (hit l t)), .int .i64 (hr (hit l t)), .bool (hit l t).isSome]) ∧ Below w.heap.size w w' := by
  have hlen : l.length ≤ 9223372036854775807 := by
    obtain ⟨a', c', e, h1, h2, _⟩ := hl.1.len
    unfold maxLen at h2; omega
  have HL := Lib.hid hl
  have HT := Lib.hid ht
  clear hl ht
  go_enter Tryd.func12, Tryd.ntmps12
  go_wp2
  clear hj
  go_loopw [7, 8, 9, 19] (fun x y z i wr => ∃ k : Nat, k ≤ l.length ∧ i = .int .i64 k ∧ x = .int .i64 (hw (hit (l.take k) t)) ∧ y = .int .i64 (hr (hit (l.take k) t)) ∧ z = .bool (hit (l.take k) t).isSome ∧ Below w.heap.size w wr) (fun _ _ _ i _ => l.length - (intOf i).toNat)
  case atStart => exact ⟨0, Nat.zero_le _, rfl, rfl, rfl, rfl, Below.refl _ _⟩
  case round =>
    obtain ⟨k, hk, rfl, rfl, rfl, rfl, hb⟩ := hrel
    by_cases hlt : k < l.length
    · obtain ⟨b, o, rfl, h1, h2, c0, c1, c2, hs⟩ := (HL.out.below hb).get k hlt
      have hn := hit_take l k hlt t
      have HN := Lib.hid hn
      have HB := Lib.hid hb
      have HS := Lib.hid hs
      clear hn hb hs h1
      have i0 : (0 : Int) ≤ (k : Int) := by omega
      have i1 : (k : Int) < (l.length : Int) := by omega
      generalize hG : l[k] = G at *
      clear hG
      obtain ⟨s, u, r⟩ := G
      simp only at c0 c1 c2 HS HN
      by_cases he : s = t
      · have hd : decide (s = t) = true := decide_eq_true he
        have hN : hit (l.take (k + 1)) t = some ⟨s, u, r⟩ := by rw [HN.out, if_pos he]
        have HN2 := Lib.hid hN
        clear he HN hN
        go_wp2_with fail
        refine (equal_any s t _ HS.out HT.out).mono ?_
        rintro e w1 ⟨rfl, rfl⟩
        rw [hd]
        clear hd
        go_wp2_with fail
        go_quiet (fail)
        go_wp2
        go_roundw
        case rel => exact ⟨k + 1, by omega, by go_num, by rw [HN2.out]; rfl, by rw [HN2.out]; rfl, by rw [HN2.out]; rfl, (HB.out.alloc HB.out.size _).trans ⟨rfl, rfl, rfl, Nat.le_refl _, fun _ _ => rfl⟩⟩
        case measure => simp [intOf]; omega
      · have hd : decide (s = t) = false := decide_eq_false he
        have hN : hit (l.take (k + 1)) t = hit (l.take k) t := by rw [HN.out, if_neg he]
        have HN2 := Lib.hid hN
        clear he HN hN
        go_wp2_with fail
        refine (equal_any s t _ HS.out HT.out).mono ?_
        rintro e w1 ⟨rfl, rfl⟩
        rw [hd]
        clear hd
        go_wp2
        go_roundw
        case rel => exact ⟨k + 1, by omega, by go_num, by rw [HN2.out], by rw [HN2.out], by rw [HN2.out], HB.out.alloc HB.out.size _⟩
        case measure => simp [intOf]; omega
    · obtain rfl : k = l.length := by omega
      rw [List.take_length]
      have HB := Lib.hid hb
      clear hb
      go_wp2
      go_ret3
      exact ⟨rfl, HB.out⟩
end Go.Proofs.YtbhkbdmjikgpgaaDoor
