/-
  awake of actuarylaw28 by contract; acts one by one; a script of acts that came in, opened; the conditions: what errors.errorType holds, and how many tokens there are.
  Printed by a program of this repository (wip/tok10.py).
-/
import Derived.Test.YtbhkbdmjikgpgaaDoorAlike
import Derived.Deep.Slices
import Derived.SizedLaws
import Derived.OpenShut
namespace Go.Proofs.YtbhkbdmjikgpgaaDoor
open Go.RowKit Go.Extern.Stop Go.Stop Go.Extern

abbrev sA : ByteArray := ⟨#[97, 98, 99, 100, 101, 102, 103, 104]⟩
theorem hit_one (t : ByteArray) (u r : Int) : hit [⟨t, u, r⟩] t = some ⟨t, u, r⟩ := by simp [hit]
theorem sA_le : sA.size ≤ maxLen := by unfold maxLen; decide
set_option maxRecDepth 100000 in
set_option maxHeartbeats 2000000 in
theorem awake_any (w : World) (hg : Hg w) : Calls Tryd.prog 8 #[] w (Yes w) := by
  have hb0 : Bk (w.alloc (.cells #[.slice none 0 0] 30)) w.heap.size (fun k => k = w.heap.size) [] := Bk.new w _ rfl (fun k hk => by omega)
  have HM := Lib.hid (mint_new w.heap.size _ [] sA 0 3 _ hb0 rfl (by omega) (by omega) (by omega) rfl (by decide))
  have HG := Lib.hid hg
  have HE := Lib.hid (fun W => equal_any ⟨#[97, 98, 99]⟩ ⟨#[97, 98, 100]⟩ W (by unfold maxLen; decide) (by unfold maxLen; decide))
  have HH := Lib.hid (hit_one sA 0 3)
  have HB0 := Lib.hid (show Below w.heap.size w (w.alloc (.cells #[.slice none 0 0] 30)) from (Below.refl _ _).alloc (Nat.le_refl _) _)
  clear hb0 hg
  go_enter Tryd.func8, Tryd.ntmps8
  go_wp2_with fail
  refine HM.out.mono ?_
  rintro e w1 ⟨rfl, F, hbk, hF, hk⟩
  have HB := Lib.hid hbk
  have HB1 := Lib.hid (HB0.out.trans (hk.below (B := w.heap.size) (by simp) (fun b h => by omega)))
  clear hbk hF hk
  go_wp2_with fail
  refine (check_ok w.heap.size F _ sA 1 ⟨sA, 0, 3⟩ w1 HB.out sA_le HH.out (by omega) (by omega) (by decide)).mono ?_
  rintro e w2 ⟨rfl, hb2⟩
  have HBk2 := Lib.hid (HB.out.below hb2)
  have HB2 := Lib.hid (HB1.out.trans (hb2.mono HB1.out.size))
  clear hb2
  go_wp2_with fail
  refine (check_lack w.heap.size F _ sA 5 ⟨sA, 0, 3⟩ w2 HBk2.out sA_le HH.out (by omega) (by omega) (by decide)).mono ?_
  rintro e w3 ⟨pb, rfl, hf3, hb3⟩
  have HBk3 := Lib.hid (HBk2.out.below hb3)
  have HB3 := Lib.hid (HB2.out.trans (hb3.mono HB2.out.size))
  have HI3 := Lib.hid hf3
  clear hb3 hf3
  go_wp2_with fail
  refine (revoke_other w.heap.size F _ sA 1 ⟨sA, 0, 3⟩ w3 HBk3.out sA_le HH.out (by decide)).mono ?_
  rintro e w4 ⟨rfl, hb4⟩
  have HI4 := Lib.hid (HI3.out.below hb4 HI3.out.lt)
  have HB4 := Lib.hid (HB3.out.trans (hb4.mono HB3.out.size))
  clear hb4
  go_wp2_with fail
  refine (HE.out w4).mono ?_
  rintro e w5 ⟨rfl, rfl⟩
  have hd : decide ((⟨#[97, 98, 99]⟩ : ByteArray) = ⟨#[97, 98, 100]⟩) = false := by decide
  rw [hd]
  clear hd
  unfold eF eE
  go_wp2_with fail
  refine (told_F pb 280 280 (lack 5 3) 4 sRights sRights _ (HG.out.below HB4.out HG.out.lt) HI4.out rfl rfl (by decide) (by rw [ByteArray.toList_eq]; decide)).mono ?_
  rintro e w6 ⟨rfl, hb6⟩
  have HB6 := Lib.hid (HB4.out.trans (hb6.mono HB4.out.size))
  clear hb6
  go_wp2_with fail
  refine (told_E 280 280 0 ⟨#[]⟩ _ (HG.out.below HB6.out HG.out.lt) rfl (by rw [ByteArray.toList_eq])).mono ?_
  rintro e w7 ⟨rfl, hb7⟩
  have HB7 := Lib.hid (HB6.out.trans (hb7.mono HB6.out.size))
  clear hb7
  go_wp2
  go_ret
  exact ⟨rfl, HB7.out⟩

/-- What an act makes of the tokens. -/
def step (l : List Gr) (d u r : Int) (t : ByteArray) : List Gr :=
  if d = 1 then (if (t.size = 8 ∧ 0 ≤ u ∧ 0 ≤ r ∧ r ≤ 15) ∧ hit l t = none then l ++ [⟨t, u, r⟩] else l) else if d = 2 then (match hit l t with | some g => if g.who = u then less l t else l | none => l) else l
theorem step_len (l : List Gr) (d u r : Int) (t : ByteArray) : (step l d u r t).length ≤ l.length + 1 := by
  unfold step
  have := less_le l t
  split
  · split
    · simp
    · omega
  · split
    · split
      · split <;> omega
      · omega
    · omega
theorem does_any (w0 : World) (jb : Nat) (G : Nat → Prop) (l : List Gr) (a : Option Addr) (c : Nat) (d u r : Int) (t : ByteArray) (w : World) (hg : Hg w) (h : St w0 jb G l a c w) (ht : t.size ≤ maxLen) (hn : l.length ≤ 7036874417560) :
    Calls Tryd.prog 10 #[.pointer (some ⟨jb, 0, none⟩), .slice a l.length c, .agg #[.int .i64 d, .int .i64 u, .int .i64 r, .string t]] w (DoesR w0 jb G w (step l d u r t)) := by
  unfold step
  by_cases h1 : d = 1
  · subst h1
    rw [if_pos rfl]
    by_cases hv : t.size = 8 ∧ 0 ≤ u ∧ 0 ≤ r ∧ r ≤ 15
    · cases hh : hit l t with
      | none => rw [if_pos ⟨hv, rfl⟩]; exact does_new w0 jb G l a c u r t w h hv.1 hv.2.1 hv.2.2.1 hv.2.2.2 hh hn
      | some g => rw [if_neg (fun k => by cases k.2)]; exact does_dup w0 jb G l a c u r t g w hg h hv.1 hv.2.1 hv.2.2.1 hv.2.2.2 hh
    · rw [if_neg (fun k => hv k.1)]
      exact does_bad w0 jb G l a c u r t w hg h (by unfold maxLen at ht; omega) (by omega)
  · rw [if_neg h1]
    by_cases h2 : d = 2
    · subst h2
      rw [if_pos rfl]
      cases hh : hit l t with
      | none => exact does_none w0 jb G l a c u r t w hg h ht hh
      | some g =>
        simp only
        by_cases hu : g.who = u
        · rw [if_pos hu]; exact does_gone w0 jb G l a c u r t g w h ht hh hu hn
        · rw [if_neg hu]; exact does_other w0 jb G l a c u r t g w hg h ht hh hu
    · rw [if_neg h2]; exact does_look w0 jb G l a c d u r t w h ht h1 h2

/-- Whatever is done with a book: it stays one; nothing else is written. -/
def AnyBk (jb : Nat) (F : Nat → Prop) (n : Nat) (w : World) (e : Ending) (w' : World) : Prop := ∃ v F' l', e = .returned v ∧ Bk w' jb F' l' ∧ (∀ k, F' k → F k ∨ w.heap.size ≤ k) ∧ Keeps w w' F ∧ l'.length ≤ n
theorem AnyBk.of_below {jb : Nat} {F : Nat → Prop} {n : Nat} {l : List Gr} {v : Value} {w w' : World} (h : Bk w jb F l) (hb : Below w.heap.size w w') (hn : l.length ≤ n) : AnyBk jb F n w (.returned v) w' :=
  ⟨v, F, l, rfl, h.below hb, fun k h => .inl h, Keeps.of_below hb fun b h1 h2 => by omega, hn⟩
theorem mint_any (jb : Nat) (F : Nat → Prop) (l : List Gr) (t : ByteArray) (u r : Int) (w : World) (h : Bk w jb F l) (ht : t.size ≤ maxLen) (hn : l.length ≤ 7036874417560) :
    Calls Tryd.prog 14 #[.pointer (some ⟨jb, 0, none⟩), .string t, .int .i64 u, .int .i64 r] w (AnyBk jb F (l.length + 1) w) := by
  by_cases hv : t.size = 8 ∧ 0 ≤ u ∧ 0 ≤ r ∧ r ≤ 15
  · cases hh : hit l t with
    | none => exact (mint_new jb F l t u r w h hv.1 hv.2.1 hv.2.2.1 hv.2.2.2 hh hn).mono fun e w' ⟨he, F', h1, h2, h3⟩ => ⟨_, F', _, he, h1, h2, h3, by simp⟩
    | some g => exact (mint_dup jb F l t u r g w h hv.1 hv.2.1 hv.2.2.1 hv.2.2.2 hh).mono fun e w' ⟨pb, he, _, hb⟩ => by rw [he]; exact AnyBk.of_below h hb (by omega)
  · exact (mint_arg jb t u r w (by unfold maxLen at ht; omega) (by omega)).mono fun e w' ⟨he, hw⟩ => by rw [he, ← hw]; exact AnyBk.of_below h (Below.refl _ _) (by omega)
theorem revoke_any (jb : Nat) (F : Nat → Prop) (l : List Gr) (t : ByteArray) (u : Int) (w : World) (h : Bk w jb F l) (ht : t.size ≤ maxLen) :
    Calls Tryd.prog 15 #[.pointer (some ⟨jb, 0, none⟩), .string t, .int .i64 u] w (AnyBk jb F l.length w) := by
  cases hh : hit l t with
  | none => exact (revoke_none jb F l t u w h ht hh).mono fun e w' ⟨he, hb⟩ => by rw [he]; exact AnyBk.of_below h hb (Nat.le_refl _)
  | some g =>
    by_cases hu : g.who = u
    · exact (revoke_yes jb F l t u g w h ht hh hu).mono fun e w' ⟨he, F', h1, h2, h3⟩ => ⟨_, F', _, he, h1, h2, h3, less_le _ _⟩
    · exact (revoke_other jb F l t u g w h ht hh hu).mono fun e w' ⟨he, hb⟩ => by rw [he]; exact AnyBk.of_below h hb (Nat.le_refl _)

/-- An act of a script. -/
structure Ac where
  d : Int
  u : Int
  r : Int
  t : ByteArray
def acCells (x : Ac) : List Value := [.int .i64 x.d, .int .i64 x.u, .int .i64 x.r, .string x.t]
def I64 (n : Int) : Prop := -9223372036854775808 ≤ n ∧ n ≤ 9223372036854775807
def AcOk (x : Ac) : Prop := I64 x.d ∧ I64 x.u ∧ I64 x.r ∧ x.t.size ≤ maxLen
theorem flat_at {α : Type} (f : α → List Value) (k : Nat) (hk : ∀ x, (f x).length = k) (l : List α) (i : Nat) (h : i < l.length) (j : Nat) (u : Value) (hj : (f l[i])[j]? = some u) : (l.flatMap f)[i * k + j]? = some u := by
  induction l generalizing i with
  | nil => simp at h
  | cons g r ih =>
    rw [List.flatMap_cons]
    have hjk : j < k := by have := (List.getElem?_eq_some_iff.1 hj).1; rw [hk] at this; exact this
    cases i with
    | zero => rw [Nat.zero_mul, Nat.zero_add, List.getElem?_append_left (by rw [hk]; exact hjk)]; exact hj
    | succ i =>
      rw [List.getElem?_append_right (by rw [hk, Nat.succ_mul]; omega), hk, show (i + 1) * k + j - k = i * k + j by rw [Nat.succ_mul]; omega]
      exact ih i (by simpa using h) (by simpa using hj)
/-- A script that came in: its cells. -/
def Acts (w : World) (v : Value) (xs : List Ac) : Prop := Sl w 4 v xs.length (xs.flatMap acCells) ∧ ∀ x, x ∈ xs → AcOk x
theorem Acts.get {w wr : World} {a : Option Addr} {c : Nat} {xs : List Ac} (h : Acts w (.slice a xs.length c) xs) (hb : Below w.heap.size w wr) (k : Nat) (hk : k < xs.length) :
    ∃ b o, a = some ⟨b, o, none⟩ ∧ wr.cell? ⟨b, o + k * 4, none⟩ = some (.int .i64 xs[k].d) ∧ wr.cell? ⟨b, o + k * 4 + 1, none⟩ = some (.int .i64 xs[k].u) ∧ wr.cell? ⟨b, o + k * 4 + 2, none⟩ = some (.int .i64 xs[k].r) ∧ wr.cell? ⟨b, o + k * 4 + 3, none⟩ = some (.string xs[k].t) ∧ AcOk xs[k] := by
  obtain ⟨b, o, c', e, h1, h2, h3, h4⟩ := h.1.plain (by omega)
  cases e
  have hc := fun j u hj => (hb.cell (p := ⟨b, o + (k * 4 + j), none⟩) h3).trans (h4 _ u (flat_at acCells 4 (fun _ => rfl) xs k hk j u hj))
  have c0 := hc 0 _ rfl
  have c1 := hc 1 _ rfl
  have c2 := hc 2 _ rfl
  have c3 := hc 3 _ rfl
  simp only [← Nat.add_assoc, Nat.add_zero] at c0 c1 c2 c3
  exact ⟨b, o, rfl, c0, c1, c2, c3, h.2 _ (List.getElem_mem hk)⟩
end Go.Proofs.YtbhkbdmjikgpgaaDoor
