/-
  One more piece for a Joiner: what comes out, and what it has then seen; rows of pieces taken one after the other.
  Printed by a program of this repository (wip/frame6.py).
-/
import Derived.Test.YtamkappanknklaaDoorAwake
namespace Go.Proofs.YtamkappanknklaaDoor
open Go.RowKit Go.Extern.Stop Go.Stop Go.Extern

/-- The Joiner has seen these bytes; its memory is of the call's own; old memory stays. -/
def Fed (w0 : World) (jb : Nat) (tot : List Int) (wr : World) : Prop :=
  ∃ F, J wr jb F (split tot).2.1 (split tot).2.2 ∧ (∀ k, F k → w0.heap.size ≤ k) ∧ Below w0.heap.size w0 wr
theorem Fed.below {w0 wr : World} {jb : Nat} {tot : List Int} (h : Fed w0 jb tot wr) : Below w0.heap.size w0 wr := by
  obtain ⟨_, _, _, h⟩ := h; exact h
/-- Fresh memory, or writes to other blocks of the call's own, leave what it has seen. -/
theorem Fed.grow {w0 wr w' : World} {jb : Nat} {tot : List Int} (h : Fed w0 jb tot wr) (hb : Below wr.heap.size wr w') : Fed w0 jb tot w' := by
  obtain ⟨F, h1, h2, h3⟩ := h
  exact ⟨F, h1.keeps (Keeps.of_below hb (S := fun k => wr.heap.size ≤ k ∧ k < wr.heap.size) (fun b h1 h2 => ⟨h1, h2⟩)) (fun k _ h => by omega), h2, h3.trans (hb.mono h3.size)⟩
theorem Fed.drewN {w0 wr : World} {jb : Nat} {tot : List Int} (h : Fed w0 jb tot wr) (m : Nat) : Fed w0 jb tot (wr.drewN m) := h.grow ⟨rfl, rfl, rfl, Nat.le_refl _, fun _ _ => rfl⟩
theorem Fed.new (w0 w1 : World) (hb : Below w0.heap.size w0 w1) : Fed w0 w1.heap.size [] (w1.alloc (.cells #[.slice none 0 0, .bool false] 32)) := by
  refine ⟨fun k => k = w1.heap.size, ?_, fun k h => by have := hb.size; omega, hb.alloc (by exact hb.size) _⟩
  rw [split_nil]
  exact J.new w1 _ rfl
theorem Fed.dead {w0 wr : World} {jb : Nat} {tot : List Int} (h : Fed w0 jb tot wr) : Calls Tryd.prog 14 #[.pointer (some ⟨jb, 0, none⟩)] wr fun e w' => e = .returned (.bool (split tot).2.2) ∧ w' = wr := by
  obtain ⟨F, h1, _⟩ := h
  exact dead_any jb F _ _ _ h1
theorem Fed.left {w0 wr : World} {jb : Nat} {tot : List Int} (h : Fed w0 jb tot wr) : Calls Tryd.prog 13 #[.pointer (some ⟨jb, 0, none⟩)] wr fun e w' => e = .returned (.int .i64 (split tot).2.1.length) ∧ w' = wr := by
  obtain ⟨F, h1, _⟩ := h
  exact left_any jb F _ _ _ h1
/-- What one more piece brings. -/
def FedR (w0 : World) (jb : Nat) (tot bs : List Int) (e : Ending) (w' : World) : Prop :=
  ∃ (xss : List (List Int)) (oa : Option Addr) (oc : Nat) (ev : Value), e = .returned (.tuple #[.slice oa xss.length oc, ev]) ∧ (split (tot ++ bs)).1 = (split tot).1 ++ xss ∧ RowsR w' (.slice oa xss.length oc) xss ∧ Fed w0 jb (tot ++ bs) w' ∧
    (((split (tot ++ bs)).2.2 = false ∧ ev = .nilIface) ∨ ((split tot).2.2 = false ∧ (split (tot ++ bs)).2.2 = true ∧ ∃ fb, ev = eF fb ∧ IsF w' fb ⟨#[102, 114, 97, 109, 101]⟩ xss.length 260) ∨ ((split tot).2.2 = true ∧ (split (tot ++ bs)).2.2 = true ∧ xss = [] ∧ ev = eE 300))
theorem split_more_dead {tot bs : List Int} (h : (split tot).2.2 = true) : split (tot ++ bs) = split tot := by rw [split_append _ _ _ (Nat.le_refl _), if_pos h]
theorem split_more_live {tot bs : List Int} (h : (split tot).2.2 = false) : split (tot ++ bs) = ((split tot).1 ++ (split ((split tot).2.1 ++ bs)).1, (split ((split tot).2.1 ++ bs)).2) := by
  rw [split_append _ _ _ (Nat.le_refl _), if_neg (by rw [h]; decide)]
theorem rest_le (tot : List Int) : (split tot).2.1.length ≤ tot.length := by
  have hs := split_sizes _ tot (Nat.le_refl _)
  have hr := split_rest _ tot (Nat.le_refl _)
  cases hd : (split tot).2.2 with
  | false => have := hs.2.1 hd; omega
  | true => rw [hr.1 hd]; simp
theorem Fed.step {w0 wr : World} {jb : Nat} {tot bs : List Int} {pv : Value} (h : Fed w0 jb tot wr) (hp : Bytes wr pv bs) (hb : Byt bs) (hlen : tot.length + bs.length ≤ 4294967296) :
    Calls Tryd.prog 11 #[.pointer (some ⟨jb, 0, none⟩), pv] wr (FedR w0 jb tot bs) := by
  obtain ⟨F, h1, h2, h3⟩ := h
  have hr := rest_le tot
  cases hd : (split tot).2.2 with
  | true =>
    rw [hd] at h1
    refine (feed_dead jb F _ pv wr h1).mono fun e w' ⟨he, hw⟩ => ?_
    subst hw
    refine ⟨[], none, 0, _, he, by rw [split_more_dead hd]; simp, ⟨[], ⟨rfl, .inl ⟨none, 0, rfl, rfl, Nat.zero_le _, fun _ => rfl⟩⟩, fun i x hx => (by simp at hx)⟩, ⟨F, by rw [split_more_dead hd, hd]; exact h1, h2, h3⟩, .inr (.inr ⟨hd, by rw [split_more_dead hd]; exact hd, rfl, rfl⟩)⟩
  | false =>
    rw [hd] at h1
    refine (feed_live jb F _ bs pv wr h1 hp hb (by omega)).mono fun e w' hq => ?_
    unfold FeedPost at hq
    obtain ⟨oa, oc, ev, vs, F', he, hrv, hj, hF, _, _, hk, hev⟩ := hq
    have hs := split_more_live (bs := bs) hd
    refine ⟨_, oa, oc, ev, he, by rw [hs], RowsR.ofV hrv, ⟨F', by rw [hs]; exact hj, fun k hk => ?_, h3.trans (hk.below h3.size h2)⟩, ?_⟩
    · rcases hF k hk with h | h
      · exact h2 k h
      · exact Nat.le_trans h3.size h
    · rw [hs]
      rcases hev with ⟨h4, h5⟩ | ⟨h4, fb, h5, h6, _⟩
      · exact .inl ⟨h4, h5⟩
      · exact .inr (.inl ⟨hd, h4, fb, h5, h6⟩)

theorem J.drewq {w : World} {jb : Nat} {F : Nat → Prop} {rest : List Int} {dead : Bool} (h : J w jb F rest dead) (m : Nat) : J (w.drewN m) jb F rest dead := h.keeps (Keeps.drewN w m (fun _ => False)) (fun _ _ h => h)
theorem RowsR.drewq {w : World} {v : Value} {xss : List (List Int)} (h : RowsR w v xss) (m : Nat) : RowsR (w.drewN m) v xss := by
  obtain ⟨vs, h1, h2⟩ := h
  exact ⟨vs, Sl.same h1 (Nat.le_refl _) fun _ _ _ => rfl, fun i x hx => by obtain ⟨xs, e, hx⟩ := h2 i x hx; exact ⟨xs, e, Sl.same hx (Nat.le_refl _) fun _ _ _ => rfl⟩⟩
/-- The next of some pieces. -/
theorem RowsR.next {w wr : World} {a : Option Addr} {c n : Nat} {xss : List (List Int)} (h : RowsR w (.slice a n c) xss) (hb : Below w.heap.size w wr) (k : Nat) (hk : k < xss.length) :
    ∃ g o x xs, a = some ⟨g, o, none⟩ ∧ wr.cell? ⟨g, o + k, none⟩ = some x ∧ xss[k]? = some xs ∧ Bytes wr x xs ∧ xs ∈ xss ∧ (xss.take (k + 1)).flatten = (xss.take k).flatten ++ xs ∧ (xss.take k).flatten.length + xs.length ≤ xss.flatten.length := by
  obtain ⟨g, o, x, xs, e1, e2, e3, e4⟩ := (h.below hb).get k hk
  have e5 : xss.take (k + 1) = xss.take k ++ [xs] := by rw [List.take_add_one, e3]; rfl
  refine ⟨g, o, x, xs, e1, e2, e3, e4, List.mem_of_getElem? e3, by rw [e5]; simp, ?_⟩
  have e6 : xss.flatten = (xss.take (k + 1)).flatten ++ (xss.drop (k + 1)).flatten := by rw [← List.flatten_append, List.take_append_drop]
  rw [e6, e5]
  simp
end Go.Proofs.YtamkappanknklaaDoor
