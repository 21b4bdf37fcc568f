/-
  What the laws stand on, part E: contracts and plain laws of NShift, NQuot2, Quot3, Quot4, Quot5, Quot6, Quot7; the conditions are each law's own.
-/
import Derived.Test.YtndndfobkbeolaaUA
import Derived.Test.YtndndfobkbeolaaUD
import Derived.IntWalk
set_option linter.unusedVariables false
set_option linter.unusedSimpArgs false
namespace Go.Proofs.Ytndndfobkbeolaa
open Go.RowKit
def OwnF (W : World) (g : Nat) (M : Nat × Nat) (f : Nat → Nat) : Prop := ∃ cs, W.heap[g]? = some (.cells cs 128 (0, 0)) ∧ ∀ j, (M.1 ≤ j ∧ j < M.2) → cs[j]? = some (UV (f j))
section
variable {W W' : World} {g : Nat} {M : Nat × Nat} {f f' : Nat → Nat}
theorem OwnF.lt (h : OwnF W g M f) : g < W.heap.size := by obtain ⟨cs, h, _⟩ := h; exact lt_of_block h
theorem OwnF.cell (h : OwnF W g M f) {j : Nat} (hj : M.1 ≤ j ∧ j < M.2) : W.cell? ⟨g, j, none⟩ = some (UV (f j)) := by obtain ⟨cs, h, hc⟩ := h; exact cell_of_block h (hc j hj)
theorem OwnF.free (h : OwnF W g M f) (j : Nat) : W.frozen? ⟨g, j, none⟩ = false := by obtain ⟨cs, h, hc⟩ := h; exact free_of_block h
theorem OwnF.same (h : OwnF W g M f) (hs : W'.heap[g]? = W.heap[g]?) : OwnF W' g M f := by obtain ⟨cs, h, hc⟩ := h; exact ⟨cs, hs.trans h, hc⟩
theorem OwnF.word (h : OwnF W g M f) : WordB W g := by obtain ⟨cs, h, _⟩ := h; exact ⟨cs, h⟩
theorem OwnF.congr (h : OwnF W g M f) (hf : ∀ j, (M.1 ≤ j ∧ j < M.2) → f' j = f j) : OwnF W g M f' := by obtain ⟨cs, h, hc⟩ := h; exact ⟨cs, h, fun j hj => by rw [hf j hj]; exact hc j hj⟩
theorem OwnF.set (h : OwnF W g M f) (t x : Nat) (hf : ∀ j, (M.1 ≤ j ∧ j < M.2) → f' j = if j = t then x else f j) : OwnF (W.setCell ⟨g, t, none⟩ (UV x)) g M f' := by
  obtain ⟨cs, h, hc⟩ := h
  refine ⟨_, heap_setCell_same W g t cs _ (UV x) h, fun j hj => ?_⟩
  rw [hf j hj]
  have hjc := hc j hj
  have hlt : j < cs.size := by
    rcases Nat.lt_or_ge j cs.size with h1 | h1
    · exact h1
    · rw [Array.getElem?_eq_none h1] at hjc; cases hjc
  by_cases e : j = t
  · subst e; rw [if_pos rfl, Array.getElem?_setIfInBounds_self_of_lt hlt]
  · rw [if_neg e, Array.getElem?_setIfInBounds_ne (fun e2 => e e2.symm)]; exact hjc
end
theorem NatW.off {w w' : World} {a : Option Addr} {c n : Nat} {S : Nat → Prop} (h : NatW w a c n) (hk : Keeps w w' S) (hn : ∀ k, (Value.slice a (lenW n) c).ownBlock = some k → ¬ S k) : NatW w' a c n :=
  ⟨Sl.keeps h.sl hk fun k _ e => hn k e, fun h0 k e => (h.ty h0 k e).same (hk.block k (h.ty h0 k e).lt (hn k e))⟩
structure TS (w : World) (g : Nat) (M : Nat × Nat) (f : Nat → Nat) (b : Nat) (v : Value) (W : World) : Prop where
  keep : Keeps w W (fun z => z = g)
  own : OwnF W g M f
  box : W.heap[b]? = some (.cells #[v] 36 (0, 0))
section
variable {w W W' : World} {g b : Nat} {M : Nat × Nat} {f f' : Nat → Nat} {v : Value}
theorem TS.below (h : TS w g M f b v W) (hb : Below W.heap.size W W') : TS w g M f b v W' :=
  ⟨h.keep.trans (Keeps.of_below hb (S := fun z => z = g) fun z h1 h2 => absurd h1 (Nat.not_le_of_lt h2)) fun z _ h2 => h2, h.own.same (hb.block _ h.own.lt), (hb.block _ (lt_of_block h.box)).trans h.box⟩
theorem TS.drew (h : TS w g M f b v W) : TS w g M f b v W.drew := h.below (Below.refl _ _).drew
theorem TS.cell (h : TS w g M f b v W) : W.cell? ⟨b, 0, none⟩ = some v := cell_of_block h.box rfl
theorem TS.set (h : TS w g M f b v W) (hbg : b ≠ g) (t x : Nat) (hf : ∀ j, (M.1 ≤ j ∧ j < M.2) → f' j = if j = t then x else f j) : TS w g M f' b v (W.setCell ⟨g, t, none⟩ (UV x)) :=
  ⟨h.keep.trans (Keeps.setCell W ⟨g, t, none⟩ (UV x) (S := fun z => z = g) rfl) fun z _ h2 => h2, h.own.set t x hf, (Below.heap_setCell _ _ _ _ hbg).trans h.box⟩
theorem TS.congr (h : TS w g M f b v W) (hf : ∀ j, (M.1 ≤ j ∧ j < M.2) → f' j = f j) : TS w g M f' b v W := ⟨h.keep, h.own.congr hf, h.box⟩
theorem TS.start (h : OwnF w g M f) (v : Value) : TS w g M f w.heap.size v (w.alloc (.cells #[v] 36)) :=
  ⟨Keeps.alloc _ _ _, h.same (Below.heap_alloc _ _ _ h.lt), heap_alloc_new _ _⟩
end
end Go.Proofs.Ytndndfobkbeolaa
namespace Go.Proofs.Ytndndfobkbeolaa
open Go.RowKit Go.Extern.Stop Go.Stop Go.Extern
theorem OwnF.ofMid {W : World} {base N c : Nat} {a : Option Addr} {xs : List Nat} (h : Mid W base 128 1 (.slice a N c) N (xs.map UV)) (hN : 0 < N) :
    ∃ g o, a = some ⟨g, o, none⟩ ∧ base ≤ g ∧ N ≤ c ∧ c ≤ maxLen ∧ OwnF W g (o, o + N) (fun j => xs.getD (j - o) 0) := by
  rcases h.2 with ⟨e, h0⟩ | ⟨g, o, cap, cur, e, hb, hg, h1, h2, h3, h4⟩
  · omega
  · cases e
    refine ⟨g, o, rfl, hb, h1, h2, cur, hg, fun j hj => ?_⟩
    obtain ⟨i, rfl⟩ := Nat.exists_eq_add_of_le hj.1
    have hj2 : i < N := by have := hj.2; omega
    have e1 : (xs.map UV)[i]? = cur[o + i]? := by
      rw [← h4, List.getElem?_take, if_pos (by omega), List.getElem?_drop, Array.getElem?_toList]
    have hx : i < xs.length := by have := h.1; rw [List.length_map] at this; omega
    show cur[o + i]? = some (UV (xs.getD (o + i - o) 0))
    rw [← e1, List.getElem?_map, List.getElem?_eq_getElem hx, Nat.add_sub_cancel_left, List.getD_eq_getElem?_getD, List.getElem?_eq_getElem hx]
    rfl
theorem OwnF.sub {W : World} {g : Nat} {M M' : Nat × Nat} {f f' : Nat → Nat} (h : OwnF W g M f) (h1 : M.1 ≤ M'.1) (h2 : M'.2 ≤ M.2) (hf : ∀ j, (M'.1 ≤ j ∧ j < M'.2) → f' j = f j) : OwnF W g M' f' := by
  obtain ⟨cs, h, hc⟩ := h
  exact ⟨cs, h, fun j hj => by rw [hf j hj]; exact hc j ⟨by omega, by omega⟩⟩
theorem OwnF.sl {W : World} {g o N c : Nat} {f : Nat → Nat} (h : OwnF W g (o, o + N) f) (hc : N ≤ c) (hm : c ≤ maxLen) : Sl W 1 (.slice (some ⟨g, o, none⟩) N c) N ((fnL N fun i => f (o + i)).map UV) := by
  refine ⟨by simp [fnL_len], .inr ⟨g, o, c, rfl, hc, hm, h.lt, fun j u hj => ?_⟩⟩
  have hjN : j < N := by
    rcases Nat.lt_or_ge j N with h1 | h1
    · exact h1
    · rw [List.getElem?_eq_none (by simp [fnL_len]; omega)] at hj; cases hj
  rw [List.getElem?_map, fnL_at _ hjN] at hj
  rw [← Option.some.inj hj]
  exact h.cell (j := o + j) ⟨by simp, by simp; omega⟩
theorem OwnF.zero (w : World) (K : Nat) (f : Nat → Nat) (hf : ∀ j, j < K → f j = 0) : OwnF (w.alloc (.cells (zeroC K) 128)) w.heap.size (0, K) f := by
  refine ⟨_, heap_alloc_new _ _, fun j hj => ?_⟩
  have hj2 : j < K := hj.2
  rw [hf j hj2]
  show (((List.replicate K 0).map UV).toArray)[j]? = some (UV 0)
  simp [hj2]
structure LS (w9 : World) (g : Nat) (M : Nat × Nat) (f : Nat → Nat) (gq Kq : Nat) (fq : Nat → Nat) (W : World) : Prop where
  bel : Below w9.heap.size w9 W
  u : OwnF W g M f
  q : OwnF W gq (0, Kq) fq
section
variable {w9 W W' : World} {g gq Kq : Nat} {M : Nat × Nat} {f f' fq : Nat → Nat}
theorem LS.call (h : LS w9 g M f gq Kq fq W) (hb : Below W.heap.size W W') : LS w9 g M f gq Kq fq W' := ⟨bthen h.bel hb, h.u.same (hb.block _ h.u.lt), h.q.same (hb.block _ h.q.lt)⟩
theorem LS.drew (h : LS w9 g M f gq Kq fq W) : LS w9 g M f gq Kq fq W.drew := h.call (Below.drawn W 1)
theorem LS.with (h : LS w9 g M f gq Kq fq W) {fq' : Nat → Nat} (hf : ∀ j, (M.1 ≤ j ∧ j < M.2) → f' j = f j) (hq : ∀ j, (0 ≤ j ∧ j < Kq) → fq' j = fq j) : LS w9 g M f' gq Kq fq' W := ⟨h.bel, h.u.congr hf, h.q.congr hq⟩
end
end Go.Proofs.Ytndndfobkbeolaa
