/-
  What FrameMakes gathers: frames and bodies (Mk), what comes out of the Joiner (Gath); no walk.
  Printed by a program of this repository (wip/frame8.py).
-/
import Derived.Test.YtamkappanknklaaDoorStep
namespace Go.Proofs.YtamkappanknklaaDoor
open Go.RowKit Go.Extern.Stop Go.Stop Go.Extern

/-- Has this body a frame? -/
def fits (xs : List Int) : Bool := decide (1 ≤ xs.length ∧ xs.length ≤ 65536)
theorem fits_all (xss : List (List Int)) : ∀ x, x ∈ xss.filter fits → 1 ≤ x.length ∧ x.length ≤ 65536 := fun x hx => by
  have := (List.mem_filter.1 hx).2
  exact of_decide_eq_true this
theorem fits_take {xss : List (List Int)} {k : Nat} {xs : List Int} (h : xss[k]? = some xs) : (xss.take (k + 1)).filter fits = (xss.take k).filter fits ++ (if fits xs then [xs] else []) := by
  rw [List.take_add_one, h, List.filter_append]
  cases hf : fits xs <;> simp [List.filter, hf]
theorem frames_len (l : List (List Int)) : (l.flatMap frameOf).length = 4 * l.length + l.flatten.length := by
  induction l with
  | nil => rfl
  | cons x r ih =>
    have : (frameOf x).length = 4 + x.length := by simp [frameOf]; omega
    simp only [List.flatMap_cons, List.length_append, List.length_cons, List.flatten_cons, ih, this]
    omega
theorem filter_flat (l : List (List Int)) : (l.filter fits).flatten.length ≤ l.flatten.length ∧ (l.filter fits).length ≤ l.length := by
  induction l with
  | nil => simp
  | cons x r ih =>
    cases hf : fits x <;> simp [List.filter, hf] at ih ⊢ <;> omega
theorem take_flat (l : List (List Int)) (k : Nat) : (l.take k).flatten.length ≤ l.flatten.length := by
  have e : l.flatten = (l.take k).flatten ++ (l.drop k).flatten := by rw [← List.flatten_append, List.take_append_drop]
  rw [e, List.length_append]; omega

/-- The frames, and the bodies. -/
def Mk (w : World) (G : List (List Int)) (av wv : Value) (wr : World) : Prop :=
  ∃ (aa : Option Addr) (ac : Nat) (wa : Option Addr) (wc : Nat) (vs : List Value), av = .slice aa (G.flatMap frameOf).length ac ∧ wv = .slice wa G.length wc ∧
    Mid wr w.heap.size 5 1 (.slice aa (G.flatMap frameOf).length ac) (G.flatMap frameOf).length ((G.flatMap frameOf).map B8) ∧ Mid wr w.heap.size 23 1 (.slice wa G.length wc) G.length vs ∧
    (∀ (i : Nat) (x : Value), vs[i]? = some x → ∃ xs, G[i]? = some xs ∧ Bytes w x xs ∧ x.oneCell' = true) ∧
    (∀ k, (Value.slice aa (G.flatMap frameOf).length ac).ownBlock = some k → (Value.slice wa G.length wc).ownBlock ≠ some k) ∧ Below w.heap.size w wr
theorem Mk.below {w wr : World} {G : List (List Int)} {av wv : Value} (h : Mk w G av wv wr) : Below w.heap.size w wr := by
  obtain ⟨_, _, _, _, _, _, _, _, _, _, _, h⟩ := h; exact h
theorem Mk.nil {w w1 : World} (hb : Below w.heap.size w w1) : Mk w [] (.slice none 0 0) (.slice none 0 0) w1 :=
  ⟨none, 0, none, 0, [], rfl, rfl, Mid.nil _ _ _ _, Mid.nil _ _ _ _, fun i x h => (by simp at h), fun k h => (by cases h), hb⟩
theorem Mk.grow {w wr w' : World} {G : List (List Int)} {av wv : Value} (h : Mk w G av wv wr) (hb : Below wr.heap.size wr w') : Mk w G av wv w' := by
  obtain ⟨aa, ac, wa, wc, vs, h1, h2, h3, h4, h5, h6, h7⟩ := h
  exact ⟨aa, ac, wa, wc, vs, h1, h2, h3.below hb fun k hk => (h3.lt k hk).2, h4.below hb fun k hk => (h4.lt k hk).2, h5, h6, h7.trans (hb.mono h7.size)⟩
theorem Mk.rows {w wr : World} {G : List (List Int)} {av wv : Value} (h : Mk w G av wv wr) : RowsR wr wv G := by
  obtain ⟨aa, ac, wa, wc, vs, h1, rfl, h3, h4, h5, h6, h7⟩ := h
  exact ⟨vs, Sl.ofMid h4, fun i x hx => by obtain ⟨xs, e, hb, _⟩ := h5 i x hx; exact ⟨xs, e, Sl.below hb h7⟩⟩
theorem mk_push {w wr w2 w3 w4 : World} {G : List (List Int)} {xs al fr : List Int} {aa wa a3 a4 : Option Addr} {ac wc c3 c4 : Nat} {vs : List Value} {x : Value} {ob : Obj}
    (hal : al = G.flatMap frameOf) (hfr : fr = frameOf xs)
    (h3 : Mid wr w.heap.size 5 1 (.slice aa al.length ac) al.length (al.map B8)) (h4 : Mid wr w.heap.size 23 1 (.slice wa G.length wc) G.length vs)
    (h5 : ∀ (i : Nat) (x : Value), vs[i]? = some x → ∃ xs, G[i]? = some xs ∧ Bytes w x xs ∧ x.oneCell' = true) (h6 : ∀ k, (Value.slice aa al.length ac).ownBlock = some k → (Value.slice wa G.length wc).ownBlock ≠ some k) (h7 : Below w.heap.size w wr)
    (hb2 : Below wr.heap.size wr w2) (hx : Bytes w x xs) (hx1 : x.oneCell' = true)
    (hm3 : Mid w3 w.heap.size 5 1 (.slice a3 (al.length + fr.length) c3) (al.length + fr.length) (al.map B8 ++ fr.map B8)) (hg3 : w2.grownBy w3 (Value.slice aa al.length ac).ownBlock)
    (hk3 : (Value.slice a3 (al.length + fr.length) c3).ownBlock = (Value.slice aa al.length ac).ownBlock ∨ (Value.slice a3 (al.length + fr.length) c3).ownBlock = some w2.heap.size)
    (hm4 : Mid w4 w.heap.size 23 1 (.slice a4 (G.length + 1) c4) (G.length + 1) (vs ++ [x])) (hg4 : (w3.alloc ob).grownBy w4 (Value.slice wa G.length wc).ownBlock)
    (hk4 : (Value.slice a4 (G.length + 1) c4).ownBlock = (Value.slice wa G.length wc).ownBlock ∨ (Value.slice a4 (G.length + 1) c4).ownBlock = some (w3.alloc ob).heap.size) :
    Mk w (G ++ [xs]) (.slice a3 (al.length + fr.length) c3) (.slice a4 (G.length + 1) c4) w4 := by
  subst hal hfr
  have hl : vs.length = G.length := by simpa using h4.1
  have ef : (G ++ [xs]).flatMap frameOf = G.flatMap frameOf ++ frameOf xs := by simp [List.flatMap_append]
  have hz2 := hb2.size
  have hz3 := hg3.size
  have hz0 := h7.size
  have hwa : ∀ k, (Value.slice wa G.length wc).ownBlock = some k → w.heap.size ≤ k ∧ k < wr.heap.size := h4.lt
  have hB2 := h7.trans (hb2.mono h7.size)
  have hB3 : Below w.heap.size w w3 := hB2.grown hg3 (by omega) fun k hk => (h3.lt k hk).1
  have hB4 : Below w.heap.size w w4 := (hB3.alloc (by omega) ob).grown hg4 (by simp; omega) fun k hk => (h4.lt k hk).1
  refine ⟨a3, c3, a4, c4, vs ++ [x], by rw [ef]; simp, by simp, ?_, by simpa using hm4, ?_, ?_, hB4⟩
  · rw [ef, List.map_append]
    simp only [List.length_append]
    refine (hm3.alloc ob).grown hg4 fun k hk e => ?_
    have hlt := (hm3.lt k hk).2
    rcases hk3 with e3 | e3
    · exact h6 k (e3 ▸ hk) e.symm
    · rw [e3] at hk
      have := hwa k e.symm
      simp at hk; omega
  · intro i y hy
    rcases Nat.lt_or_ge i vs.length with hi | hi
    · rw [List.getElem?_append_left hi] at hy
      obtain ⟨ys, e, hb, h1⟩ := h5 i y hy
      exact ⟨ys, by rw [List.getElem?_append_left (by omega)]; exact e, hb, h1⟩
    · have hi0 : i = vs.length := by
        have := (List.getElem?_eq_some_iff.1 hy).1
        simp at this; omega
      subst hi0
      simp at hy
      subst hy
      exact ⟨xs, by rw [List.getElem?_append_right (by omega)]; simp [hl], hx, hx1⟩
  · rw [ef]
    simp only [List.length_append, List.length_cons, List.length_nil]
    intro k hk e
    have hlt := (hm3.lt k hk).2
    rcases hk3 with e3 | e3
    · rcases hk4 with e4 | e4
      · exact h6 k (e3 ▸ hk) (e4 ▸ e)
      · rw [e4] at e; simp at e; omega
    · rw [e3] at hk
      simp at hk
      rcases hk4 with e4 | e4
      · have := hwa k (e4 ▸ e); omega
      · rw [e4] at e; simp at e; omega

/-- What has come out so far, gathered. -/
def Gath (w0 : World) (jb : Nat) (tot : List Int) (v : Value) (wr : World) : Prop :=
  ∃ (F : Nat → Prop) (a : Option Addr) (c : Nat) (vs : List Value), v = .slice a (split tot).1.length c ∧ J wr jb F (split tot).2.1 (split tot).2.2 ∧ (∀ k, F k → w0.heap.size ≤ k ∧ k < wr.heap.size) ∧ Below w0.heap.size w0 wr ∧ RowsV wr w0.heap.size (.slice a (split tot).1.length c) (split tot).1 vs ∧
    (∀ k, (Value.slice a (split tot).1.length c).ownBlock = some k → ¬ F k) ∧ (∀ x, x ∈ vs → ∀ k, x.ownBlock = some k → ¬ F k)
theorem Gath.below {w0 wr : World} {jb : Nat} {tot : List Int} {v : Value} (h : Gath w0 jb tot v wr) : Below w0.heap.size w0 wr := by
  obtain ⟨_, _, _, _, _, _, _, h, _⟩ := h; exact h
theorem Gath.new (w1 : World) : Gath w1 w1.heap.size [] (.slice none 0 0) (w1.alloc (.cells #[.slice none 0 0, .bool false] 32)) := by
  unfold Gath
  rw [split_nil]
  exact ⟨fun k => k = w1.heap.size, none, 0, [], rfl, J.new w1 _ rfl, fun k h => by simp; omega, (Below.refl _ _).alloc (Nat.le_refl _) _, RowsV.nil _ _, fun k h => (by cases h), fun x h => (by cases h)⟩
/-- Behind a piece, and the append of what came out. -/
theorem gath_push {w0 wr w2 w3 : World} {jb : Nat} {F F' : Nat → Prop} {xss yss : List (List Int)} {a a2 a3 : Option Addr} {c c2 c3 : Nat} {vs ws : List Value} {r : List Int} {d : Bool}
    (hF : ∀ k, F k → w0.heap.size ≤ k ∧ k < wr.heap.size) (hbw : Below w0.heap.size w0 wr) (hr : RowsV wr w0.heap.size (.slice a xss.length c) xss vs) (hn1 : ∀ k, (Value.slice a xss.length c).ownBlock = some k → ¬ F k) (hn2 : ∀ x, x ∈ vs → ∀ k, x.ownBlock = some k → ¬ F k)
    (hk : Keeps wr w2 F) (hj : J w2 jb F' r d) (hF' : ∀ k, F' k → F k ∨ wr.heap.size ≤ k) (hr2 : RowsV w2 wr.heap.size (.slice a2 yss.length c2) yss ws) (hm2 : ∀ x, x ∈ ws → ∀ k, x.ownBlock = some k → ¬ F' k)
    (hm : Mid w3 w0.heap.size 23 1 (.slice a3 (xss.length + yss.length) c3) (xss.length + yss.length) (vs ++ ws)) (hg : w2.grownBy w3 (Value.slice a xss.length c).ownBlock)
    (hk3 : (Value.slice a3 (xss.length + yss.length) c3).ownBlock = (Value.slice a xss.length c).ownBlock ∨ (Value.slice a3 (xss.length + yss.length) c3).ownBlock = some w2.heap.size) :
    ∃ (F3 : Nat → Prop) (us : List Value), J w3 jb F3 r d ∧ (∀ k, F3 k → w0.heap.size ≤ k ∧ k < w3.heap.size) ∧ Below w0.heap.size w0 w3 ∧ RowsV w3 w0.heap.size (.slice a3 (xss ++ yss).length c3) (xss ++ yss) us ∧
      (∀ k, (Value.slice a3 (xss ++ yss).length c3).ownBlock = some k → ¬ F3 k) ∧ (∀ x, x ∈ us → ∀ k, x.ownBlock = some k → ¬ F3 k) := by
  have hl : vs.length = xss.length := by simpa using hr.1.1
  have hzr := hk.size
  have hz3 := hg.size
  have hz0 := hbw.size
  have hvb : ∀ k, (Value.slice a xss.length c).ownBlock = some k → w0.heap.size ≤ k ∧ k < wr.heap.size := hr.1.lt
  have hs := hr.stay hk hn1 hn2
  have hvF : ∀ k, (Value.slice a xss.length c).ownBlock = some k → ¬ F' k := fun k h1 h2 => by
    rcases hF' k h2 with h | h
    · exact hn1 k h1 h
    · have := (hvb k h1).2; omega
  have hxF : ∀ x, x ∈ vs → ∀ k, x.ownBlock = some k → ¬ F' k := fun x hx k h1 h2 => by
    rcases hF' k h2 with h | h
    · exact hn2 x hx k h1 h
    · obtain ⟨i, hi⟩ := List.mem_iff_getElem?.1 hx
      obtain ⟨_, _, _, _, hlt, _⟩ := hr.2 i x hi
      have := hlt k h1; omega
  have hkg : Keeps w2 w3 (fun q => (Value.slice a xss.length c).ownBlock = some q) := Keeps.of_grown hg (fun b h => h)
  have each : ∀ (y : Value) (ys : List Int), Bytes w2 y ys → (∀ k, y.ownBlock = some k → k < w2.heap.size ∧ w0.heap.size ≤ k ∧ (Value.slice a xss.length c).ownBlock ≠ some k) → Bytes w3 y ys ∧ (∀ k, y.ownBlock = some k → k < w3.heap.size) ∧ ∀ k, y.ownBlock = some k → w0.heap.size ≤ k ∧ (Value.slice a3 (xss.length + yss.length) c3).ownBlock ≠ some k := by
    intro y ys hy h
    refine ⟨Sl.keeps hy hkg fun k _ hk2 => (h k hk2).2.2, fun k hk2 => by have := (h k hk2).1; omega, fun k hk2 => ⟨(h k hk2).2.1, ?_⟩⟩
    rcases hk3 with e | e
    · rw [e]; exact (h k hk2).2.2
    · rw [e]; have := (h k hk2).1; simp; omega
  refine ⟨fun k => F' k ∧ k < w2.heap.size, vs ++ ws, ?_, ?_, ?_, ?_, ?_, ?_⟩
  · exact (hj.mono (F2 := fun k => F' k ∧ k < w2.heap.size) (fun q h1 h2 => ⟨h2, h1⟩)).keeps hkg fun q h1 h2 => hvF q h2 h1.1
  · rintro k ⟨h1, h2⟩
    refine ⟨?_, by omega⟩
    rcases hF' k h1 with h | h
    · exact (hF k h).1
    · omega
  · exact (hbw.trans (hk.below hz0 fun b h => (hF b h).1)).grown hg (by omega) fun k h => (hvb k h).1
  · refine ⟨by simpa using hm, fun i y hy => ?_⟩
    simp only [List.length_append]
    rcases Nat.lt_or_ge i vs.length with hi | hi
    · rw [List.getElem?_append_left hi] at hy
      obtain ⟨ys, e, hb, h1, h2, h3⟩ := hs.2 i y hy
      obtain ⟨k1, k2, k3⟩ := each y ys hb fun k hk2 => ⟨h2 k hk2, (h3 k hk2).1, (h3 k hk2).2⟩
      exact ⟨ys, by rw [List.getElem?_append_left (by omega)]; exact e, k1, h1, k2, k3⟩
    · rw [List.getElem?_append_right hi] at hy
      obtain ⟨ys, e, hb, h1, h2, h3⟩ := hr2.2 _ y hy
      obtain ⟨k1, k2, k3⟩ := each y ys hb fun k hk2 => ⟨h2 k hk2, by have := (h3 k hk2).1; omega, fun e => by have := (hvb k e).2; have := (h3 k hk2).1; omega⟩
      exact ⟨ys, by rw [List.getElem?_append_right (by omega), ← hl]; exact e, k1, h1, k2, k3⟩
  · simp only [List.length_append]
    rintro k hk2 ⟨h1, h2⟩
    rcases hk3 with e | e
    · exact hvF k (e ▸ hk2) h1
    · rw [e] at hk2; simp at hk2; omega
  · rintro x hx k hk2 ⟨h1, h2⟩
    rcases List.mem_append.1 hx with hx | hx
    · exact hxF x hx k hk2 h1
    · exact hm2 x hx k hk2 h1
/-- A piece more, and what the append of what came out will do. -/
theorem Gath.feed {w0 wq : World} {jb : Nat} {tot bs : List Int} {a : Option Addr} {c np : Nat} {pv : Value} (h : Gath w0 jb tot (.slice a np c) wq) (hd : (split tot).2.2 = false) (hd2 : (split (tot ++ bs)).2.2 = false) (hp : Bytes wq pv bs) (hb : Byt bs) (hlen : tot.length + bs.length ≤ 8388608) :
    Calls Tryd.prog 11 #[.pointer (some ⟨jb, 0, none⟩), pv] wq fun e w2 => ∃ (a2 : Option Addr) (c2 nz : Nat) (vs ws : List Value), e = .returned (.tuple #[.slice a2 nz c2, .nilIface]) ∧
      Mid w2 w0.heap.size 23 1 (.slice a np c) np vs ∧ Sl w2 1 (.slice a2 nz c2) nz ws ∧ (∀ u ∈ ws, u.oneCell' = true) ∧ w0.heap.size ≤ w2.heap.size ∧ np + nz ≤ 8388608 ∧
      ∀ a3 c3 w3, Mid w3 w0.heap.size 23 1 (.slice a3 (np + nz) c3) (np + nz) (vs ++ ws) → w2.grownBy w3 (Value.slice a np c).ownBlock → ((Value.slice a3 (np + nz) c3).ownBlock = (Value.slice a np c).ownBlock ∨ (Value.slice a3 (np + nz) c3).ownBlock = some w2.heap.size) → Gath w0 jb (tot ++ bs) (.slice a3 (np + nz) c3) w3 := by
  obtain ⟨F, a', c', vs, e, hj, hF, hbw, hr, hn1, hn2⟩ := h
  obtain ⟨rfl, rfl, rfl⟩ : a' = a ∧ (split tot).1.length = np ∧ c' = c := by cases e; exact ⟨rfl, rfl, rfl⟩
  clear e
  have hrl := rest_le tot
  have hs := split_more_live (bs := bs) hd
  have hfr := framed_ge _ (tot ++ bs) (Nat.le_refl _)
  rw [hd] at hj
  rw [hs] at hfr hd2
  refine (feed_live jb F _ bs pv wq hj hp hb (by omega)).mono fun e w2 hq => ?_
  unfold FeedPost at hq
  obtain ⟨oa, oc, ev, ws, F', he, hrv, hj2, hF2, hm1, hm2, hk, hev⟩ := hq
  obtain rfl : ev = .nilIface := by
    rcases hev with ⟨_, h⟩ | ⟨h, _⟩
    · exact h
    · exact absurd (hd2.symm.trans h) (by decide)
  have hstay := hr.stay hk hn1 hn2
  refine ⟨oa, oc, _, vs, ws, he, hstay.1, Sl.ofMid hrv.1, fun u hu => ?_, Nat.le_trans hbw.size hk.size, ?_, fun a3 c3 w3 g1 g2 g3 => ?_⟩
  · obtain ⟨i, hi⟩ := List.mem_iff_getElem?.1 hu
    obtain ⟨_, _, _, h1, _⟩ := hrv.2 i u hi
    exact h1
  · simp only [List.length_append] at hfr; omega
  · obtain ⟨F3, us, k1, k2, k3, k4, k5, k6⟩ := gath_push hF hbw hr hn1 hn2 hk hj2 hF2 hrv hm2 g1 g2 g3
    refine ⟨F3, a3, c3, us, by rw [hs]; simp, by rw [hs]; exact k1, k2, k3, by rw [hs]; exact k4, by rw [hs]; exact k5, k6⟩
theorem Gath.shape {w0 wr : World} {jb : Nat} {tot : List Int} {v : Value} (h : Gath w0 jb tot v wr) : ∃ a np c, v = .slice a np c := by
  obtain ⟨_, a, c, _, h, _⟩ := h; exact ⟨a, _, c, h⟩
/-- No cut of frames ends the stream. -/
theorem cut_live (l : List (List Int)) (hl : ∀ x, x ∈ l → 1 ≤ x.length ∧ x.length ≤ 65536) (n : Nat) : (split ((l.flatMap frameOf).take n)).2.2 = false := by
  have h := split_append _ ((l.flatMap frameOf).take n) ((l.flatMap frameOf).drop n) (Nat.le_refl _)
  rw [List.take_append_drop, split_frames l hl] at h
  cases hd : (split ((l.flatMap frameOf).take n)).2.2 with
  | false => rfl
  | true =>
    rw [if_pos hd] at h
    rw [← h] at hd
    exact absurd (show false = true from hd) (by decide)
end Go.Proofs.YtamkappanknklaaDoor
