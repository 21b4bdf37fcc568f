/-
  What FrameJoins holds along the way: the Joiner, all that has come, its own piece; rows behind a cut; no walk.
  Printed by a program of this repository (wip/frame12.py).
-/
import Derived.Test.YtamkappanknklaaDoorStep
import Derived.Test.YtamkappanknklaaDoorMem3
namespace Go.Proofs.YtamkappanknklaaDoor
open Go.RowKit Go.Extern.Stop Go.Stop Go.Extern

/-- Rows behind a cut. -/
theorem RowsR.dropAt {w : World} {b o c : Nat} {xss : List (List Int)} (h : RowsR w (.slice (some ⟨b, o, none⟩) xss.length c) xss) (k : Nat) (hk : k ≤ xss.length) : RowsR w (.slice (some ⟨b, o + k, none⟩) (xss.drop k).length (c - k)) (xss.drop k) := by
  obtain ⟨vs, h1, h2⟩ := h
  have hl : vs.length = xss.length := by simpa using h1.1
  refine ⟨vs.drop k, ⟨by simp [hl], ?_⟩, fun i x hx => ?_⟩
  · rcases h1.2 with ⟨_, c', e, h0, hm, _⟩ | ⟨b', o', c', e, hn, hm, hlt, hc⟩
    · cases e
      exact .inl ⟨_, _, rfl, by rw [List.length_drop]; omega, by omega, fun h => (by cases h)⟩
    · cases e
      refine .inr ⟨b, o + k, c - k, rfl, by rw [List.length_drop]; omega, by omega, hlt, fun j u hj => ?_⟩
      rw [List.getElem?_drop] at hj
      rw [Nat.add_assoc]
      exact hc _ u hj
  · rw [List.getElem?_drop] at hx
    obtain ⟨ys, e, hb⟩ := h2 _ x hx
    exact ⟨ys, by rw [List.getElem?_drop]; exact e, hb⟩
theorem RowsR.none {w : World} {a : Option Addr} {c : Nat} (hm : c ≤ maxLen) (h0 : a = none → c = 0) : RowsR w (.slice a 0 c) [] :=
  ⟨[], ⟨rfl, .inl ⟨a, c, rfl, rfl, hm, h0⟩⟩, fun i x hx => (by simp at hx)⟩

/-- The Joiner, and all that has come. -/
def Stand (w : World) (jb : Nat) (tot al : List Int) (av : Value) (wr : World) : Prop :=
  ∃ (F : Nat → Prop) (aa : Option Addr) (ac : Nat), av = .slice aa al.length ac ∧ J wr jb F (split tot).2.1 (split tot).2.2 ∧ (∀ k, F k → w.heap.size ≤ k ∧ k < wr.heap.size) ∧ Mid wr w.heap.size 5 1 (.slice aa al.length ac) al.length (al.map B8) ∧
    (∀ k, (Value.slice aa al.length ac).ownBlock = some k → ¬ F k) ∧ Below w.heap.size w wr
theorem Stand.below {w wr : World} {jb : Nat} {tot al : List Int} {av : Value} (h : Stand w jb tot al av wr) : Below w.heap.size w wr := by
  obtain ⟨_, _, _, _, _, _, _, _, h⟩ := h; exact h
theorem Stand.new {w w1 : World} (hb : Below w.heap.size w w1) : Stand w w1.heap.size [] [] (.slice none 0 0) (w1.alloc (.cells #[.slice none 0 0, .bool false] 32)) := by
  refine ⟨fun k => k = w1.heap.size, none, 0, rfl, ?_, fun k h => by have := hb.size; simp; omega, Mid.nil _ _ _ _, fun k h => (by cases h), hb.alloc hb.size _⟩
  rw [split_nil]
  exact J.new w1 _ rfl
/-- Old memory, and what lies below, stays: so does it. -/
theorem Stand.grow {w wr w' : World} {jb : Nat} {tot al : List Int} {av : Value} (h : Stand w jb tot al av wr) (hb : Below wr.heap.size wr w') : Stand w jb tot al av w' := by
  obtain ⟨F, aa, ac, e, hj, hF, hm, hn, hw⟩ := h
  have := hb.size
  exact ⟨F, aa, ac, e, hj.keeps (Keeps.of_below hb (S := fun k => wr.heap.size ≤ k ∧ k < wr.heap.size) (fun b h1 h2 => ⟨h1, h2⟩)) (fun k _ h => by omega), fun k hk => ⟨(hF k hk).1, by have := (hF k hk).2; omega⟩, hm.below hb fun k hk => (hm.lt k hk).2, hn, hw.trans (hb.mono hw.size)⟩
/-- A copy takes the Joiner's place; the elder one is fed. -/
theorem Stand.swap {w wr w1 w3 : World} {cb : Nat} {tot al : List Int} {aa : Option Addr} {ac : Nat} {F F2 : Nat → Prop} {ob : Obj}
    (hF : ∀ k, F k → w.heap.size ≤ k ∧ k < wr.heap.size) (hm : Mid wr w.heap.size 5 1 (.slice aa al.length ac) al.length (al.map B8)) (hn : ∀ k, (Value.slice aa al.length ac).ownBlock = some k → ¬ F k) (hw : Below w.heap.size w wr)
    (hc : J w1 cb F2 (split tot).2.1 (split tot).2.2) (hF2 : ∀ k, F2 k → wr.heap.size ≤ k) (hb : Below wr.heap.size wr w1) (hk : Keeps (w1.alloc ob) w3 F) : Stand w cb tot al (.slice aa al.length ac) w3 := by
  have hz1 := hb.size
  have hz3 := hk.size
  simp at hz3
  have hw1 : Below w.heap.size w w1 := hw.trans (hb.mono hw.size)
  refine ⟨fun k => F2 k ∧ k < w1.heap.size, aa, ac, rfl, ?_, ?_, ?_, ?_, ?_⟩
  · exact ((hc.mono (F2 := fun k => F2 k ∧ k < w1.heap.size) fun k h1 h2 => ⟨h2, h1⟩).keeps (Keeps.alloc _ ob (fun _ => False)) (fun _ _ h => h)).keeps hk fun k h1 h2 => by have := hF2 k h1.1; have := (hF k h2).2; omega
  · rintro k ⟨h1, h2⟩
    have := hF2 k h1
    have := hw.size
    exact ⟨by omega, by omega⟩
  · exact ((hm.below hb fun k hk => (hm.lt k hk).2).alloc ob).same fun k hk2 => hk.block k (by have := (hm.lt k hk2).2; simp; omega) (hn k hk2)
  · rintro k hk2 ⟨h1, _⟩
    have := hF2 k h1; have := (hm.lt k hk2).2; omega
  · exact (hw1.alloc hw1.size ob).trans (hk.below (by have := hw1.size; simp; omega) fun b h => (hF b h).1)
/-- Whatever is fed: only the Joiner's blocks are written. -/
theorem feed_keeps {w : World} {jb : Nat} {F : Nat → Prop} {rest bs : List Int} {d : Bool} {pv : Value} (h : J w jb F rest d) (hp : Bytes w pv bs) (hb : Byt bs) (hlen : rest.length + bs.length ≤ 4294967296) :
    Calls Tryd.prog 11 #[.pointer (some ⟨jb, 0, none⟩), pv] w fun e w' => (∃ v, e = .returned v) ∧ Keeps w w' F := by
  cases d with
  | true => exact (feed_dead jb F rest pv w h).mono fun e w' ⟨he, hw⟩ => ⟨⟨_, he⟩, by rw [hw]; exact Keeps.refl _ _⟩
  | false =>
    refine (feed_live jb F rest bs pv w h hp hb hlen).mono fun e w' hq => ?_
    unfold FeedPost at hq
    obtain ⟨_, _, _, _, _, he, _, _, _, _, _, hk, _⟩ := hq
    exact ⟨⟨_, he⟩, hk⟩
/-- What Feed's error is, in every world. -/
def ErrIs (tot bs : List Int) (n : Nat) (ev : Value) (w' : World) : Prop :=
  ((split (tot ++ bs)).2.2 = false ∧ ev = .nilIface) ∨ ((split tot).2.2 = false ∧ (split (tot ++ bs)).2.2 = true ∧ ∃ fb, ev = eF fb ∧ IsF w' fb ⟨#[102, 114, 97, 109, 101]⟩ n 260) ∨ ((split tot).2.2 = true ∧ (split (tot ++ bs)).2.2 = true ∧ n = 0 ∧ ev = eE 300)
/-- A piece of the call's own is fed; then only that piece is written. -/
theorem Stand.feed {w wr wo : World} {jb : Nat} {tot al bs : List Int} {av pv : Value} (h : Stand w jb tot al av wr) (hb : Below wr.heap.size wr wo) (hown : Mid wo wr.heap.size 5 1 pv bs.length (bs.map B8)) (hby : Byt bs) (hlen : tot.length + bs.length ≤ 8388608) :
    Calls Tryd.prog 11 #[.pointer (some ⟨jb, 0, none⟩), pv] wo fun e w2 => ∃ (xss : List (List Int)) (oa : Option Addr) (oc : Nat) (ev : Value), e = .returned (.tuple #[.slice oa xss.length oc, ev]) ∧ (split (tot ++ bs)).1 = (split tot).1 ++ xss ∧
      Mid w2 wr.heap.size 5 1 pv bs.length (bs.map B8) ∧ Below w.heap.size w w2 ∧ wr.heap.size ≤ w2.heap.size ∧
      (∀ w3, Keeps w2 w3 (fun q => pv.ownBlock = some q) → Stand w jb (tot ++ bs) al av w3) ∧ ∀ w3, Keeps w2 w3 (fun q => q < wo.heap.size) → RowsR w3 (.slice oa xss.length oc) xss ∧ ErrIs tot bs xss.length ev w3 := by
  have hwz := h.below.size
  obtain ⟨F, aa, ac, e, hj, hF, hm, hn, hw⟩ := h
  have hz := hb.size
  have hjo := hj.keeps (Keeps.of_below hb (S := fun k => wr.heap.size ≤ k ∧ k < wr.heap.size) (fun b h1 h2 => ⟨h1, h2⟩)) (fun k _ h => by omega)
  have hmo := hm.below hb fun k hk => (hm.lt k hk).2
  have hwo := hw.trans (hb.mono hw.size)
  have hrl := rest_le tot
  have hob : ∀ k, pv.ownBlock = some k → wr.heap.size ≤ k ∧ k < wo.heap.size := hown.lt
  cases hd : (split tot).2.2 with
  | true =>
    rw [hd] at hjo
    refine (feed_dead jb F _ pv wo hjo).mono fun e2 w2 ⟨he, hw2⟩ => ?_
    subst hw2
    refine ⟨[], none, 0, _, he, by rw [split_more_dead hd]; simp, hown, hwo, hz, fun w3 hk => ⟨F, aa, ac, e, ?_, fun k h => ?_, ?_, hn, ?_⟩, fun w3 hk => ⟨RowsR.none (Nat.zero_le _) (fun _ => rfl), .inr (.inr ⟨hd, by rw [split_more_dead hd]; exact hd, rfl, rfl⟩)⟩⟩
    · rw [split_more_dead hd, hd]
      exact hjo.keeps hk fun k h1 h2 => by have := (hF k h1).2; have := (hob k h2).1; omega
    · have := hF k h; have := hk.size; omega
    · exact hmo.same fun k h1 => hk.block k (hmo.lt k h1).2 fun h2 => by have := (hm.lt k h1).2; have := (hob k h2).1; omega
    · exact hwo.trans (hk.below (by omega) fun b h => by have := (hob b h).1; omega)
  | false =>
    rw [hd] at hjo
    have hs := split_more_live (bs := bs) hd
    refine (feed_live jb F _ bs pv wo hjo (Sl.ofMid hown) hby (by omega)).mono fun e2 w2 hq => ?_
    unfold FeedPost at hq
    obtain ⟨oa, oc, ev, vs, F', he, hrv, hj2, hF2, hm1, hm2, hk2, hev⟩ := hq
    have hz2 := hk2.size
    have hnF : ∀ k, pv.ownBlock = some k → ¬ F k := fun k h1 h2 => by have := (hF k h2).2; have := (hob k h1).1; omega
    refine ⟨_, oa, oc, ev, he, by rw [hs], hown.same fun k h1 => hk2.block k (hob k h1).2 (hnF k h1), hwo.trans (hk2.below (by omega) fun b h => (hF b h).1), by omega, fun w3 hk => ⟨fun k => F' k ∧ k < w2.heap.size, aa, ac, e, ?_, ?_, ?_, ?_, ?_⟩, fun w3 hk => ⟨?_, ?_⟩⟩
    · rw [hs]
      refine (hj2.mono (F2 := fun k => F' k ∧ k < w2.heap.size) fun k h1 h2 => ⟨h2, h1⟩).keeps hk fun k h1 h2 => ?_
      rcases hF2 k h1.1 with h | h
      · exact hnF k h2 h
      · have := (hob k h2).2; omega
    · rintro k ⟨h1, h2⟩
      have := hk.size
      rcases hF2 k h1 with h | h
      · exact ⟨(hF k h).1, by omega⟩
      · exact ⟨by omega, by omega⟩
    · refine (hmo.same fun k h1 => hk2.block k (hmo.lt k h1).2 (hn k h1)).same fun k h1 => hk.block k (by have := (hmo.lt k h1).2; omega) fun h2 => by have := (hm.lt k h1).2; have := (hob k h2).1; omega
    · rintro k h1 ⟨h2, _⟩
      rcases hF2 k h2 with h | h
      · exact hn k h1 h
      · have := (hm.lt k h1).2; omega
    · exact (hwo.trans (hk2.below (by omega) fun b h => (hF b h).1)).trans (hk.below (by omega) fun b h => by have := (hob b h).1; omega)
    · exact RowsR.ofV (hrv.keeps hk fun k h1 h2 => by omega)
    · unfold ErrIs
      rw [hs]
      rcases hev with ⟨h4, h5⟩ | ⟨h4, fb, h5, h6, h7⟩
      · exact .inl ⟨h4, h5⟩
      · refine .inr (.inl ⟨hd, h4, fb, h5, ?_⟩)
        have hf : fb < w2.heap.size := h6.lt
        have hnf : ¬ fb < wo.heap.size := by omega
        obtain ⟨f0, f1, f2⟩ := h6
        exact ⟨(hk.cell (a := ⟨fb, 0, none⟩) hf hnf).trans f0, (hk.cell (a := ⟨fb, 1, none⟩) hf hnf).trans f1, (hk.cell (a := ⟨fb, 2, none⟩) hf hnf).trans f2⟩
/-- All that has come grows by a piece. -/
theorem Stand.push {w wr : World} {jb : Nat} {tot al : List Int} {av : Value} (h : Stand w jb tot al av wr) :
    ∃ (aa : Option Addr) (ac : Nat), av = .slice aa al.length ac ∧ Mid wr w.heap.size 5 1 (.slice aa al.length ac) al.length (al.map B8) ∧ Below w.heap.size w wr ∧
      ∀ (xs : List Int) (a' : Option Addr) (c' : Nat) (w' : World), Mid w' w.heap.size 5 1 (.slice a' (al.length + xs.length) c') (al.length + xs.length) (al.map B8 ++ xs.map B8) → wr.grownBy w' (Value.slice aa al.length ac).ownBlock →
        ((Value.slice a' (al.length + xs.length) c').ownBlock = (Value.slice aa al.length ac).ownBlock ∨ (Value.slice a' (al.length + xs.length) c').ownBlock = some wr.heap.size) →
          Stand w jb tot (al ++ xs) (.slice a' (al.length + xs.length) c') w' ∧ Keeps wr w' (fun q => q < wr.heap.size ∧ (Value.slice aa al.length ac).ownBlock = some q) ∧ Bytes w' (.slice a' (al ++ xs).length c') (al ++ xs) := by
  obtain ⟨F, aa, ac, e, hj, hF, hm, hn, hw⟩ := h
  refine ⟨aa, ac, e, hm, hw, fun xs a' c' w' h1 h2 h3 => ⟨⟨F, a', c', by rw [List.length_append], ?_, ?_, ?_, ?_, ?_⟩, ?_, ?_⟩⟩
  · exact hj.keeps (Keeps.of_grown h2 (S := fun q => (Value.slice aa al.length ac).ownBlock = some q) fun b hb => hb) fun k h4 h5 => hn k h5 h4
  · intro k hk
    have := h2.size; have := hF k hk
    exact ⟨this.1, by omega⟩
  · rw [List.length_append, List.map_append]; exact h1
  · rw [List.length_append]
    intro k hk hFk
    rcases h3 with h3 | h3
    · exact hn k (by rw [← h3]; exact hk) hFk
    · rw [h3] at hk
      cases hk
      have := (hF _ hFk).2; omega
  · exact hw.grown h2 hw.size fun q hq => (hm.lt q hq).1
  · exact Keeps.of_grown h2 fun b hb => ⟨(hm.lt b hb).2, hb⟩
  · rw [List.length_append]
    unfold Bytes
    rw [List.length_append, List.map_append]
    exact Sl.ofMid h1
/-- The k-th piece, wherever old memory stays. -/
theorem rows_piece {w : World} {a : Option Addr} {c n : Nat} {xss : List (List Int)} (h : RowsR w (.slice a n c) xss) (k : Nat) (hk : k < xss.length) :
    ∃ (g o : Nat) (xa : Option Addr) (xc : Nat) (xs : List Int), a = some ⟨g, o, none⟩ ∧ xss[k]? = some xs ∧ ∀ wq, Below w.heap.size w wq → wq.cell? ⟨g, o + k, none⟩ = some (.slice xa xs.length xc) ∧ Bytes wq (.slice xa xs.length xc) xs := by
  obtain ⟨g, o, x, xs, e1, e2, e3, e4⟩ := h.get k hk
  obtain ⟨xa, xc, rfl, _⟩ := Sl.len e4
  exact ⟨g, o, xa, xc, xs, e1, e3, fun wq hb => ⟨(hb.cell (p := ⟨g, o + k, none⟩) (World.block_lt_of_cell? _ _ e2)).trans e2, Sl.below e4 hb⟩⟩
theorem Stand.allLt {w wr : World} {jb : Nat} {tot al : List Int} {av : Value} (h : Stand w jb tot al av wr) : ∀ q, av.ownBlock = some q → q < wr.heap.size := by
  obtain ⟨F, aa, ac, rfl, _, _, hm, _⟩ := h
  exact fun q hq => (hm.lt q hq).2
theorem Stand.reads {w wr : World} {jb : Nat} {tot al : List Int} {av : Value} (h : Stand w jb tot al av wr) (m : Nat) :
    (Calls Tryd.prog 14 #[.pointer (some ⟨jb, 0, none⟩)] (wr.drewN m) fun e w' => e = .returned (.bool (split tot).2.2) ∧ w' = wr.drewN m) ∧
    Calls Tryd.prog 13 #[.pointer (some ⟨jb, 0, none⟩)] (wr.drewN m) fun e w' => e = .returned (.int .i64 (split tot).2.1.length) ∧ w' = wr.drewN m := by
  obtain ⟨F, aa, ac, _, hj, _⟩ := h
  exact ⟨dead_any jb F _ _ _ (hj.drewq m), left_any jb F _ _ _ (hj.drewq m)⟩
theorem Stand.drewq {w wr : World} {jb : Nat} {tot al : List Int} {av : Value} (h : Stand w jb tot al av wr) (m : Nat) : Stand w jb tot al av (wr.drewN m) :=
  h.grow ⟨rfl, rfl, rfl, Nat.le_refl _, fun _ _ => rfl⟩
theorem ErrIs.below {tot bs : List Int} {n : Nat} {ev : Value} {w w' : World} (h : ErrIs tot bs n ev w) (hb : Below w.heap.size w w') : ErrIs tot bs n ev w' := by
  rcases h with h | ⟨h1, h2, fb, h3, h4⟩ | h
  · exact .inl h
  · exact .inr (.inl ⟨h1, h2, fb, h3, h4.below hb h4.lt⟩)
  · exact .inr (.inr h)
theorem Tryd.elemTBB : Tryd.prog.underlying 22 = some (.slice (Tryd.prog.elem 22)) := by kernel_rfl
theorem Tryd.sizeTBB (w' : World) : (sizeOf (Tryd.prog.elem 22)).run Tryd.prog w' = .ok 1 w' := by kernel_rfl
/-- Rows behind some others, as the model cuts them. -/
theorem rows_low {w : World} {a : Option Addr} {c : Nat} {xss yss : List (List Int)} (h : RowsR w (.slice a (xss.length + yss.length) c) (xss ++ yss)) :
    ∃ (sa : Option Addr) (sc : Nat), (∀ w' : World, (Instr.slice 22 (.slice a (xss.length + yss.length) c) (some (.int .i64 xss.length)) none none).run Tryd.prog w' = .ok (.slice sa yss.length sc) w') ∧ RowsR w (.slice sa yss.length sc) yss := by
  have hr := fun w' : World => run_slice_l (P := Tryd.prog) (w := w') 22 a (xss.length + yss.length) c Tryd.elemTBB .i64 (xss.length : Int) (by omega) (by omega)
  have hl : xss.length + yss.length ≤ c ∧ c ≤ maxLen ∧ (a = none → c = 0) := by
    obtain ⟨vs, s1, _⟩ := h
    rw [← List.length_append] at s1
    obtain ⟨a', c', e, h1, h2, h3⟩ := Sl.len s1
    cases e
    rw [List.length_append] at h1
    exact ⟨h1, h2, h3⟩
  refine ⟨if c = xss.length then a else a.map (·.add (xss.length * 1)), c - xss.length, fun w' => ?_, ?_⟩
  · rw [hr, Tryd.sizeTBB]
    simp only [Result.andThen, sliced, Int.toNat_natCast, Nat.add_sub_cancel_left]
  · by_cases hc : c = xss.length
    · have hy : yss = [] := List.eq_nil_of_length_eq_zero (by omega)
      subst hy
      rw [if_pos hc]
      exact RowsR.none (by omega) (fun h0 => by have := hl.2.2 h0; omega)
    · rw [if_neg hc]
      by_cases h0 : xss.length + yss.length = 0
      · have hy : yss = [] := List.eq_nil_of_length_eq_zero (by omega)
        subst hy
        refine RowsR.none (by omega) (fun h1 => ?_)
        cases a with
        | none => have := hl.2.2 rfl; omega
        | some a => cases h1
      · obtain ⟨vs, s1, h2⟩ := h
        rw [← List.length_append] at s1 h0
        obtain ⟨b, o, c', e, _⟩ := Sl.plain s1 (by omega)
        cases e
        have := RowsR.dropAt (xss := xss ++ yss) ⟨vs, s1, h2⟩ xss.length (by simp)
        rw [List.drop_left] at this
        simpa [Addr.add_lit] using this
end Go.Proofs.YtamkappanknklaaDoor
