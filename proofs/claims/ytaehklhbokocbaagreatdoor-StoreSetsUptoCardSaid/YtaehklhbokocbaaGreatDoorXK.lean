/-
  What the laws of a store stand on, part K: contracts and plain laws of LBase, LDoes; the conditions are each law's own.
-/
import Derived.Test.YtaehklhbokocbaaGreatDoorXS
import Derived.Test.YtaehklhbokocbaaGreatDoorXJ
import Derived.Deep.RegionHeld3
import Derived.Test.YtaehklhbokocbaaGreatDoorXI
set_option linter.unusedVariables false
set_option linter.unusedSimpArgs false
namespace Go.Proofs.YtaehklhbokocbaaGreatDoor
open Go.RowKit
structure Ctx (w0 w : World) (sb : Nat) (G : Nat → Prop) (s : AS) (rb : Nat) (H : Nat → Prop) (m : RM) : Prop where
  sa : SA w sb G s
  rb : RB w rb H m
  dj : ∀ k, G k → ¬ H k
  g0 : ∀ k, G k → w0.heap.size ≤ k
  h0 : ∀ k, H k → w0.heap.size ≤ k
  bl : Below w0.heap.size w0 w
def CtxA (w0 w : World) (sb : Nat) (G : Nat → Prop) (s : AS) (rb : Nat) (H : Nat → Prop) (m : RM) (w' : World) : Prop :=
  ∃ G' H', Ctx w0 w' sb G' s rb H' m ∧ (∀ k, G' k → G k ∨ w.heap.size ≤ k) ∧ (∀ k, H' k → H k ∨ w.heap.size ≤ k) ∧ Keeps w w' fun k => G k ∨ H k
section
variable {w0 w w1 w2 w' : World} {sb rb : Nat} {G H : Nat → Prop} {s s1 s2 : AS} {m m1 m2 : RM}
theorem Ctx.below (h : Ctx w0 w sb G s rb H m) (hb : Below w.heap.size w w') : Ctx w0 w' sb G s rb H m :=
  ⟨h.sa.below hb, h.rb.below hb, h.dj, h.g0, h.h0, h.bl.trans (hb.mono h.bl.size)⟩
theorem CtxA.of_below (h : Ctx w0 w sb G s rb H m) (hb : Below w.heap.size w w') : CtxA w0 w sb G s rb H m w' :=
  ⟨G, H, h.below hb, fun _ h => .inl h, fun _ h => .inl h, below_keeps hb⟩
theorem CtxA.trans (h : CtxA w0 w sb G s1 rb H m1 w1) (k : ∀ G1 H1, Ctx w0 w1 sb G1 s1 rb H1 m1 → CtxA w0 w1 sb G1 s2 rb H1 m2 w2) : CtxA w0 w sb G s2 rb H m2 w2 := by
  obtain ⟨G1, H1, hc, hg, hh, hk⟩ := h
  obtain ⟨G2, H2, hc2, hg2, hh2, hk2⟩ := k G1 H1 hc
  have hz := hk.size
  refine ⟨G2, H2, hc2, fun k hk => ?_, fun k hk => ?_, hk.trans hk2 fun b hb hx => ?_⟩
  · rcases hg2 k hk with h4 | h4
    · exact hg k h4
    · exact .inr (by omega)
  · rcases hh2 k hk with h4 | h4
    · exact hh k h4
    · exact .inr (by omega)
  · rcases hx with hx | hx
    · rcases hg b hx with h4 | h4
      · exact .inl h4
      · omega
    · rcases hh b hx with h4 | h4
      · exact .inr h4
      · omega
theorem CtxA.bl (h : CtxA w0 w sb G s rb H m w') : Below w0.heap.size w0 w' := by obtain ⟨_, _, h, _⟩ := h; exact h.bl
theorem CtxA.below (h : CtxA w0 w sb G s rb H m w1) (hb : Below w1.heap.size w1 w2) : CtxA w0 w sb G s rb H m w2 := h.trans fun _ _ hc => CtxA.of_below hc hb
theorem CtxA.from (hb : Below w.heap.size w w1) (hg : ∀ k, G k → k < w.heap.size) (h : CtxA w0 w1 sb G s rb H m w2) (hh : ∀ k, H k → k < w.heap.size) : CtxA w0 w sb G s rb H m w2 := by
  obtain ⟨G1, H1, hc, h1, h2, hk⟩ := h
  have hz := hb.size
  exact ⟨G1, H1, hc, fun k hk => (h1 k hk).imp id fun h => by omega, fun k hk => (h2 k hk).imp id fun h => by omega, (below_keeps (p := fun k => G k ∨ H k) hb).trans hk fun _ _ h => h⟩
theorem below_of_keeps {S : Nat → Prop} (h : Below w0.heap.size w0 w) (hk : Keeps w w' S) (hs : ∀ k, S k → w0.heap.size ≤ k) : Below w0.heap.size w0 w' := h.trans (hk.below h.size fun k hS => hs k hS)
theorem CtxA.step {G3 H3 : Nat → Prop} {w3 w5 : World} (hg : ∀ k, G3 k → G k ∨ w.heap.size ≤ k) (hh : ∀ k, H3 k → H k ∨ w.heap.size ≤ k) (hk : Keeps w w3 fun k => G k ∨ H k) (h : CtxA w0 w3 sb G3 s rb H3 m w5) : CtxA w0 w sb G s rb H m w5 := by
  obtain ⟨G2, H2, hc2, hg2, hh2, hk2⟩ := h
  have hz := hk.size
  refine ⟨G2, H2, hc2, fun k hk => ?_, fun k hk => ?_, hk.trans hk2 fun b hb hx => ?_⟩
  · rcases hg2 k hk with h4 | h4
    · exact hg k h4
    · exact .inr (by omega)
  · rcases hh2 k hk with h4 | h4
    · exact hh k h4
    · exact .inr (by omega)
  · rcases hx with hx | hx
    · rcases hg b hx with h4 | h4
      · exact .inl h4
      · omega
    · rcases hh b hx with h4 | h4
      · exact .inr h4
      · omega
theorem Ctx.left1 (h : Ctx w0 w sb G s rb H m) (ha : SAct w sb G s1 w') : ∃ G', Ctx w0 w' sb G' s1 rb H m ∧ (∀ k, G' k → G k ∨ w.heap.size ≤ k) ∧ Keeps w w' G := by
  obtain ⟨G', h1, h2, h3⟩ := ha
  have hz := h.bl.size
  refine ⟨G', ⟨h1, h.rb.keeps h3 fun k hH hG => h.dj k hG hH, fun k hG hH => ?_, fun k hG => ?_, h.h0, below_of_keeps h.bl h3 h.g0⟩, h2, h3⟩
  · rcases h2 k hG with h4 | h4
    · exact h.dj k h4 hH
    · have := h.rb.lt k hH; omega
  · rcases h2 k hG with h4 | h4
    · exact h.g0 k h4
    · omega
theorem Ctx.right (h : Ctx w0 w sb G s rb H m) (ha : RAct w rb H m1 w') : CtxA w0 w sb G s rb H m1 w' := by
  obtain ⟨H', h1, h2, h3⟩ := ha
  have hz := h.bl.size
  refine ⟨G, H', ⟨h.sa.keeps h3 (fun k hG hH => h.dj k hG hH) h.rb.noWords, h1, fun k hG hH => ?_, h.g0, fun k hH => ?_, below_of_keeps h.bl h3 h.h0⟩, fun _ h => .inl h, h2, h3.mono fun _ _ h => .inr h⟩
  · rcases h2 k hH with h4 | h4
    · exact h.dj k hG h4
    · have := h.sa.lt k hG; omega
  · rcases h2 k hH with h4 | h4
    · exact h.h0 k h4
    · omega
end
theorem Ctx.fin {w0 w3 WF : World} {sb rb : Nat} {G3 H H5 : Nat → Prop} {s1 : AS} {m m1 : RM} (h : Ctx w0 w3 sb G3 s1 rb H m) (hk : Keeps w3 WF fun k => H k ∨ w3.heap.size ≤ k) (hr : RB WF rb H5 m1) (hh : ∀ k, H5 k → H k ∨ w3.heap.size ≤ k) : CtxA w0 w3 sb G3 s1 rb H m1 WF := by
  have hz := h.bl.size
  have hb : Below w0.heap.size w0 WF := below_of_keeps h.bl hk fun k hk => by
    rcases hk with h4 | h4
    · exact h.h0 k h4
    · omega
  refine ⟨G3, H5, ⟨h.sa.keeps hk (fun k hG hS => ?_) (fun k hS hW => ?_), hr, fun k hG hH => ?_, h.g0, fun k hH => ?_, hb⟩, fun _ h => .inl h, hh, hk.mono fun b hb hx => ?_⟩
  · rcases hS with h4 | h4
    · exact h.dj k hG h4
    · have := h.sa.lt k hG; omega
  · rcases hS with h4 | h4
    · exact h.rb.noWords k h4 hW
    · have := hW.lt; omega
  · rcases hh k hH with h4 | h4
    · exact h.dj k hG h4
    · have := h.sa.lt k hG; omega
  · rcases hh k hH with h4 | h4
    · exact h.h0 k h4
    · omega
  · rcases hx with h4 | h4
    · exact .inr h4
    · omega
theorem ErrV.far {w3 W : World} {base : Nat} {f : Fl} {v : Value} {H : Nat → Prop} (h : ErrV w3 base f v) (hk : Keeps w3 W fun k => H k ∨ w3.heap.size ≤ k) (hs : ∀ k, base ≤ k → ¬ H k) : ErrV W base f v := by
  rcases h with h | h | ⟨h1, h2, b, h3, h4, h5⟩
  · exact .inl h
  · exact .inr (.inl h)
  · have hl := h5.lt
    have hn : ¬ (H b ∨ w3.heap.size ≤ b) := fun hx => by
      rcases hx with h6 | h6
      · exact hs b h3 h6
      · omega
    obtain ⟨c0, c1, c2⟩ := h5
    exact .inr (.inr ⟨h1, h2, b, h3, h4, (hk.cell (a := ⟨b, 0, none⟩) hl hn).trans c0, (hk.cell (a := ⟨b, 1, none⟩) hl hn).trans c1, (hk.cell (a := ⟨b, 2, none⟩) hl hn).trans c2⟩)
def enCells (e : Int × Int × Int) : List Value := [IV e.1, IV e.2.1, IV e.2.2]
theorem enCells_len (e : Int × Int × Int) : (enCells e).length = 3 := rfl
def EnOk (e : Int × Int × Int) : Prop := I64 e.1 ∧ I64 e.2.1 ∧ I64 e.2.2
structure XOk (x : XA) : Prop where
  row : I64 x.row
  col : I64 x.col
  kind : I64 x.kind
  p : I64 x.v.1
  q : I64 x.v.2
  es : ∀ e, e ∈ x.es → EnOk e
def actV (x : XA) (ea : Option Addr) (ec : Nat) : Value := .agg #[.int .i64 x.d, .int .i64 x.row, .int .i64 x.col, .int .i64 x.kind, .int .i64 x.v.1, .int .i64 x.v.2, .slice ea x.es.length ec]
theorem en_get {w : World} {a : Option Addr} {c n : Nat} {l : List (Int × Int × Int)} (h : Sl w 3 (.slice a n c) n (l.flatMap enCells)) (k : Nat) (hk : k < l.length) (hn : k < n) : ∃ b o, a = some ⟨b, o, none⟩ ∧ b < w.heap.size ∧ w.cell? ⟨b, o + k * 3, none⟩ = some (.int .i64 l[k].1) ∧ w.cell? ⟨b, o + k * 3 + 1, none⟩ = some (.int .i64 l[k].2.1) ∧ w.cell? ⟨b, o + k * 3 + 2, none⟩ = some (.int .i64 l[k].2.2) := by
  obtain ⟨b, o, c', e, h1, h2, h3, h4⟩ := h.plain (by omega)
  cases e
  have hc := fun j u hj => h4 _ u (flat_at enCells 3 enCells_len l k hk j u hj)
  have c0 := hc 0 _ rfl
  have c1 := hc 1 _ rfl
  have c2 := hc 2 _ rfl
  simp only [← Nat.add_assoc, Nat.add_zero] at c0 c1 c2
  exact ⟨b, o, rfl, h3, c0, c1, c2⟩
def esPs (a1 a2 a3 : Option Addr) (c1 c2 c3 : Nat) (L : List Cl) (I : List Int) (V : List (Int × Int)) : List Pc :=
  [⟨.slice a1 L.length c1, 87, 4, L.length, L.flatMap colCells⟩, ⟨.slice a2 I.length c2, 3, 1, I.length, I.map IV⟩, ⟨.slice a3 V.length c3, 97, 2, V.length, V.flatMap vCells⟩]
structure EsR (w0 w : World) (a1 a2 a3 : Option Addr) (c1 c2 c3 : Nat) (L : List Cl) (I : List Int) (V : List (Int × Int)) : Prop where
  own : Own w (esPs a1 a2 a3 c1 c2 c3 L I V)
  new : ∀ k, Foot (esPs a1 a2 a3 c1 c2 c3 L I V) k → w0.heap.size ≤ k
  ok : ∀ e, e ∈ L → e.cost.ok w ∧ e.cost.small
  bl : Below w0.heap.size w0 w
theorem Own.grow {w W w4 : World} {ps : List Pc} (h : Own w ps) (i : Nat) (hi : i < ps.length) (hW : Below w.heap.size w W) (p' : Pc) (hm : p'.mid w4) (hg : W.grownBy w4 ps[i].v.ownBlock) (hb : p'.v.ownBlock = ps[i].v.ownBlock ∨ p'.v.ownBlock = some W.heap.size) : Own w4 (ps.set i p') :=
  h.set i hi p' (grownB hW hg) hm (grownN hW hb)
section
variable {w0 w W w4 : World} {a1 a2 a3 a4 : Option Addr} {c1 c2 c3 c4 : Nat} {L : List Cl} {I : List Int} {V : List (Int × Int)}
theorem EsR.nil (w : World) : EsR w w none none none 0 0 0 [] [] [] := by
  have h1 : ∀ p, p ∈ esPs none none none 0 0 0 [] [] [] → p.mid w := fun p hp => by
    simp only [esPs, List.mem_cons, List.not_mem_nil, or_false] at hp
    rcases hp with rfl | rfl | rfl
    · exact Mid.nil w 0 87 4
    · exact Mid.nil w 0 3 1
    · exact Mid.nil w 0 97 2
  have h2 : ∀ k, ¬ Foot (esPs none none none 0 0 0 [] [] []) k := fun k hk => by
    obtain ⟨p, hp, h⟩ := hk
    simp only [esPs, List.mem_cons, List.not_mem_nil, or_false] at hp
    rcases hp with rfl | rfl | rfl
    · cases h
    · cases h
    · cases h
  have h3 : (esPs none none none 0 0 0 [] [] []).Pairwise Apart := by
    unfold esPs
    refine List.Pairwise.cons (fun q _ k h => ?_) (List.Pairwise.cons (fun q _ k h => ?_) (List.pairwise_singleton _ _))
    · cases h
    · cases h
  exact ⟨⟨h1, h3⟩, fun k hk => absurd hk (h2 k), fun e he => absurd he (by simp), Below.refl _ _⟩
theorem EsR.mid1 (h : EsR w0 w a1 a2 a3 c1 c2 c3 L I V) : Mid w 0 87 4 (.slice a1 L.length c1) L.length (L.flatMap colCells) := h.own.get 0 (by simp [esPs])
theorem EsR.mid2 (h : EsR w0 w a1 a2 a3 c1 c2 c3 L I V) : Mid w 0 3 1 (.slice a2 I.length c2) I.length (I.map IV) := h.own.get 1 (by simp [esPs])
theorem EsR.mid3 (h : EsR w0 w a1 a2 a3 c1 c2 c3 L I V) : Mid w 0 97 2 (.slice a3 V.length c3) V.length (V.flatMap vCells) := h.own.get 2 (by simp [esPs])
theorem EsR.new1 (h : EsR w0 w a1 a2 a3 c1 c2 c3 L I V) : ∀ k, (Value.slice a1 L.length c1).ownBlock = some k → w0.heap.size ≤ k := fun k hk => h.new k ⟨_, by simp [esPs]; exact .inl rfl, hk⟩
theorem EsR.new2 (h : EsR w0 w a1 a2 a3 c1 c2 c3 L I V) : ∀ k, (Value.slice a2 I.length c2).ownBlock = some k → w0.heap.size ≤ k := fun k hk => h.new k ⟨⟨.slice a2 I.length c2, 3, 1, I.length, I.map IV⟩, by simp [esPs], hk⟩
theorem EsR.new3 (h : EsR w0 w a1 a2 a3 c1 c2 c3 L I V) : ∀ k, (Value.slice a3 V.length c3).ownBlock = some k → w0.heap.size ≤ k := fun k hk => h.new k ⟨⟨.slice a3 V.length c3, 97, 2, V.length, V.flatMap vCells⟩, by simp [esPs], hk⟩
theorem EsR.types : ∀ p, p ∈ esPs a1 a2 a3 c1 c2 c3 L I V → p.e ≠ 157 := fun p hp => by
  simp only [esPs, List.mem_cons, List.not_mem_nil, or_false] at hp
  rcases hp with rfl | rfl | rfl
  · exact (by decide : (87 : Nat) ≠ 157)
  · exact (by decide : (3 : Nat) ≠ 157)
  · exact (by decide : (97 : Nat) ≠ 157)
theorem EsR.keeps {S : Nat → Prop} {w' : World} (h : EsR w0 w a1 a2 a3 c1 c2 c3 L I V) (hk : Keeps w w' S) (hs : ∀ k, Foot (esPs a1 a2 a3 c1 c2 c3 L I V) k → ¬ S k) (hw : ∀ k, S k → ¬ WordB w k) (h0 : ∀ k, S k → w0.heap.size ≤ k) : EsR w0 w' a1 a2 a3 c1 c2 c3 L I V :=
  ⟨h.own.keeps hk hs, h.new, fun e he => ⟨(h.ok e he).1.keeps hk hw, (h.ok e he).2⟩, below_of_keeps h.bl hk h0⟩
theorem EsR.below {w' : World} (h : EsR w0 w a1 a2 a3 c1 c2 c3 L I V) (hb : Below w.heap.size w w') : EsR w0 w' a1 a2 a3 c1 c2 c3 L I V :=
  ⟨h.own.below hb, h.new, fun e he => ⟨(h.ok e he).1.below hb, (h.ok e he).2⟩, h.bl.trans (hb.mono h.bl.size)⟩
theorem EsR.bw (h : EsR w0 w a1 a2 a3 c1 c2 c3 L I V) (hb : Below w.heap.size w W) {r : Option Nat} (hg : W.grownBy w4 r) (hr : ∀ k, r = some k → w0.heap.size ≤ k) : Below w0.heap.size w0 w4 := below_of_keeps h.bl (grownB hb hg) hr
theorem EsR.old (h : EsR w0 w a1 a2 a3 c1 c2 c3 L I V) (hb : Below w.heap.size w W) (p : Pc) (hp : p ∈ esPs a1 a2 a3 c1 c2 c3 L I V) (hg : W.grownBy w4 p.v.ownBlock) : ∀ e, e ∈ L → e.cost.ok w4 ∧ e.cost.small :=
  fun e he => ⟨(h.ok e he).1.keeps (grownB hb hg) fun k hk => mid_type (h.own.1 p hp) (EsR.types p hp) k hk, (h.ok e he).2⟩
theorem EsR.newset {ps : List Pc} {i : Nat} {p' : Pc} (hn : ∀ k, Foot ps k → w0.heap.size ≤ k) (hi : i < ps.length) (hW : w0.heap.size ≤ W.heap.size) (hb : p'.v.ownBlock = ps[i].v.ownBlock ∨ p'.v.ownBlock = some W.heap.size) : ∀ k, Foot (ps.set i p') k → w0.heap.size ≤ k := fun k hk => by
  rcases foot_set hk with h | h
  · exact hn k h
  · rcases hb with e | e
    · exact hn k (foot_at hi (e.symm.trans h))
    · rw [e] at h; cases h; exact hW
theorem EsR.push1 (h : EsR w0 w a1 a2 a3 c1 c2 c3 L I V) (hW : Below w.heap.size w W) (e : Cl) (he : e.cost.ok W) (hes : e.cost.small) (hm : Mid w4 0 87 4 (.slice a4 (L.length + 1) c4) (L.length + 1) (L.flatMap colCells ++ colCells e))
    (hg : W.grownBy w4 (Value.slice a1 L.length c1).ownBlock) (hb : (Value.slice a4 (L.length + 1) c4).ownBlock = (Value.slice a1 L.length c1).ownBlock ∨ (Value.slice a4 (L.length + 1) c4).ownBlock = some W.heap.size) : EsR w0 w4 a4 a2 a3 c4 c2 c3 (L ++ [e]) I V := by
  have hx := h.own.grow 0 (by simp [esPs]) hW (⟨.slice a4 (L.length + 1) c4, 87, 4, L.length + 1, L.flatMap colCells ++ colCells e⟩ : Pc) hm hg hb
  have hn := EsR.newset (p' := (⟨.slice a4 (L.length + 1) c4, 87, 4, L.length + 1, L.flatMap colCells ++ colCells e⟩ : Pc)) h.new (i := 0) (by simp [esPs]) (Nat.le_trans h.bl.size hW.size) hb
  have hwb : ∀ k, (Value.slice a1 L.length c1).ownBlock = some k → ¬ WordB W k := fun k hk => mid_type (h.mid1.below hW fun k hk => (h.mid1.lt k hk).2) (by decide) k hk
  have e1 : (esPs a1 a2 a3 c1 c2 c3 L I V).set 0 (⟨.slice a4 (L.length + 1) c4, 87, 4, L.length + 1, L.flatMap colCells ++ colCells e⟩ : Pc) = esPs a4 a2 a3 c4 c2 c3 (L ++ [e]) I V := by simp [esPs]
  rw [e1] at hx hn
  refine ⟨hx, hn, fun x hx => ?_, h.bw hW hg h.new1⟩
  rcases List.mem_append.1 hx with hx | hx
  · exact h.old hW (⟨.slice a1 L.length c1, 87, 4, L.length, L.flatMap colCells⟩ : Pc) (by simp [esPs]) hg x hx
  · rw [List.mem_singleton.1 hx]
    exact ⟨he.keeps (Keeps.of_grown hg (S := fun k => (Value.slice a1 L.length c1).ownBlock = some k) fun b h => h) hwb, hes⟩
theorem EsR.push2 (h : EsR w0 w a1 a2 a3 c1 c2 c3 L I V) (hW : Below w.heap.size w W) (x : Int) (hm : Mid w4 0 3 1 (.slice a4 (I.length + 1) c4) (I.length + 1) (I.map IV ++ [IV x]))
    (hg : W.grownBy w4 (Value.slice a2 I.length c2).ownBlock) (hb : (Value.slice a4 (I.length + 1) c4).ownBlock = (Value.slice a2 I.length c2).ownBlock ∨ (Value.slice a4 (I.length + 1) c4).ownBlock = some W.heap.size) : EsR w0 w4 a1 a4 a3 c1 c4 c3 L (I ++ [x]) V := by
  have hx := h.own.grow 1 (by simp [esPs]) hW (⟨.slice a4 (I.length + 1) c4, 3, 1, I.length + 1, I.map IV ++ [IV x]⟩ : Pc) hm hg hb
  have hn := EsR.newset (p' := (⟨.slice a4 (I.length + 1) c4, 3, 1, I.length + 1, I.map IV ++ [IV x]⟩ : Pc)) h.new (i := 1) (by simp [esPs]) (Nat.le_trans h.bl.size hW.size) hb
  have e1 : (esPs a1 a2 a3 c1 c2 c3 L I V).set 1 (⟨.slice a4 (I.length + 1) c4, 3, 1, I.length + 1, I.map IV ++ [IV x]⟩ : Pc) = esPs a1 a4 a3 c1 c4 c3 L (I ++ [x]) V := by simp [esPs]
  rw [e1] at hx hn
  exact ⟨hx, hn, h.old hW (⟨.slice a2 I.length c2, 3, 1, I.length, I.map IV⟩ : Pc) (by simp [esPs]) hg, h.bw hW hg h.new2⟩
theorem EsR.push3 (h : EsR w0 w a1 a2 a3 c1 c2 c3 L I V) (hW : Below w.heap.size w W) (x : Int × Int) (hm : Mid w4 0 97 2 (.slice a4 (V.length + 1) c4) (V.length + 1) (V.flatMap vCells ++ vCells x))
    (hg : W.grownBy w4 (Value.slice a3 V.length c3).ownBlock) (hb : (Value.slice a4 (V.length + 1) c4).ownBlock = (Value.slice a3 V.length c3).ownBlock ∨ (Value.slice a4 (V.length + 1) c4).ownBlock = some W.heap.size) : EsR w0 w4 a1 a2 a4 c1 c2 c4 L I (V ++ [x]) := by
  have hx := h.own.grow 2 (by simp [esPs]) hW (⟨.slice a4 (V.length + 1) c4, 97, 2, V.length + 1, V.flatMap vCells ++ vCells x⟩ : Pc) hm hg hb
  have hn := EsR.newset (p' := (⟨.slice a4 (V.length + 1) c4, 97, 2, V.length + 1, V.flatMap vCells ++ vCells x⟩ : Pc)) h.new (i := 2) (by simp [esPs]) (Nat.le_trans h.bl.size hW.size) hb
  have e1 : (esPs a1 a2 a3 c1 c2 c3 L I V).set 2 (⟨.slice a4 (V.length + 1) c4, 97, 2, V.length + 1, V.flatMap vCells ++ vCells x⟩ : Pc) = esPs a1 a2 a4 c1 c2 c4 L I (V ++ [x]) := by simp [esPs]
  rw [e1] at hx hn
  exact ⟨hx, hn, h.old hW (⟨.slice a3 V.length c3, 97, 2, V.length, V.flatMap vCells⟩ : Pc) (by simp [esPs]) hg, h.bw hW hg h.new3⟩
end
def XS (xb vb : Nat) (x : XA) (v : Rv) (W : World) : Prop :=
  W.cell? ⟨xb, 1, none⟩ = some (.int .i64 x.row) ∧ W.cell? ⟨xb, 2, none⟩ = some (.int .i64 x.col) ∧ W.cell? ⟨xb, 3, none⟩ = some (.int .i64 x.kind) ∧ W.cell? ⟨xb, 4, none⟩ = some (.int .i64 x.v.1) ∧ W.cell? ⟨xb, 5, none⟩ = some (.int .i64 x.v.2) ∧ W.cell? ⟨vb, 0, none⟩ = some (.bool v.s) ∧ W.cell? ⟨vb, 1, none⟩ = some (.slice v.a v.l v.c) ∧ W.cell? ⟨vb, 2, none⟩ = some (.slice v.b v.m v.d)
theorem XS.keeps {w w' : World} {xb vb : Nat} {x : XA} {v : Rv} {S : Nat → Prop} (h : XS xb vb x v w) (hk : Keeps w w' S) (h1 : ¬ S xb) (h2 : ¬ S vb) : XS xb vb x v w' := by
  obtain ⟨c1, c2, c3, c4, c5, d0, d1, d2⟩ := h
  have hx := World.block_lt_of_cell? _ _ c1
  have hv := World.block_lt_of_cell? _ _ d0
  exact ⟨(hk.cell (a := ⟨xb, 1, none⟩) hx h1).trans c1, (hk.cell (a := ⟨xb, 2, none⟩) hx h1).trans c2, (hk.cell (a := ⟨xb, 3, none⟩) hx h1).trans c3, (hk.cell (a := ⟨xb, 4, none⟩) hx h1).trans c4, (hk.cell (a := ⟨xb, 5, none⟩) hx h1).trans c5, (hk.cell (a := ⟨vb, 0, none⟩) hv h2).trans d0, (hk.cell (a := ⟨vb, 1, none⟩) hv h2).trans d1, (hk.cell (a := ⟨vb, 2, none⟩) hv h2).trans d2⟩
theorem XS.below {w w' : World} {xb vb : Nat} {x : XA} {v : Rv} (h : XS xb vb x v w) (hb : Below w.heap.size w w') : XS xb vb x v w' := h.keeps (below_keeps (p := fun _ => False) hb) (fun h => h) fun h => h
end Go.Proofs.YtaehklhbokocbaaGreatDoor
namespace Go.Proofs.YtaehklhbokocbaaGreatDoor
open Go.RowKit Go.Extern.Stop Go.Stop Go.Extern
theorem Tryz.infoEnt : (Tryz.prog.info? 87).map (fun i => (i.zero, i.size, i.bytes)) = some (some (.agg #[.int .i64 0, .bool false, .slice none 0 0, .slice none 0 0]), 4, 64) := by kernel_rfl
def DoesR (w0 w : World) (sb : Nat) (G : Nat → Prop) (s : AS) (rb : Nat) (H : Nat → Prop) (m : RM) (x : XA) (e : Ending) (w' : World) : Prop :=
  ∃ b, e = .returned (.bool b) ∧ ((s.act x).1 = (m.act x).1 → b = true) ∧ CtxA w0 w sb G (s.act x).2 rb H (m.act x).2 w'
theorem XS.of {W : World} {xb vb : Nat} {x : XA} {v : Rv} (h : W.cell? ⟨xb, 1, none⟩ = some (.int .i64 x.row) ∧ W.cell? ⟨xb, 2, none⟩ = some (.int .i64 x.col) ∧ W.cell? ⟨xb, 3, none⟩ = some (.int .i64 x.kind) ∧ W.cell? ⟨xb, 4, none⟩ = some (.int .i64 x.v.1) ∧ W.cell? ⟨xb, 5, none⟩ = some (.int .i64 x.v.2) ∧ W.cell? ⟨vb, 0, none⟩ = some (.bool v.s) ∧ W.cell? ⟨vb, 1, none⟩ = some (.slice v.a v.l v.c) ∧ W.cell? ⟨vb, 2, none⟩ = some (.slice v.b v.m v.d)) : XS xb vb x v W := h
theorem XS.eta {W : World} {xb vb : Nat} {d row col kd p q : Int} {es : List (Int × Int × Int)} {v : Rv} (h : XS xb vb ⟨d, row, col, kd, (p, q), es⟩ v W) : W.cell? ⟨xb, 1, none⟩ = some (.int .i64 row) ∧ W.cell? ⟨xb, 2, none⟩ = some (.int .i64 col) ∧ W.cell? ⟨xb, 3, none⟩ = some (.int .i64 kd) ∧ W.cell? ⟨xb, 4, none⟩ = some (.int .i64 p) ∧ W.cell? ⟨xb, 5, none⟩ = some (.int .i64 q) ∧ W.cell? ⟨vb, 0, none⟩ = some (.bool v.s) ∧ W.cell? ⟨vb, 1, none⟩ = some (.slice v.a v.l v.c) ∧ W.cell? ⟨vb, 2, none⟩ = some (.slice v.b v.m v.d) := h
set_option maxRecDepth 100000 in
set_option maxHeartbeats 32000000 in
theorem does_any (w0 w : World) (sb rb : Nat) (G H : Nat → Prop) (s : AS) (m : RM) (x : XA) (ea : Option Addr) (ec : Nat) (hc : Ctx w0 w sb G s rb H m) (hw : WF s) (hm : RWf m) (hx : XOk x) (he : Sl w0 3 (.slice ea x.es.length ec) x.es.length (x.es.flatMap enCells)) (hg : Hg w0)
    (hel : x.es.length ≤ 1048576) (hcl : m.cells.length + x.es.length ≤ 1000000000000) (hl1 : s.lr ≤ 4611686018427387904) (hl2 : s.lc ≤ 4611686018427387904) (hl3 : m.lr ≤ 4611686018427387904) (hl4 : m.lc ≤ 4611686018427387904) :
    Calls Tryz.prog 12 #[.pointer (some ⟨sb, 0, none⟩), .pointer (some ⟨rb, 0, none⟩), actV x ea ec] w (DoesR w0 w sb G s rb H m x) := by
  obtain ⟨tE, hiE, hz0E, hz1E, hz2E⟩ := info_parts Tryz.infoEnt
  obtain ⟨tI, hiI, hz0I, hz1I, hz2I⟩ := info_parts Tryz.infoInt
  obtain ⟨tV, hiV, hz0V, hz1V, hz2V⟩ := info_parts Tryz.infoVal
  obtain ⟨d, row, col, kd, ⟨p, q⟩, es⟩ := x
  obtain ⟨_, _, _, hip, hiq, hies⟩ := id hx
  dsimp only at hip hiq hies he hel hcl
  unfold actV
  dsimp only
  have hlen := he.lenI
  have hbx := belowBox w (.cells #[.int .i64 d, .int .i64 row, .int .i64 col, .int .i64 kd, .int .i64 p, .int .i64 q, .slice ea es.length ec] 39)
  obtain ⟨w1, hw1⟩ : ∃ w1, w.alloc (.cells #[.int .i64 d, .int .i64 row, .int .i64 col, .int .i64 kd, .int .i64 p, .int .i64 q, .slice ea es.length ec] 39) = w1 := ⟨_, rfl⟩
  obtain ⟨xb, hxb⟩ : ∃ xb, w.heap.size = xb := ⟨_, rfl⟩
  have x0 : w1.cell? ⟨xb, 0, none⟩ = some (.int .i64 d) := by rw [← hw1, ← hxb]; simp
  have x1 : w1.cell? ⟨xb, 1, none⟩ = some (.int .i64 row) := by rw [← hw1, ← hxb]; simp
  have x2 : w1.cell? ⟨xb, 2, none⟩ = some (.int .i64 col) := by rw [← hw1, ← hxb]; simp
  have x3 : w1.cell? ⟨xb, 3, none⟩ = some (.int .i64 kd) := by rw [← hw1, ← hxb]; simp
  have x4 : w1.cell? ⟨xb, 4, none⟩ = some (.int .i64 p) := by rw [← hw1, ← hxb]; simp
  have x5 : w1.cell? ⟨xb, 5, none⟩ = some (.int .i64 q) := by rw [← hw1, ← hxb]; simp
  have x6 : w1.cell? ⟨xb, 6, none⟩ = some (.slice ea es.length ec) := by rw [← hw1, ← hxb]; simp
  have hx1l : w1.heap.size = xb + 1 := by rw [← hw1, ← hxb]; simp
  have hw0x : w0.heap.size ≤ xb := by rw [← hxb]; exact hc.bl.size
  rw [hw1] at hbx
  have HBX := Lib.hid hbx
  have HC0 := Lib.hid hc
  have HC1 := Lib.hid (hc.below hbx)
  have HEN := Lib.hid he
  have HW1 := Lib.hid hw1
  have HXB := Lib.hid hxb
  have HIES := Lib.hid hies
  have HX := Lib.hid hx
  have HG := Lib.hid hg
  have HWF := Lib.hid hw
  have HRW := Lib.hid hm
  have HCL := Lib.hid hcl
  have HLN := Lib.hid (show s.lr ≤ 4611686018427387904 ∧ s.lc ≤ 4611686018427387904 ∧ m.lr ≤ 4611686018427387904 ∧ m.lc ≤ 4611686018427387904 from ⟨hl1, hl2, hl3, hl4⟩)
  clear hc hw hm hx he hg hcl hl1 hl2 hl3 hl4 hies hbx hw1 hxb
  go_enter Tryz.func12, Tryz.ntmps12
  go_upto_region 1 with fail
  (try simp only [HW1.out, HXB.out])
  clear HW1
  go_wp2_with fail
  go_loopw [7, 8, 9, 10] (fun v7 v8 v9 iv wr => ∃ (k : Nat) (L : List Cl) (I : List Int) (V : List (Int × Int)) (a1 : Option Addr) (c1 : Nat) (a2 : Option Addr) (c2 : Nat) (a3 : Option Addr) (c3 : Nat), k ≤ es.length ∧ iv = .int .i64 k ∧ v7 = .slice a1 L.length c1 ∧ v8 = .slice a2 I.length c2 ∧ v9 = .slice a3 V.length c3 ∧ L.map Cl.ac = (es.take k).map eQ ∧ I = (es.take k).map (·.1) ∧ V = (es.take k).map (·.2) ∧ EsR w1 wr a1 a2 a3 c1 c2 c3 L I V) (fun _ _ _ iv _ => es.length - (intOf iv).toNat)
  case atStart => exact ⟨0, [], [], [], none, 0, none, 0, none, 0, Nat.zero_le _, rfl, rfl, rfl, rfl, rfl, rfl, rfl, EsR.nil w1⟩
  case round =>
    obtain ⟨k, L, I, V, a1, c1, a2, c2, a3, c3, hk, rfl, rfl, rfl, rfl, hL, hI, hV, hes⟩ := hrel
    have hbr := hes.bl
    have hLl : L.length ≤ 1048576 := by have := congrArg List.length hL; simp at this; omega
    have hIl : I.length ≤ 1048576 := by rw [hI]; simp; omega
    have hVl : V.length ≤ 1048576 := by rw [hV]; simp; omega
    have y6 := (hbr.cell (p := ⟨xb, 6, none⟩) (show xb < w1.heap.size by omega)).trans x6
    have HES := Lib.hid hes
    have HL := Lib.hid hL
    have HI := Lib.hid hI
    have HV := Lib.hid hV
    by_cases hlt : k < es.length
    · have hb0 : Below w0.heap.size w0 wr := HC1.out.bl.trans (hbr.mono HC1.out.bl.size)
      obtain ⟨b, o, e1, hbl0, y0, y1, y2⟩ := en_get (HEN.out.below (hb0.mono (Nat.le_refl _))) k hlt hlt
      obtain ⟨⟨xi, xp, xq⟩, hxe⟩ : ∃ x, es[k] = x := ⟨_, rfl⟩
      rw [hxe] at y0 y1 y2
      dsimp only at y0 y1 y2
      have hen : EnOk (xi, xp, xq) := by rw [← hxe]; exact HIES.out _ (List.getElem_mem hlt)
      have HXE := Lib.hid hxe
      have hblw : b < w0.heap.size := by
        obtain ⟨b9, o9, e9, h9, _⟩ := en_get HEN.out k hlt hlt
        rw [e1] at e9; cases e9; exact h9
      have hbl : b < wr.heap.size := hbl0
      have hxl : xb < wr.heap.size := by have := hbr.size; omega
      have HONE := Lib.hid (One_any xp xq wr.drew hen.2.1 hen.2.2)
      rw [e1] at y6
      have i0 : (0 : Int) ≤ (k : Int) := by omega
      have i1 : (k : Int) < (es.length : Int) := by omega
      clear hbr hes hL hI hV hxe hen hb0 e1 hbl0
      go_upto_region 7 with fail
      refine wp_region_held_drew (S := fun W => W.cell? ⟨xb, 6, none⟩ = some (.slice (some ⟨b, o, none⟩) es.length ec) ∧ W.cell? ⟨b, o + k * 3, none⟩ = some (.int .i64 xi) ∧ W.cell? ⟨b, o + k * 3 + 1, none⟩ = some (.int .i64 xp) ∧ W.cell? ⟨b, o + k * 3 + 2, none⟩ = some (.int .i64 xq)) (by kernel_rfl) (⟨y6, y0, y1, y2⟩) (fun hHeld => ?_)
      refine tk 0 (some 27) (v := ?_) rfl rfl ?_ ?_
      rotate_left
      · (intro w _; go_simp; (try with_reducible rfl))
      simp only [Act.put, stB, stZ, stS]
      refine tk 1 (some 28) (v := ?_) rfl rfl ?_ ?_
      rotate_left
      · (intro w _; go_simp; (try with_reducible rfl))
      simp only [Act.put, stB, stZ, stS]
      refine tk 2 (some 29) (v := ?_) rfl rfl ?_ ?_
      rotate_left
      · (intro w hSw; (try dsimp only at hSw); ((try obtain ⟨hSw6, hSw0, hSw1, hSw2⟩ := hSw); go_simp); (try with_reducible rfl))
      simp only [Act.put, stB, stZ, stS]
      refine tk 3 (some 30) (v := ?_) rfl rfl ?_ ?_
      rotate_left
      · (intro w _; go_simp; (try with_reducible rfl))
      simp only [Act.put, stB, stZ, stS]
      refine tk 4 (some 31) (v := ?_) rfl rfl ?_ ?_
      rotate_left
      · (intro w hSw; (try dsimp only at hSw); ((try obtain ⟨hSw6, hSw0, hSw1, hSw2⟩ := hSw); go_simp); (try with_reducible rfl))
      simp only [Act.put, stB, stZ, stS]
      refine tk 5 (some 32) (v := ?_) rfl rfl ?_ ?_
      rotate_left
      · (intro w _; go_simp; (try with_reducible rfl))
      simp only [Act.put, stB, stZ, stS]
      refine tk 6 (some 33) (v := ?_) rfl rfl ?_ ?_
      rotate_left
      · (intro w hSw; (try dsimp only at hSw); ((try obtain ⟨hSw6, hSw0, hSw1, hSw2⟩ := hSw); go_simp); (try with_reducible rfl))
      simp only [Act.put, stB, stZ, stS]
      refine tk 7 (some 34) (v := ?_) rfl rfl ?_ ?_
      rotate_left
      · (intro w _; go_simp; (try with_reducible rfl))
      simp only [Act.put, stB, stZ, stS]
      refine tk 8 (some 35) (v := ?_) rfl rfl ?_ ?_
      rotate_left
      · (intro w hSw; (try dsimp only at hSw); ((try obtain ⟨hSw6, hSw0, hSw1, hSw2⟩ := hSw); go_simp); (try with_reducible rfl))
      simp only [Act.put, stB, stZ, stS]
      refine tk 9 (some 36) (v := ?_) rfl rfl ?_ ?_
      rotate_left
      · (intro w _; go_simp; (try with_reducible rfl))
      simp only [Act.put, stB, stZ, stS]
      refine tk 10 (some 37) (v := ?_) rfl rfl ?_ ?_
      rotate_left
      · (intro w hSw; (try dsimp only at hSw); ((try obtain ⟨hSw6, hSw0, hSw1, hSw2⟩ := hSw); go_simp); (try with_reducible rfl))
      simp only [Act.put, stB, stZ, stS]
      refine tk 11 (some 38) (v := ?_) rfl rfl ?_ ?_
      rotate_left
      · (intro w _; go_simp; (try with_reducible rfl))
      simp only [Act.put, stB, stZ, stS]
      refine tk 12 (some 39) (v := ?_) rfl rfl ?_ ?_
      rotate_left
      · (intro w hSw; (try dsimp only at hSw); ((try obtain ⟨hSw6, hSw0, hSw1, hSw2⟩ := hSw); go_simp); (try with_reducible rfl))
      simp only [Act.put, stB, stZ, stS]
      refine wpAnyH_ready (rs := [13]) (by kernel_rfl) (by simp) ?_
      refine (AllReadyH.cons rfl (fun K hK => ?_) AllReadyH.nil)
      go_simp
      refine HONE.out.mono ?_
      rintro e w2 ⟨v, rfl, ho, hsm, hqq, hb2⟩
      unfold Rv.val
      have hbd : Below wr.heap.size wr w2 := bthen (Below.drawn wr 1) hb2
      have u6 := (hbd.cell (p := ⟨xb, 6, none⟩) hxl).trans y6
      have u0 := (hbd.cell (p := ⟨b, o + k * 3, none⟩) hbl).trans y0
      have u1 := (hbd.cell (p := ⟨b, o + k * 3 + 1, none⟩) hbl).trans y1
      have u2 := (hbd.cell (p := ⟨b, o + k * 3 + 2, none⟩) hbl).trans y2
      have HES2 := Lib.hid (HES.out.below hbd)
      have HM2 := Lib.hid (show Mid (w2.alloc (.cells #[.int .i64 xi, .bool v.s, .slice v.a v.l v.c, .slice v.b v.m v.d] 87)) 0 87 4 (.slice a1 L.length c1) L.length (L.flatMap colCells) from HES2.out.mid1.alloc _)
      have HS2 := Lib.hid (show Src Tryz.prog 4 94 (.slice (some ⟨w2.heap.size, 0, none⟩) 1 1) 1 [.int .i64 xi, .bool v.s, .slice v.a v.l v.c, .slice v.b v.m v.d] (w2.alloc (.cells #[.int .i64 xi, .bool v.s, .slice v.a v.l v.c, .slice v.b v.m v.d] 87)) from (show Sl (w2.alloc (.cells #[.int .i64 xi, .bool v.s, .slice v.a v.l v.c, .slice v.b v.m v.d] 87)) 4 _ 1 _ from Sl.lit w2 87 4 1 [.int .i64 xi, .bool v.s, .slice v.a v.l v.c, .slice v.b v.m v.d] (by unfold maxLen; omega) rfl).src (P := Tryz.prog) Tryz.underlying94 (fun u hu => by
        simp only [List.mem_cons, List.not_mem_nil, or_false] at hu
        rcases hu with rfl | rfl | rfl | rfl <;> rfl))
      have HO := Lib.hid ho
      have HSM := Lib.hid hsm
      have HQQ := Lib.hid hqq
      have HZ2 := Lib.hid hbd.size
      clear ho hsm hqq hbd hb2
      refine hK.out _ _ (⟨u6, u0, u1, u2⟩) (fun hHeld2 => ?_)
      clear hK K hHeld
      rename _ => hHeld
      try simp only [Act.put, stB, stZ, stS]
      refine tk 14 (some 41) (v := ?_) rfl rfl ?_ ?_
      rotate_left
      · (intro w _; go_simp; (try with_reducible rfl))
      simp only [Act.put, stB, stZ, stS]
      refine wpAnyH_ready (rs := [15]) (by kernel_rfl) (by simp) ?_
      refine (AllReadyH.cons rfl (fun K hK => ?_) AllReadyH.nil)
      go_simp
      refine hK.out _ _ (⟨(World.cell?_alloc_lt _ _ ⟨xb, 6, none⟩ (World.block_lt_of_cell? _ _ u6)).trans u6, (World.cell?_alloc_lt _ _ ⟨b, o + k * 3, none⟩ (World.block_lt_of_cell? _ _ u0)).trans u0, (World.cell?_alloc_lt _ _ ⟨b, o + k * 3 + 1, none⟩ (World.block_lt_of_cell? _ _ u1)).trans u1, (World.cell?_alloc_lt _ _ ⟨b, o + k * 3 + 2, none⟩ (World.block_lt_of_cell? _ _ u2)).trans u2⟩) (fun hHeld2 => ?_)
      clear hK K hHeld
      rename _ => hHeld
      try simp only [Act.put, stB, stZ, stS]
      refine wpAnyH_ready (rs := [16]) (by kernel_rfl) (by simp) ?_
      refine (AllReadyH.cons rfl (fun K hK => ?_) AllReadyH.nil)
      refine step_append_mid (v := .slice a1 L.length c1) (by rfl) _ _ 94 94 (by rfl) tE (.agg #[.int .i64 0, .bool false, .slice none 0 0, .slice none 0 0]) 64 Tryz.underlying94 hiE hz0E hz1E hz2E rfl (by rfl) HM2.out _ (by rfl) 1 _ HS2.out (by unfold maxLen; omega) (by omega) (Nat.zero_le _) ?_
      intro a4 c4 w4 hmo hgo hbo
      have hk4 := grownB (belowBox w2 (.cells #[.int .i64 xi, .bool v.s, .slice v.a v.l v.c, .slice v.b v.m v.d] 87)) hgo
      have HN4 := Lib.hid (fun k hk => HES2.out.new1 k hk)
      have HZ4 := Lib.hid hk4.size
      have r6 := (hk4.cell (a := ⟨xb, 6, none⟩) (World.block_lt_of_cell? _ _ u6) (fun e => by have h9 : w1.heap.size ≤ xb := HN4.out _ e; omega)).trans u6
      have r0 := (hk4.cell (a := ⟨b, o + k * 3, none⟩) (World.block_lt_of_cell? _ _ u0) (fun e => by have h9 : w1.heap.size ≤ b := HN4.out _ e; omega)).trans u0
      have r1 := (hk4.cell (a := ⟨b, o + k * 3 + 1, none⟩) (World.block_lt_of_cell? _ _ u1) (fun e => by have h9 : w1.heap.size ≤ b := HN4.out _ e; omega)).trans u1
      have r2 := (hk4.cell (a := ⟨b, o + k * 3 + 2, none⟩) (World.block_lt_of_cell? _ _ u2) (fun e => by have h9 : w1.heap.size ≤ b := HN4.out _ e; omega)).trans u2
      have HES4 := Lib.hid (HES2.out.push1 (belowBox w2 (.cells #[.int .i64 xi, .bool v.s, .slice v.a v.l v.c, .slice v.b v.m v.d] 87)) ⟨xi, v⟩ (HO.out.below (belowBox w2 (.cells #[.int .i64 xi, .bool v.s, .slice v.a v.l v.c, .slice v.b v.m v.d] 87))) HSM.out hmo hgo hbo)
      clear hmo hgo hbo hk4
      simp only [List.getElem_toArray, List.getElem_cons_succ, List.getElem_cons_zero, Act.put, List.setIfInBounds_toArray, List.set_cons_zero, List.set_cons_succ]
      refine hK.out _ _ (⟨r6, r0, r1, r2⟩) (fun hHeld2 => ?_)
      clear hK K hHeld
      rename _ => hHeld
      try simp only [Act.put, stB, stZ, stS]
      refine tk 17 (some 7) (v := ?_) rfl rfl ?_ ?_
      rotate_left
      · (intro w _; go_simp; (try with_reducible rfl))
      simp only [Act.put, stB, stZ, stS]
      refine wpAnyH_done (by kernel_rfl) ?_ _
      (try simp only [Exit.inBlock, Exit.then])
      clear hHeld y6 y0 y1 y2 u6 u0 u1 u2
      have HM8 := Lib.hid (show Mid (w4.alloc (.cells #[.int .i64 xi] 3)) 0 3 1 (.slice a2 I.length c2) I.length (I.map IV) from HES4.out.mid2.alloc _)
      have HS8 := Lib.hid (show Src Tryz.prog 1 27 (.slice (some ⟨w4.heap.size, 0, none⟩) 1 1) 1 [.int .i64 xi] (w4.alloc (.cells #[.int .i64 xi] 3)) from (show Sl (w4.alloc (.cells #[.int .i64 xi] 3)) 1 _ 1 _ from Sl.lit w4 3 1 1 [.int .i64 xi] (by unfold maxLen; omega) rfl).src (P := Tryz.prog) Tryz.underlying27 (fun u hu => by
        simp only [List.mem_cons, List.not_mem_nil, or_false] at hu
        rcases hu with rfl; rfl))
      have HN := Lib.hid (fun k hk => HES4.out.new2 k hk)
      go_upto_region 9 with (at_builtin; refine wpList_append_mid (v := .slice a2 I.length c2) rfl _ _ 27 27 rfl tI (.int .i64 0) 8 Tryz.underlying27 hiI hz0I hz1I hz2I rfl rfl HM8.out _ rfl 1 _ HS8.out (by unfold maxLen; omega) (by omega) (Nat.zero_le _) ?_; intro a5 c5 w5 hmo hgo hbo; have hk5 := grownB (belowBox w4 (.cells #[.int .i64 xi] 3)) hgo; have t6 := (hk5.cell (a := ⟨xb, 6, none⟩) (World.block_lt_of_cell? _ _ r6) (fun e => by have h9 : w1.heap.size ≤ xb := HN.out _ e; omega)).trans r6; have t0 := (hk5.cell (a := ⟨b, o + k * 3, none⟩) (World.block_lt_of_cell? _ _ r0) (fun e => by have h9 : w1.heap.size ≤ b := HN.out _ e; omega)).trans r0; have t1 := (hk5.cell (a := ⟨b, o + k * 3 + 1, none⟩) (World.block_lt_of_cell? _ _ r1) (fun e => by have h9 : w1.heap.size ≤ b := HN.out _ e; omega)).trans r1; have t2 := (hk5.cell (a := ⟨b, o + k * 3 + 2, none⟩) (World.block_lt_of_cell? _ _ r2) (fun e => by have h9 : w1.heap.size ≤ b := HN.out _ e; omega)).trans r2; have HES5 := Lib.hid (HES4.out.push2 (belowBox w4 (.cells #[.int .i64 xi] 3)) xi hmo hgo hbo); have HZ5 := Lib.hid hk5.size; clear hmo hgo hbo hk5)
      clear r6 r0 r1 r2 HM8 HS8 HN
      have HVA := Lib.hid (value_any xp xq w5)
      go_wp2_with fail
      refine HVA.out.mono ?_
      rintro e w6 ⟨rfl, hb6⟩
      have HES6 := Lib.hid (HES5.out.below hb6)
      have HM9 := Lib.hid (show Mid (w6.alloc (.cells #[.int .i64 xp, .int .i64 xq] 97)) 0 97 2 (.slice a3 V.length c3) V.length (V.flatMap vCells) from HES6.out.mid3.alloc _)
      have HS9 := Lib.hid (show Src Tryz.prog 2 29 (.slice (some ⟨w6.heap.size, 0, none⟩) 1 1) 1 [.int .i64 xp, .int .i64 xq] (w6.alloc (.cells #[.int .i64 xp, .int .i64 xq] 97)) from (show Sl (w6.alloc (.cells #[.int .i64 xp, .int .i64 xq] 97)) 2 _ 1 _ from Sl.lit w6 97 2 1 [.int .i64 xp, .int .i64 xq] (by unfold maxLen; omega) rfl).src (P := Tryz.prog) Tryz.underlying29 (fun u hu => by
        simp only [List.mem_cons, List.not_mem_nil, or_false] at hu
        rcases hu with rfl | rfl <;> rfl))
      clear hb6 t6 t0 t1 t2 HVA
      go_wp2_with (at_builtin; refine wpList_append_mid (v := .slice a3 V.length c3) rfl _ _ 29 29 rfl tV (.agg #[.int .i64 0, .int .i64 0]) 16 Tryz.underlying29 hiV hz0V hz1V hz2V rfl rfl HM9.out _ rfl 1 _ HS9.out (by unfold maxLen; omega) (by omega) (Nat.zero_le _) ?_; intro a7 c7 w7 hmo hgo hbo; have HES7 := Lib.hid (HES6.out.push3 (belowBox w6 (.cells #[.int .i64 xp, .int .i64 xq] 97)) (xp, xq) hmo hgo hbo); clear hmo hgo hbo)
      go_roundw
      case rel =>
        refine ⟨k + 1, L ++ [⟨xi, v⟩], I ++ [xi], V ++ [(xp, xq)], a4, c4, a5, c5, a7, c7, by omega, by go_num, by rw [List.length_append]; rfl, by rw [List.length_append]; rfl, by rw [List.length_append]; rfl, ?_, ?_, ?_, HES7.out⟩
        · rw [List.take_succ_eq_append_getElem hlt, List.map_append, List.map_append, HL.out, HXE.out]
          show _ ++ [(⟨xi, v.q⟩ : AC)] = _ ++ [(⟨xi, fracQ (xp, xq)⟩ : AC)]
          rw [HQQ.out]
        · rw [List.take_succ_eq_append_getElem hlt, List.map_append, HI.out, HXE.out]; rfl
        · rw [List.take_succ_eq_append_getElem hlt, List.map_append, HV.out, HXE.out]; rfl
      case measure => simp [intOf]; omega
    · obtain rfl : k = es.length := by omega
      rw [List.take_length] at hL hI hV
      replace HL := Lib.hid hL
      replace HI := Lib.hid hI
      replace HV := Lib.hid hV
      have y0 := (hbr.cell (p := ⟨xb, 0, none⟩) (show xb < w1.heap.size by omega)).trans x0
      have y1 := (hbr.cell (p := ⟨xb, 1, none⟩) (show xb < w1.heap.size by omega)).trans x1
      have y2 := (hbr.cell (p := ⟨xb, 2, none⟩) (show xb < w1.heap.size by omega)).trans x2
      have y3 := (hbr.cell (p := ⟨xb, 3, none⟩) (show xb < w1.heap.size by omega)).trans x3
      have y4 := (hbr.cell (p := ⟨xb, 4, none⟩) (show xb < w1.heap.size by omega)).trans x4
      have y5 := (hbr.cell (p := ⟨xb, 5, none⟩) (show xb < w1.heap.size by omega)).trans x5
      clear hbr hes hL hI hV x0 x1 x2 x3 x4 x5 x6
      have hVl : V.length = es.length := by rw [HV.out]; simp
      have hIl : I.length = es.length := by rw [HI.out]; simp
      have HONE2 := Lib.hid (One_any p q wr hip hiq)
      have HLI := Lib.hid hIl
      have HLV := Lib.hid hVl
      simp only [hIl, hVl]
      clear hIl hVl
      go_wp2_with fail
      refine HONE2.out.mono ?_
      rintro e w2 ⟨v, rfl, ho, hsm, hqq, hb2⟩
      unfold Rv.val
      have hbx2 := bthen hb2 (belowBox w2 (.cells #[.bool v.s, .slice v.a v.l v.c, .slice v.b v.m v.d] 51))
      have hlr := HES.out.bl.size
      obtain ⟨wb, hwb⟩ : ∃ wb, w2.alloc (.cells #[.bool v.s, .slice v.a v.l v.c, .slice v.b v.m v.d] 51) = wb := ⟨_, rfl⟩
      obtain ⟨vb, hvb⟩ : ∃ vb, w2.heap.size = vb := ⟨_, rfl⟩
      have hvx : xb < vb := by have := hb2.size; omega
      have g0 : wb.cell? ⟨vb, 0, none⟩ = some (.bool v.s) := by rw [← hwb, ← hvb]; simp
      have g1 : wb.cell? ⟨vb, 1, none⟩ = some (.slice v.a v.l v.c) := by rw [← hwb, ← hvb]; simp
      have g2 : wb.cell? ⟨vb, 2, none⟩ = some (.slice v.b v.m v.d) := by rw [← hwb, ← hvb]; simp
      rw [hwb] at hbx2
      have z0 := (hbx2.cell (p := ⟨xb, 0, none⟩) (show xb < wr.heap.size by omega)).trans y0
      have z1 := (hbx2.cell (p := ⟨xb, 1, none⟩) (show xb < wr.heap.size by omega)).trans y1
      have z2 := (hbx2.cell (p := ⟨xb, 2, none⟩) (show xb < wr.heap.size by omega)).trans y2
      have z3 := (hbx2.cell (p := ⟨xb, 3, none⟩) (show xb < wr.heap.size by omega)).trans y3
      have z4 := (hbx2.cell (p := ⟨xb, 4, none⟩) (show xb < wr.heap.size by omega)).trans y4
      have z5 := (hbx2.cell (p := ⟨xb, 5, none⟩) (show xb < wr.heap.size by omega)).trans y5
      have hes := HES.out.below hbx2
      have hc := HC1.out.below hes.bl
      have HXS := Lib.hid (show XS xb vb ⟨d, row, col, kd, (p, q), es⟩ v wb from ⟨z1, z2, z3, z4, z5, g0, g1, g2⟩)
      have HC := Lib.hid hc
      have HBB0 := Lib.hid (HBX.out.trans (hes.bl.mono HBX.out.size))
      replace HES := Lib.hid hes
      have HO := Lib.hid ((ho.below (belowBox w2 (.cells #[.bool v.s, .slice v.a v.l v.c, .slice v.b v.m v.d] 51))))
      rw [hwb] at HO
      have HSM := Lib.hid hsm
      have HVQ := Lib.hid hqq
      have hxg : ∀ k, (G k ∨ H k) → k < xb := fun k hk => by
        have hxb := HXB.out
        rcases hk with h | h
        · have := HC0.out.sa.lt k h; omega
        · have := HC0.out.rb.lt k h; omega
      have HNX := Lib.hid (show ¬ (G xb ∨ H xb) from fun h => by have := hxg xb h; omega)
      have HNV := Lib.hid (show ¬ (G vb ∨ H vb) from fun h => by have := hxg vb h; omega)
      have HWB := Lib.hid hwb
      have HVB := Lib.hid hvb
      have HLT := Lib.hid hxg
      have HXL := Lib.hid (show xb < wb.heap.size ∧ vb < wb.heap.size by rw [← hwb]; simp; omega)
      clear y0 y1 y2 y3 y4 y5 ho hsm hqq hb2 hbx2 hlr hes hc hwb hvb HONE2 hxg
      go_upto_region 11 with fail
      (try simp only [HWB.out, HVB.out])
      clear HWB HVB
      by_cases hd1 : d = 1
      · subst hd1
        obtain ⟨⟨⟨n, f⟩, s1⟩, hs1⟩ : ∃ r, s.addRow kd v.q (L.map Cl.ac) = r := ⟨_, rfl⟩
        obtain ⟨⟨⟨n2, g⟩, m1⟩, hm1⟩ : ∃ r, m.addRow kd (p, q) es = r := ⟨_, rfl⟩
        have HAC := Lib.hid (show s.act ⟨1, row, col, kd, (p, q), es⟩ = ((n, f), s1) by unfold AS.act; rw [if_pos rfl]; dsimp only; rw [← HVQ.out, ← HL.out]; exact hs1)
        have HACR := Lib.hid (show m.act ⟨1, row, col, kd, (p, q), es⟩ = ((n2, g), m1) by unfold RM.act; rw [if_pos rfl]; dsimp only; rw [hm1])
        have hsa := as_addRow HC.out.sa HWF.out kd v L a1 c1 (Sl.ofMid HES.out.mid1) HO.out HSM.out (fun e he => HES.out.ok e he) HLN.out.1
        rw [hs1] at hsa
        have HSA := Lib.hid hsa
        have HM1 := Lib.hid hm1
        clear hsa hs1 hm1
        go_wp2_with fail
        refine HSA.out.mono ?_
        rintro e w3 ⟨ev, rfl, he3, ha3⟩
        obtain ⟨G3, hc3, hg3, hk3⟩ := HC.out.left1 ha3
        have HX3 := Lib.hid (HXS.out.keeps hk3 (fun h => HNX.out (.inl h)) fun h => HNV.out (.inl h))
        have HE3 := Lib.hid (show ErrV w3 wb.heap.size f ev from he3)
        have hgl : ∀ k, w1.heap.size ≤ k → ¬ G k := fun k hk hG => by have := HLT.out k (.inl hG); omega
        have hhl : ∀ k, w1.heap.size ≤ k → ¬ H k := fun k hk hG => by have := HLT.out k (.inr hG); omega
        have HMI := Lib.hid (show Mid w3 0 3 1 (.slice a2 es.length c2) es.length ((es.map (·.1)).map IV) by
          have h := HES.out.mid2.keeps hk3 fun k hk => hgl k (HES.out.new2 k hk)
          rw [HLI.out] at h
          rw [HI.out] at h
          exact h)
        have HMV := Lib.hid (show Mid w3 0 97 2 (.slice a3 es.length c3) es.length ((es.map (·.2)).flatMap vCells) by
          have h := HES.out.mid3.keeps hk3 fun k hk => hgl k (HES.out.new3 k hk)
          rw [HLV.out] at h
          rw [HV.out] at h
          exact h)
        have HDI := Lib.hid (show ∀ k, (Value.slice a2 es.length c2).ownBlock = some k → ¬ H k from fun k hk => hhl k (HES.out.new2 k (by rw [HLI.out]; exact hk)))
        have HDV := Lib.hid (show ∀ k, (Value.slice a3 es.length c3).ownBlock = some k → ¬ H k from fun k hk => hhl k (HES.out.new3 k (by rw [HLV.out]; exact hk)))
        have HC3 := Lib.hid hc3
        have HG3 := Lib.hid (show ∀ k, G3 k → G k ∨ wb.heap.size ≤ k from hg3)
        have HK3 := Lib.hid (show Keeps wb w3 (fun k => G k ∨ H k) from hk3.mono fun _ _ h => .inl h)
        have HHB := Lib.hid (show ∀ k, wb.heap.size ≤ k → ¬ H k from fun k hk hH => by have := HC.out.rb.lt k hH; omega)
        clear ha3 he3 hc3 hg3 hk3 hgl hhl HSA
        dsimp only
        have HB := Lib.hid (Below.drawn w3 1)
        clear z0 z1 z2 z3 z4 z5 g0 g1 g2
        go_upto_region 14 with fail
        refine wp_region_held_drew (S := fun W => W.cell? ⟨xb, 1, none⟩ = some (.int .i64 row) ∧ W.cell? ⟨xb, 2, none⟩ = some (.int .i64 col) ∧ W.cell? ⟨xb, 3, none⟩ = some (.int .i64 kd) ∧ W.cell? ⟨xb, 4, none⟩ = some (.int .i64 p) ∧ W.cell? ⟨xb, 5, none⟩ = some (.int .i64 q) ∧ W.cell? ⟨vb, 0, none⟩ = some (.bool v.s) ∧ W.cell? ⟨vb, 1, none⟩ = some (.slice v.a v.l v.c) ∧ W.cell? ⟨vb, 2, none⟩ = some (.slice v.b v.m v.d)) (by kernel_rfl) (HX3.out) (fun hHeld => ?_)
        refine tk 0 (some 80) (v := ?_) rfl rfl ?_ ?_
        rotate_left
        · (intro w _; go_simp; (try with_reducible rfl))
        simp only [Act.put, stB, stZ, stS]
        refine tk 1 (some 81) (v := ?_) rfl rfl ?_ ?_
        rotate_left
        · (intro w _; go_simp; (try with_reducible rfl))
        simp only [Act.put, stB, stZ, stS]
        refine tk 2 (some 82) (v := ?_) rfl rfl ?_ ?_
        rotate_left
        · (intro w hSw; (try dsimp only at hSw); ((try obtain ⟨hS1, hS2, hS3, hS4, hS5, hS6, hS7, hS8⟩ := hSw); go_simp); (try with_reducible rfl))
        simp only [Act.put, stB, stZ, stS]
        refine tk 3 (some 83) (v := ?_) rfl rfl ?_ ?_
        rotate_left
        · (intro w _; go_simp; (try with_reducible rfl))
        simp only [Act.put, stB, stZ, stS]
        refine tk 4 (some 84) (v := ?_) rfl rfl ?_ ?_
        rotate_left
        · (intro w hSw; (try dsimp only at hSw); ((try obtain ⟨hS1, hS2, hS3, hS4, hS5, hS6, hS7, hS8⟩ := hSw); go_simp); (try with_reducible rfl))
        simp only [Act.put, stB, stZ, stS]
        refine tk 6 (some 86) (v := ?_) rfl rfl ?_ ?_
        rotate_left
        · (intro w _; go_simp; (try with_reducible rfl))
        simp only [Act.put, stB, stZ, stS]
        refine tk 7 (some 87) (v := ?_) rfl rfl ?_ ?_
        rotate_left
        · (intro w _; go_simp; (try with_reducible rfl))
        simp only [Act.put, stB, stZ, stS]
        refine wpAnyH_ready (rs := [5, 12]) (by kernel_rfl) (by simp) ?_
        refine (AllReadyH.cons rfl (fun K hK => ?_) (AllReadyH.cons rfl (fun K hK => ?_) AllReadyH.nil))
        · skip
          go_simp
          refine (value_any p q w3.drew).mono ?_
          rintro e w4 ⟨rfl, hb4⟩
          have HX4 := Lib.hid ((XS.of (x := ⟨1, row, col, kd, (p, q), es⟩) (v := v) hHeld).below hb4)
          replace HB := Lib.hid (HB.out.trans (hb4.mono HB.out.size))
          clear hb4
          refine hK.out _ _ (HX4.out) (fun hHeld2 => ?_)
          clear hK K hHeld
          rename _ => hHeld
          try simp only [Act.put, stB, stZ, stS]
          refine wpAnyH_ready (rs := [8, 12]) (by kernel_rfl) (by simp) ?_
          refine (AllReadyH.cons rfl (fun K hK => ?_) (AllReadyH.cons rfl (fun K hK => ?_) AllReadyH.nil))
          · skip
            go_simp
            have hra := r_addRow rb H m kd (p, q) es a2 a3 c2 c3 w4 (HC3.out.rb.below HB.out) HRW.out HCL.out HLN.out.2.2.1 (mid_under HMI.out HB.out) (mid_under HMV.out HB.out) HDI.out HDV.out
            rw [HM1.out] at hra
            refine hra.mono ?_
            rintro e w5 ⟨rfl, ha5⟩
            obtain ⟨H5, hrb5, hh5, hk5⟩ := ha5
            have HRB5 := Lib.hid hrb5
            have HK5 := Lib.hid (show Keeps w3 w5 (fun k => H k ∨ w3.heap.size ≤ k) from (below_keeps (p := fun k => H k ∨ w3.heap.size ≤ k) HB.out).trans (hk5.mono fun _ _ h => .inl h) fun _ _ h => h)
            have HH5 := Lib.hid (show ∀ k, H5 k → H k ∨ w3.heap.size ≤ k from fun k hk => (hh5 k hk).imp id fun h => Nat.le_trans HB.out.size h)
            have HX5 := Lib.hid ((XS.of (x := ⟨1, row, col, kd, (p, q), es⟩) (v := v) hHeld).keeps hk5 (fun h => HNX.out (.inr h)) fun h => HNV.out (.inr h))
            clear hra hrb5 hh5 hk5
            dsimp only
            refine hK.out _ _ (HX5.out) (fun hHeld2 => ?_)
            clear hK K hHeld
            rename _ => hHeld
            try simp only [Act.put, stB, stZ, stS]
            refine tk 9 (some 79) (v := ?_) rfl rfl ?_ ?_
            rotate_left
            · (intro w _; go_simp; (try with_reducible rfl))
            simp only [Act.put, stB, stZ, stS]
            refine tk 10 (some 89) (v := ?_) rfl rfl ?_ ?_
            rotate_left
            · (intro w _; go_simp; (try with_reducible rfl))
            simp only [Act.put, stB, stZ, stS]
            refine tk 11 (some 90) (v := ?_) rfl rfl ?_ ?_
            rotate_left
            · (intro w _; go_simp; (try with_reducible rfl))
            simp only [Act.put, stB, stZ, stS]
            refine wpAnyH_ready (rs := [12]) (by kernel_rfl) (by simp) ?_
            refine (AllReadyH.cons rfl (fun K hK => ?_) AllReadyH.nil)
            go_simp
            obtain ⟨fb, hfb⟩ : ∃ fb, w5.heap.size = fb := ⟨_, rfl⟩
            have Z0 : (w5.alloc (.cells #[.int .i64 0, .string ⟨#[]⟩, .int .i64 0] 100)).cell? ⟨fb, 0, none⟩ = some (.int .i64 0) := by rw [← hfb]; exact (box3 w5 (.int .i64 0) (.string ⟨#[]⟩) (.int .i64 0) 100).1
            have Z1 : (w5.alloc (.cells #[.int .i64 0, .string ⟨#[]⟩, .int .i64 0] 100)).cell? ⟨fb, 1, none⟩ = some (.string ⟨#[]⟩) := by rw [← hfb]; exact (box3 w5 (.int .i64 0) (.string ⟨#[]⟩) (.int .i64 0) 100).2.1
            have Z2 : (w5.alloc (.cells #[.int .i64 0, .string ⟨#[]⟩, .int .i64 0] 100)).cell? ⟨fb, 2, none⟩ = some (.int .i64 0) := by rw [← hfb]; exact (box3 w5 (.int .i64 0) (.string ⟨#[]⟩) (.int .i64 0) 100).2.2.1
            have ZF : ∀ j, (w5.alloc (.cells #[.int .i64 0, .string ⟨#[]⟩, .int .i64 0] 100)).frozen? ⟨fb, j, none⟩ = false := by intro j; rw [← hfb]; exact (box3 w5 (.int .i64 0) (.string ⟨#[]⟩) (.int .i64 0) 100).2.2.2 j
            have HFL := Lib.hid (show fb < (w5.alloc (.cells #[.int .i64 0, .string ⟨#[]⟩, .int .i64 0] 100)).heap.size by rw [← hfb]; simp)
            have HX4 := Lib.hid ((XS.of (x := ⟨1, row, col, kd, (p, q), es⟩) (v := v) hHeld).below (belowBox _ (.cells #[.int .i64 0, .string ⟨#[]⟩, .int .i64 0] 100)))
            have HFG := Lib.hid (show w3.heap.size ≤ fb by rw [← hfb]; exact HK5.out.size)
            have HFN := Lib.hid (show ¬ H5 fb from fun h => by have := HRB5.out.lt _ h; omega)
            replace HRB5 := Lib.hid (HRB5.out.below (belowBox w5 (.cells #[.int .i64 0, .string ⟨#[]⟩, .int .i64 0] 100)))
            replace HK5 := Lib.hid (HK5.out.trans (below_keeps (p := fun k => H k ∨ w3.heap.size ≤ k) (belowBox w5 (.cells #[.int .i64 0, .string ⟨#[]⟩, .int .i64 0] 100))) fun _ _ h => h)
            simp only [hfb]
            clear hfb
            refine hK.out _ _ (HX4.out) (fun hHeld2 => ?_)
            clear hK K hHeld
            rename _ => hHeld
            try simp only [Act.put, stB, stZ, stS]
            refine tk 13 (some 14) (v := ?_) rfl rfl ?_ ?_
            rotate_left
            · (intro w _; go_simp; (try with_reducible rfl))
            simp only [Act.put, stB, stZ, stS]
            refine wpAnyH_ready (rs := [14]) (by kernel_rfl) (by simp) ?_
            refine (AllReadyH.cons rfl (fun K hK => ?_) AllReadyH.nil)
            have ZF0 := ZF 0
            have ZF1 := ZF 1
            have ZF2 := ZF 2
            go_simp
            have HX6 := Lib.hid ((XS.of (x := ⟨1, row, col, kd, (p, q), es⟩) (v := v) hHeld).keeps (set3k _ fb (.int .i64 g.1) (.string g.2.1) (.int .i64 g.2.2)) (fun h => by have := HFG.out; have := HK3.out.size; have := HXL.out; omega) fun h => by have := HFG.out; have := HK3.out.size; have := HXL.out; omega)
            refine hK.out _ _ (HX6.out) (fun hHeld2 => ?_)
            clear hK K hHeld
            rename _ => hHeld
            try simp only [Act.put, stB, stZ, stS]
            refine wpAnyH_done (by kernel_rfl) ?_ _
            (try simp only [Exit.inBlock, Exit.then])
            clear hHeld
            by_cases hn : n = n2
            · subst hn
              go_wp2_with fail
              have hkf := HK5.out.trans ((set3k _ fb (.int .i64 g.1) (.string g.2.1) (.int .i64 g.2.2)).mono fun k _ h => .inr (by rw [h]; exact HFG.out)) fun _ _ h => h
              have hcf := HC3.out.fin hkf (HRB5.out.keeps (set3k _ fb (.int .i64 g.1) (.string g.2.1) (.int .i64 g.2.2)) fun k hk h => HFN.out (h ▸ hk)) HH5.out
              have hbf := hcf.bl
              have HCF := Lib.hid hcf
              have ht := ltold_any f g ev wb.heap.size _ (HG.out.below hbf HG.out.lt) (HE3.out.far hkf HHB.out)
              have HT := Lib.hid ht
              clear hkf hcf hbf ht
              unfold fV at HT
              refine HT.out.mono ?_
              rintro e w6 ⟨bb, rfl, hbb, hb6⟩
              have HBB := Lib.hid hbb
              have HB6 := Lib.hid hb6
              clear hbb hb6
              go_wp2_with fail
              go_ret
              refine ⟨bb, rfl, fun h => HBB.out (by rw [HAC.out, HACR.out] at h; exact (Prod.mk.inj h).2), ?_⟩
              rw [HAC.out, HACR.out]
              exact CtxA.from HBB0.out HC0.out.sa.lt (CtxA.step HG3.out (fun k h => .inl h) HK3.out (HCF.out.below HB6.out)) HC0.out.rb.lt
            · have hkf := HK5.out.trans ((set3k _ fb (.int .i64 g.1) (.string g.2.1) (.int .i64 g.2.2)).mono fun k _ h => .inr (by rw [h]; exact HFG.out)) fun _ _ h => h
              have HCF := Lib.hid (HC3.out.fin hkf (HRB5.out.keeps (set3k _ fb (.int .i64 g.1) (.string g.2.1) (.int .i64 g.2.2)) fun k hk h => HFN.out (h ▸ hk)) HH5.out)
              have hnn : (n == n2) = false := by simpa using hn
              clear hkf
              go_wp2_with fail
              go_ret
              refine ⟨_, rfl, fun h => absurd (by rw [HAC.out, HACR.out] at h; exact (Prod.mk.inj h).1) hn, ?_⟩
              rw [HAC.out, HACR.out]
              exact CtxA.from HBB0.out HC0.out.sa.lt (CtxA.step HG3.out (fun k h => .inl h) HK3.out HCF.out) HC0.out.rb.lt
          · skip
            go_simp
            obtain ⟨fb, hfb⟩ : ∃ fb, w4.heap.size = fb := ⟨_, rfl⟩
            have Z0 : (w4.alloc (.cells #[.int .i64 0, .string ⟨#[]⟩, .int .i64 0] 100)).cell? ⟨fb, 0, none⟩ = some (.int .i64 0) := by rw [← hfb]; exact (box3 w4 (.int .i64 0) (.string ⟨#[]⟩) (.int .i64 0) 100).1
            have Z1 : (w4.alloc (.cells #[.int .i64 0, .string ⟨#[]⟩, .int .i64 0] 100)).cell? ⟨fb, 1, none⟩ = some (.string ⟨#[]⟩) := by rw [← hfb]; exact (box3 w4 (.int .i64 0) (.string ⟨#[]⟩) (.int .i64 0) 100).2.1
            have Z2 : (w4.alloc (.cells #[.int .i64 0, .string ⟨#[]⟩, .int .i64 0] 100)).cell? ⟨fb, 2, none⟩ = some (.int .i64 0) := by rw [← hfb]; exact (box3 w4 (.int .i64 0) (.string ⟨#[]⟩) (.int .i64 0) 100).2.2.1
            have ZF : ∀ j, (w4.alloc (.cells #[.int .i64 0, .string ⟨#[]⟩, .int .i64 0] 100)).frozen? ⟨fb, j, none⟩ = false := by intro j; rw [← hfb]; exact (box3 w4 (.int .i64 0) (.string ⟨#[]⟩) (.int .i64 0) 100).2.2.2 j
            have HFL := Lib.hid (show fb < (w4.alloc (.cells #[.int .i64 0, .string ⟨#[]⟩, .int .i64 0] 100)).heap.size by rw [← hfb]; simp)
            have HX4 := Lib.hid ((XS.of (x := ⟨1, row, col, kd, (p, q), es⟩) (v := v) hHeld).below (belowBox _ (.cells #[.int .i64 0, .string ⟨#[]⟩, .int .i64 0] 100)))
            have HFG := Lib.hid (show w3.heap.size ≤ fb by rw [← hfb]; exact HB.out.size)
            replace HB := Lib.hid (HB.out.trans ((belowBox w4 (.cells #[.int .i64 0, .string ⟨#[]⟩, .int .i64 0] 100)).mono HB.out.size))
            simp only [hfb]
            clear hfb
            refine hK.out _ _ (HX4.out) (fun hHeld2 => ?_)
            clear hK K hHeld
            rename _ => hHeld
            try simp only [Act.put, stB, stZ, stS]
            refine wpAnyH_ready (rs := [8]) (by kernel_rfl) (by simp) ?_
            refine (AllReadyH.cons rfl (fun K hK => ?_) AllReadyH.nil)
            go_simp
            have hra := r_addRow rb H m kd (p, q) es a2 a3 c2 c3 (w4.alloc (.cells #[.int .i64 0, .string ⟨#[]⟩, .int .i64 0] 100)) (HC3.out.rb.below HB.out) HRW.out HCL.out HLN.out.2.2.1 (mid_under HMI.out HB.out) (mid_under HMV.out HB.out) HDI.out HDV.out
            rw [HM1.out] at hra
            refine hra.mono ?_
            rintro e w5 ⟨rfl, ha5⟩
            obtain ⟨H5, hrb5, hh5, hk5⟩ := ha5
            have HRB5 := Lib.hid hrb5
            have HK5 := Lib.hid (show Keeps w3 w5 (fun k => H k ∨ w3.heap.size ≤ k) from (below_keeps (p := fun k => H k ∨ w3.heap.size ≤ k) HB.out).trans (hk5.mono fun _ _ h => .inl h) fun _ _ h => h)
            have HH5 := Lib.hid (show ∀ k, H5 k → H k ∨ w3.heap.size ≤ k from fun k hk => (hh5 k hk).imp id fun h => Nat.le_trans HB.out.size h)
            have hnf : ¬ H fb := fun h => by have := HC3.out.rb.lt _ h; have := HFG.out; omega
            replace Z0 := (hk5.cell (a := ⟨fb, 0, none⟩) HFL.out hnf).trans Z0
            replace Z1 := (hk5.cell (a := ⟨fb, 1, none⟩) HFL.out hnf).trans Z1
            replace Z2 := (hk5.cell (a := ⟨fb, 2, none⟩) HFL.out hnf).trans Z2
            replace ZF := fun j => (hk5.frozen (a := ⟨fb, j, none⟩) HFL.out hnf).trans (ZF j)
            have HFN := Lib.hid (show ¬ H5 fb from fun h => by
              rcases hh5 fb h with h4 | h4
              · exact hnf h4
              · have := HFL.out; omega)
            clear hnf
            have HX5 := Lib.hid ((XS.of (x := ⟨1, row, col, kd, (p, q), es⟩) (v := v) hHeld).keeps hk5 (fun h => HNX.out (.inr h)) fun h => HNV.out (.inr h))
            clear hra hrb5 hh5 hk5
            dsimp only
            refine hK.out _ _ (HX5.out) (fun hHeld2 => ?_)
            clear hK K hHeld
            rename _ => hHeld
            try simp only [Act.put, stB, stZ, stS]
            refine tk 9 (some 79) (v := ?_) rfl rfl ?_ ?_
            rotate_left
            · (intro w _; go_simp; (try with_reducible rfl))
            simp only [Act.put, stB, stZ, stS]
            refine tk 10 (some 89) (v := ?_) rfl rfl ?_ ?_
            rotate_left
            · (intro w _; go_simp; (try with_reducible rfl))
            simp only [Act.put, stB, stZ, stS]
            refine tk 11 (some 90) (v := ?_) rfl rfl ?_ ?_
            rotate_left
            · (intro w _; go_simp; (try with_reducible rfl))
            simp only [Act.put, stB, stZ, stS]
            refine tk 13 (some 14) (v := ?_) rfl rfl ?_ ?_
            rotate_left
            · (intro w _; go_simp; (try with_reducible rfl))
            simp only [Act.put, stB, stZ, stS]
            refine wpAnyH_ready (rs := [14]) (by kernel_rfl) (by simp) ?_
            refine (AllReadyH.cons rfl (fun K hK => ?_) AllReadyH.nil)
            have ZF0 := ZF 0
            have ZF1 := ZF 1
            have ZF2 := ZF 2
            go_simp
            have HX6 := Lib.hid ((XS.of (x := ⟨1, row, col, kd, (p, q), es⟩) (v := v) hHeld).keeps (set3k _ fb (.int .i64 g.1) (.string g.2.1) (.int .i64 g.2.2)) (fun h => by have := HFG.out; have := HK3.out.size; have := HXL.out; omega) fun h => by have := HFG.out; have := HK3.out.size; have := HXL.out; omega)
            refine hK.out _ _ (HX6.out) (fun hHeld2 => ?_)
            clear hK K hHeld
            rename _ => hHeld
            try simp only [Act.put, stB, stZ, stS]
            refine wpAnyH_done (by kernel_rfl) ?_ _
            (try simp only [Exit.inBlock, Exit.then])
            clear hHeld
            by_cases hn : n = n2
            · subst hn
              go_wp2_with fail
              have hkf := HK5.out.trans ((set3k _ fb (.int .i64 g.1) (.string g.2.1) (.int .i64 g.2.2)).mono fun k _ h => .inr (by rw [h]; exact HFG.out)) fun _ _ h => h
              have hcf := HC3.out.fin hkf (HRB5.out.keeps (set3k _ fb (.int .i64 g.1) (.string g.2.1) (.int .i64 g.2.2)) fun k hk h => HFN.out (h ▸ hk)) HH5.out
              have hbf := hcf.bl
              have HCF := Lib.hid hcf
              have ht := ltold_any f g ev wb.heap.size _ (HG.out.below hbf HG.out.lt) (HE3.out.far hkf HHB.out)
              have HT := Lib.hid ht
              clear hkf hcf hbf ht
              unfold fV at HT
              refine HT.out.mono ?_
              rintro e w6 ⟨bb, rfl, hbb, hb6⟩
              have HBB := Lib.hid hbb
              have HB6 := Lib.hid hb6
              clear hbb hb6
              go_wp2_with fail
              go_ret
              refine ⟨bb, rfl, fun h => HBB.out (by rw [HAC.out, HACR.out] at h; exact (Prod.mk.inj h).2), ?_⟩
              rw [HAC.out, HACR.out]
              exact CtxA.from HBB0.out HC0.out.sa.lt (CtxA.step HG3.out (fun k h => .inl h) HK3.out (HCF.out.below HB6.out)) HC0.out.rb.lt
            · have hkf := HK5.out.trans ((set3k _ fb (.int .i64 g.1) (.string g.2.1) (.int .i64 g.2.2)).mono fun k _ h => .inr (by rw [h]; exact HFG.out)) fun _ _ h => h
              have HCF := Lib.hid (HC3.out.fin hkf (HRB5.out.keeps (set3k _ fb (.int .i64 g.1) (.string g.2.1) (.int .i64 g.2.2)) fun k hk h => HFN.out (h ▸ hk)) HH5.out)
              have hnn : (n == n2) = false := by simpa using hn
              clear hkf
              go_wp2_with fail
              go_ret
              refine ⟨_, rfl, fun h => absurd (by rw [HAC.out, HACR.out] at h; exact (Prod.mk.inj h).1) hn, ?_⟩
              rw [HAC.out, HACR.out]
              exact CtxA.from HBB0.out HC0.out.sa.lt (CtxA.step HG3.out (fun k h => .inl h) HK3.out HCF.out) HC0.out.rb.lt
        · skip
          go_simp
          obtain ⟨fb, hfb⟩ : ∃ fb, w3.heap.size = fb := ⟨_, rfl⟩
          have Z0 : (w3.drew.alloc (.cells #[.int .i64 0, .string ⟨#[]⟩, .int .i64 0] 100)).cell? ⟨fb, 0, none⟩ = some (.int .i64 0) := by rw [← hfb]; exact (box3 w3.drew (.int .i64 0) (.string ⟨#[]⟩) (.int .i64 0) 100).1
          have Z1 : (w3.drew.alloc (.cells #[.int .i64 0, .string ⟨#[]⟩, .int .i64 0] 100)).cell? ⟨fb, 1, none⟩ = some (.string ⟨#[]⟩) := by rw [← hfb]; exact (box3 w3.drew (.int .i64 0) (.string ⟨#[]⟩) (.int .i64 0) 100).2.1
          have Z2 : (w3.drew.alloc (.cells #[.int .i64 0, .string ⟨#[]⟩, .int .i64 0] 100)).cell? ⟨fb, 2, none⟩ = some (.int .i64 0) := by rw [← hfb]; exact (box3 w3.drew (.int .i64 0) (.string ⟨#[]⟩) (.int .i64 0) 100).2.2.1
          have ZF : ∀ j, (w3.drew.alloc (.cells #[.int .i64 0, .string ⟨#[]⟩, .int .i64 0] 100)).frozen? ⟨fb, j, none⟩ = false := by intro j; rw [← hfb]; exact (box3 w3.drew (.int .i64 0) (.string ⟨#[]⟩) (.int .i64 0) 100).2.2.2 j
          have HFL := Lib.hid (show fb < (w3.drew.alloc (.cells #[.int .i64 0, .string ⟨#[]⟩, .int .i64 0] 100)).heap.size by rw [← hfb]; simp)
          have HX4 := Lib.hid ((XS.of (x := ⟨1, row, col, kd, (p, q), es⟩) (v := v) hHeld).below (belowBox _ (.cells #[.int .i64 0, .string ⟨#[]⟩, .int .i64 0] 100)))
          have HFG := Lib.hid (show w3.heap.size ≤ fb by rw [← hfb]; exact HB.out.size)
          replace HB := Lib.hid (HB.out.trans ((belowBox w3.drew (.cells #[.int .i64 0, .string ⟨#[]⟩, .int .i64 0] 100)).mono HB.out.size))
          simp only [hfb]
          clear hfb
          refine hK.out _ _ (HX4.out) (fun hHeld2 => ?_)
          clear hK K hHeld
          rename _ => hHeld
          try simp only [Act.put, stB, stZ, stS]
          refine wpAnyH_ready (rs := [5]) (by kernel_rfl) (by simp) ?_
          refine (AllReadyH.cons rfl (fun K hK => ?_) AllReadyH.nil)
          go_simp
          refine (value_any p q (w3.drew.alloc (.cells #[.int .i64 0, .string ⟨#[]⟩, .int .i64 0] 100))).mono ?_
          rintro e w4 ⟨rfl, hb4⟩
          replace Z0 := (hb4.cell (p := ⟨fb, 0, none⟩) HFL.out).trans Z0
          replace Z1 := (hb4.cell (p := ⟨fb, 1, none⟩) HFL.out).trans Z1
          replace Z2 := (hb4.cell (p := ⟨fb, 2, none⟩) HFL.out).trans Z2
          replace ZF := fun j => (hb4.frozen (p := ⟨fb, j, none⟩) HFL.out).trans (ZF j)
          replace HFL := Lib.hid (show fb < w4.heap.size from Nat.lt_of_lt_of_le HFL.out hb4.size)
          have HX4 := Lib.hid ((XS.of (x := ⟨1, row, col, kd, (p, q), es⟩) (v := v) hHeld).below hb4)
          replace HB := Lib.hid (HB.out.trans (hb4.mono HB.out.size))
          clear hb4
          refine hK.out _ _ (HX4.out) (fun hHeld2 => ?_)
          clear hK K hHeld
          rename _ => hHeld
          try simp only [Act.put, stB, stZ, stS]
          refine wpAnyH_ready (rs := [8]) (by kernel_rfl) (by simp) ?_
          refine (AllReadyH.cons rfl (fun K hK => ?_) AllReadyH.nil)
          go_simp
          have hra := r_addRow rb H m kd (p, q) es a2 a3 c2 c3 w4 (HC3.out.rb.below HB.out) HRW.out HCL.out HLN.out.2.2.1 (mid_under HMI.out HB.out) (mid_under HMV.out HB.out) HDI.out HDV.out
          rw [HM1.out] at hra
          refine hra.mono ?_
          rintro e w5 ⟨rfl, ha5⟩
          obtain ⟨H5, hrb5, hh5, hk5⟩ := ha5
          have HRB5 := Lib.hid hrb5
          have HK5 := Lib.hid (show Keeps w3 w5 (fun k => H k ∨ w3.heap.size ≤ k) from (below_keeps (p := fun k => H k ∨ w3.heap.size ≤ k) HB.out).trans (hk5.mono fun _ _ h => .inl h) fun _ _ h => h)
          have HH5 := Lib.hid (show ∀ k, H5 k → H k ∨ w3.heap.size ≤ k from fun k hk => (hh5 k hk).imp id fun h => Nat.le_trans HB.out.size h)
          have hnf : ¬ H fb := fun h => by have := HC3.out.rb.lt _ h; have := HFG.out; omega
          replace Z0 := (hk5.cell (a := ⟨fb, 0, none⟩) HFL.out hnf).trans Z0
          replace Z1 := (hk5.cell (a := ⟨fb, 1, none⟩) HFL.out hnf).trans Z1
          replace Z2 := (hk5.cell (a := ⟨fb, 2, none⟩) HFL.out hnf).trans Z2
          replace ZF := fun j => (hk5.frozen (a := ⟨fb, j, none⟩) HFL.out hnf).trans (ZF j)
          have HFN := Lib.hid (show ¬ H5 fb from fun h => by
            rcases hh5 fb h with h4 | h4
            · exact hnf h4
            · have := HFL.out; omega)
          clear hnf
          have HX5 := Lib.hid ((XS.of (x := ⟨1, row, col, kd, (p, q), es⟩) (v := v) hHeld).keeps hk5 (fun h => HNX.out (.inr h)) fun h => HNV.out (.inr h))
          clear hra hrb5 hh5 hk5
          dsimp only
          refine hK.out _ _ (HX5.out) (fun hHeld2 => ?_)
          clear hK K hHeld
          rename _ => hHeld
          try simp only [Act.put, stB, stZ, stS]
          refine tk 9 (some 79) (v := ?_) rfl rfl ?_ ?_
          rotate_left
          · (intro w _; go_simp; (try with_reducible rfl))
          simp only [Act.put, stB, stZ, stS]
          refine tk 10 (some 89) (v := ?_) rfl rfl ?_ ?_
          rotate_left
          · (intro w _; go_simp; (try with_reducible rfl))
          simp only [Act.put, stB, stZ, stS]
          refine tk 11 (some 90) (v := ?_) rfl rfl ?_ ?_
          rotate_left
          · (intro w _; go_simp; (try with_reducible rfl))
          simp only [Act.put, stB, stZ, stS]
          refine tk 13 (some 14) (v := ?_) rfl rfl ?_ ?_
          rotate_left
          · (intro w _; go_simp; (try with_reducible rfl))
          simp only [Act.put, stB, stZ, stS]
          refine wpAnyH_ready (rs := [14]) (by kernel_rfl) (by simp) ?_
          refine (AllReadyH.cons rfl (fun K hK => ?_) AllReadyH.nil)
          have ZF0 := ZF 0
          have ZF1 := ZF 1
          have ZF2 := ZF 2
          go_simp
          have HX6 := Lib.hid ((XS.of (x := ⟨1, row, col, kd, (p, q), es⟩) (v := v) hHeld).keeps (set3k _ fb (.int .i64 g.1) (.string g.2.1) (.int .i64 g.2.2)) (fun h => by have := HFG.out; have := HK3.out.size; have := HXL.out; omega) fun h => by have := HFG.out; have := HK3.out.size; have := HXL.out; omega)
          refine hK.out _ _ (HX6.out) (fun hHeld2 => ?_)
          clear hK K hHeld
          rename _ => hHeld
          try simp only [Act.put, stB, stZ, stS]
          refine wpAnyH_done (by kernel_rfl) ?_ _
          (try simp only [Exit.inBlock, Exit.then])
          clear hHeld
          by_cases hn : n = n2
          · subst hn
            go_wp2_with fail
            have hkf := HK5.out.trans ((set3k _ fb (.int .i64 g.1) (.string g.2.1) (.int .i64 g.2.2)).mono fun k _ h => .inr (by rw [h]; exact HFG.out)) fun _ _ h => h
            have hcf := HC3.out.fin hkf (HRB5.out.keeps (set3k _ fb (.int .i64 g.1) (.string g.2.1) (.int .i64 g.2.2)) fun k hk h => HFN.out (h ▸ hk)) HH5.out
            have hbf := hcf.bl
            have HCF := Lib.hid hcf
            have ht := ltold_any f g ev wb.heap.size _ (HG.out.below hbf HG.out.lt) (HE3.out.far hkf HHB.out)
            have HT := Lib.hid ht
            clear hkf hcf hbf ht
            unfold fV at HT
            refine HT.out.mono ?_
            rintro e w6 ⟨bb, rfl, hbb, hb6⟩
            have HBB := Lib.hid hbb
            have HB6 := Lib.hid hb6
            clear hbb hb6
            go_wp2_with fail
            go_ret
            refine ⟨bb, rfl, fun h => HBB.out (by rw [HAC.out, HACR.out] at h; exact (Prod.mk.inj h).2), ?_⟩
            rw [HAC.out, HACR.out]
            exact CtxA.from HBB0.out HC0.out.sa.lt (CtxA.step HG3.out (fun k h => .inl h) HK3.out (HCF.out.below HB6.out)) HC0.out.rb.lt
          · have hkf := HK5.out.trans ((set3k _ fb (.int .i64 g.1) (.string g.2.1) (.int .i64 g.2.2)).mono fun k _ h => .inr (by rw [h]; exact HFG.out)) fun _ _ h => h
            have HCF := Lib.hid (HC3.out.fin hkf (HRB5.out.keeps (set3k _ fb (.int .i64 g.1) (.string g.2.1) (.int .i64 g.2.2)) fun k hk h => HFN.out (h ▸ hk)) HH5.out)
            have hnn : (n == n2) = false := by simpa using hn
            clear hkf
            go_wp2_with fail
            go_ret
            refine ⟨_, rfl, fun h => absurd (by rw [HAC.out, HACR.out] at h; exact (Prod.mk.inj h).1) hn, ?_⟩
            rw [HAC.out, HACR.out]
            exact CtxA.from HBB0.out HC0.out.sa.lt (CtxA.step HG3.out (fun k h => .inl h) HK3.out HCF.out) HC0.out.rb.lt
      by_cases hd2 : d = 2
      · subst hd2
        obtain ⟨⟨⟨n, f⟩, s1⟩, hs1⟩ : ∃ r, s.addCol v.q (L.map Cl.ac) = r := ⟨_, rfl⟩
        obtain ⟨⟨⟨n2, g⟩, m1⟩, hm1⟩ : ∃ r, m.addCol (p, q) es = r := ⟨_, rfl⟩
        have HAC := Lib.hid (show s.act ⟨2, row, col, kd, (p, q), es⟩ = ((n, f), s1) by unfold AS.act; rw [if_neg (show ¬ (2 : Int) = 1 by decide), if_pos rfl]; dsimp only; rw [← HVQ.out, ← HL.out]; exact hs1)
        have HACR := Lib.hid (show m.act ⟨2, row, col, kd, (p, q), es⟩ = ((n2, g), m1) by unfold RM.act; rw [if_neg (show ¬ (2 : Int) = 1 by decide), if_pos rfl]; dsimp only; rw [hm1])
        have hsa := as_addCol HC.out.sa HWF.out v L a1 c1 (Sl.ofMid HES.out.mid1) HO.out HSM.out (fun e he => HES.out.ok e he) HLN.out.2.1
        rw [hs1] at hsa
        have HSA := Lib.hid hsa
        have HM1 := Lib.hid hm1
        clear hsa hs1 hm1
        go_wp2_with fail
        refine HSA.out.mono ?_
        rintro e w3 ⟨ev, rfl, he3, ha3⟩
        obtain ⟨G3, hc3, hg3, hk3⟩ := HC.out.left1 ha3
        have HX3 := Lib.hid (HXS.out.keeps hk3 (fun h => HNX.out (.inl h)) fun h => HNV.out (.inl h))
        have HE3 := Lib.hid (show ErrV w3 wb.heap.size f ev from he3)
        have hgl : ∀ k, w1.heap.size ≤ k → ¬ G k := fun k hk hG => by have := HLT.out k (.inl hG); omega
        have hhl : ∀ k, w1.heap.size ≤ k → ¬ H k := fun k hk hG => by have := HLT.out k (.inr hG); omega
        have HMI := Lib.hid (show Mid w3 0 3 1 (.slice a2 es.length c2) es.length ((es.map (·.1)).map IV) by
          have h := HES.out.mid2.keeps hk3 fun k hk => hgl k (HES.out.new2 k hk)
          rw [HLI.out] at h
          rw [HI.out] at h
          exact h)
        have HMV := Lib.hid (show Mid w3 0 97 2 (.slice a3 es.length c3) es.length ((es.map (·.2)).flatMap vCells) by
          have h := HES.out.mid3.keeps hk3 fun k hk => hgl k (HES.out.new3 k hk)
          rw [HLV.out] at h
          rw [HV.out] at h
          exact h)
        have HDI := Lib.hid (show ∀ k, (Value.slice a2 es.length c2).ownBlock = some k → ¬ H k from fun k hk => hhl k (HES.out.new2 k (by rw [HLI.out]; exact hk)))
        have HDV := Lib.hid (show ∀ k, (Value.slice a3 es.length c3).ownBlock = some k → ¬ H k from fun k hk => hhl k (HES.out.new3 k (by rw [HLV.out]; exact hk)))
        have HC3 := Lib.hid hc3
        have HG3 := Lib.hid (show ∀ k, G3 k → G k ∨ wb.heap.size ≤ k from hg3)
        have HK3 := Lib.hid (show Keeps wb w3 (fun k => G k ∨ H k) from hk3.mono fun _ _ h => .inl h)
        have HHB := Lib.hid (show ∀ k, wb.heap.size ≤ k → ¬ H k from fun k hk hH => by have := HC.out.rb.lt k hH; omega)
        clear ha3 he3 hc3 hg3 hk3 hgl hhl HSA
        dsimp only
        have HVA := Lib.hid (value_any p q w3)
        obtain ⟨y1, y2, y3, y4, y5, g0', g1', g2'⟩ := HX3.out.eta
        go_wp2_with fail
        refine HVA.out.mono ?_
        rintro e w4 ⟨rfl, hb4⟩
        have HB := Lib.hid hb4
        clear hb4 y1 y2 y3 y4 y5 g0' g1' g2' z0 z1 z2 z3 z4 z5 g0 g1 g2
        go_wp2_with fail
        have hra := r_addCol rb H m (p, q) es a2 a3 c2 c3 w4 (HC3.out.rb.below HB.out) HRW.out HCL.out HLN.out.2.2.2 (mid_under HMI.out HB.out) (mid_under HMV.out HB.out) HDI.out HDV.out
        rw [HM1.out] at hra
        refine hra.mono ?_
        rintro e w5 ⟨rfl, ha5⟩
        obtain ⟨H5, hrb5, hh5, hk5⟩ := ha5
        have HRB5 := Lib.hid hrb5
        have HK5 := Lib.hid (show Keeps w3 w5 (fun k => H k ∨ w3.heap.size ≤ k) from (below_keeps (p := fun k => H k ∨ w3.heap.size ≤ k) HB.out).trans (hk5.mono fun _ _ h => .inl h) fun _ _ h => h)
        have HH5 := Lib.hid (show ∀ k, H5 k → H k ∨ w3.heap.size ≤ k from fun k hk => (hh5 k hk).imp id fun h => Nat.le_trans HB.out.size h)
        clear hra hrb5 hh5 hk5
        dsimp only
        by_cases hn : n = n2
        · subst hn
          go_wp2_with fail
          have hkf := HK5.out.trans (below_keeps (p := fun k => H k ∨ w3.heap.size ≤ k) (belowBox w5 (.cells #[.int .i64 g.1, .string g.2.1, .int .i64 g.2.2] 100))) fun _ _ h => h
          have hcf := HC3.out.fin hkf (HRB5.out.below (belowBox w5 (.cells #[.int .i64 g.1, .string g.2.1, .int .i64 g.2.2] 100))) HH5.out
          have hbf := hcf.bl
          have HCF := Lib.hid hcf
          have ht := ltold_any f g ev wb.heap.size _ (HG.out.below hbf HG.out.lt) (HE3.out.far hkf HHB.out)
          have HT := Lib.hid ht
          clear hkf hcf hbf ht
          unfold fV at HT
          refine HT.out.mono ?_
          rintro e w6 ⟨bb, rfl, hbb, hb6⟩
          have HBB := Lib.hid hbb
          have HB6 := Lib.hid hb6
          clear hbb hb6
          go_wp2_with fail
          go_ret
          refine ⟨bb, rfl, fun h => HBB.out (by rw [HAC.out, HACR.out] at h; exact (Prod.mk.inj h).2), ?_⟩
          rw [HAC.out, HACR.out]
          exact CtxA.from HBB0.out HC0.out.sa.lt (CtxA.step HG3.out (fun k h => .inl h) HK3.out (HCF.out.below HB6.out)) HC0.out.rb.lt
        · have hkf := HK5.out.trans (below_keeps (p := fun k => H k ∨ w3.heap.size ≤ k) (belowBox w5 (.cells #[.int .i64 g.1, .string g.2.1, .int .i64 g.2.2] 100))) fun _ _ h => h
          have HCF := Lib.hid (HC3.out.fin hkf (HRB5.out.below (belowBox w5 (.cells #[.int .i64 g.1, .string g.2.1, .int .i64 g.2.2] 100))) HH5.out)
          have hnn : (n == n2) = false := by simpa using hn
          clear hkf
          go_wp2_with fail
          go_ret
          refine ⟨_, rfl, fun h => absurd (by rw [HAC.out, HACR.out] at h; exact (Prod.mk.inj h).1) hn, ?_⟩
          rw [HAC.out, HACR.out]
          exact CtxA.from HBB0.out HC0.out.sa.lt (CtxA.step HG3.out (fun k h => .inl h) HK3.out HCF.out) HC0.out.rb.lt
      by_cases hd3 : d = 3
      · subst hd3
        obtain ⟨⟨f, s1⟩, hs1⟩ : ∃ r, s.dropRow row = r := ⟨_, rfl⟩
        obtain ⟨⟨g, m1⟩, hm1⟩ : ∃ r, m.dropRow row = r := ⟨_, rfl⟩
        have HAC := Lib.hid (show s.act ⟨3, row, col, kd, (p, q), es⟩ = ((0, f), s1) by unfold AS.act; rw [if_neg (show ¬ (3 : Int) = 1 by decide), if_neg (show ¬ (3 : Int) = 2 by decide), if_pos rfl]; dsimp only; rw [hs1])
        have HACR := Lib.hid (show m.act ⟨3, row, col, kd, (p, q), es⟩ = ((0, g), m1) by unfold RM.act; rw [if_neg (show ¬ (3 : Int) = 1 by decide), if_neg (show ¬ (3 : Int) = 2 by decide), if_pos rfl]; dsimp only; rw [hm1])
        have hsa := as_dropRow (HC.out.below (Below.drawn wb 1)).sa HWF.out row
        rw [hs1] at hsa
        have HSA := Lib.hid hsa
        have HM1 := Lib.hid hm1
        clear hsa hs1 hm1
        go_upto_region 21 with fail
        refine wp_region_held_drew (S := fun W => W.cell? ⟨xb, 1, none⟩ = some (.int .i64 row) ∧ W.cell? ⟨xb, 2, none⟩ = some (.int .i64 col) ∧ W.cell? ⟨xb, 3, none⟩ = some (.int .i64 kd) ∧ W.cell? ⟨xb, 4, none⟩ = some (.int .i64 p) ∧ W.cell? ⟨xb, 5, none⟩ = some (.int .i64 q) ∧ W.cell? ⟨vb, 0, none⟩ = some (.bool v.s) ∧ W.cell? ⟨vb, 1, none⟩ = some (.slice v.a v.l v.c) ∧ W.cell? ⟨vb, 2, none⟩ = some (.slice v.b v.m v.d)) (by kernel_rfl) (HXS.out) (fun hHeld => ?_)
        refine tk 0 (some 128) (v := ?_) rfl rfl ?_ ?_
        rotate_left
        · (intro w _; go_simp; (try with_reducible rfl))
        simp only [Act.put, stB, stZ, stS]
        refine tk 1 (some 129) (v := ?_) rfl rfl ?_ ?_
        rotate_left
        · (intro w _; go_simp; (try with_reducible rfl))
        simp only [Act.put, stB, stZ, stS]
        refine tk 2 (some 130) (v := ?_) rfl rfl ?_ ?_
        rotate_left
        · (intro w hSw; (try dsimp only at hSw); ((try obtain ⟨hS1, hS2, hS3, hS4, hS5, hS6, hS7, hS8⟩ := hSw); go_simp); (try with_reducible rfl))
        simp only [Act.put, stB, stZ, stS]
        refine tk 4 (some 132) (v := ?_) rfl rfl ?_ ?_
        rotate_left
        · (intro w _; go_simp; (try with_reducible rfl))
        simp only [Act.put, stB, stZ, stS]
        refine tk 5 (some 133) (v := ?_) rfl rfl ?_ ?_
        rotate_left
        · (intro w _; go_simp; (try with_reducible rfl))
        simp only [Act.put, stB, stZ, stS]
        refine tk 6 (some 134) (v := ?_) rfl rfl ?_ ?_
        rotate_left
        · (intro w hSw; (try dsimp only at hSw); ((try obtain ⟨hS1, hS2, hS3, hS4, hS5, hS6, hS7, hS8⟩ := hSw); go_simp); (try with_reducible rfl))
        simp only [Act.put, stB, stZ, stS]
        refine wpAnyH_ready (rs := [3]) (by kernel_rfl) (by simp) ?_
        refine (AllReadyH.cons rfl (fun K hK => ?_) AllReadyH.nil)
        go_simp
        refine HSA.out.mono ?_
        rintro e w3 ⟨ev, rfl, he3, ha3⟩
        obtain ⟨G3, hc3, hg3, hk3⟩ := (HC.out.below (Below.drawn wb 1)).left1 ha3
        have hx3 := (HXS.out.below (Below.drawn wb 1)).keeps hk3 (fun h => HNX.out (.inl h)) fun h => HNV.out (.inl h)
        have HE4 := Lib.hid (show ErrV w3 wb.heap.size f ev from he3)
        have HC4 := Lib.hid hc3
        have HG3 := Lib.hid (show ∀ k, G3 k → G k ∨ wb.heap.size ≤ k from hg3)
        have HK3 := Lib.hid ((below_keeps (p := fun k => G k ∨ H k) (Below.drawn wb 1)).trans hk3 fun _ _ h => .inl h)
        have HX4 := Lib.hid hx3
        clear ha3 he3 hc3 hg3 hk3 hx3
        have hra := r_dropRow rb H m row w3 HC4.out.rb HRW.out (by have := HCL.out; omega)
        rw [HM1.out] at hra
        have HRA := Lib.hid hra
        clear hra
        refine hK.out _ _ (HX4.out) (fun hHeld2 => ?_)
        clear hK K hHeld
        rename _ => hHeld
        try simp only [Act.put, stB, stZ, stS]
        refine wpAnyH_ready (rs := [7]) (by kernel_rfl) (by simp) ?_
        refine (AllReadyH.cons rfl (fun K hK => ?_) AllReadyH.nil)
        go_simp
        refine HRA.out.mono ?_
        rintro e w5 ⟨rfl, ha5⟩
        have hk5 : Keeps w3 w5 H := by obtain ⟨_, _, _, h⟩ := ha5; exact h
        have he5 := ErrV.keeps HE4.out hk5 fun k hk hH => by have := HC.out.rb.lt k hH; omega
        have hA5 := CtxA.step HG3.out (fun k h => .inl h) HK3.out (HC4.out.right ha5)
        have hx5 := HX4.out.keeps hk5 (fun h => HNX.out (.inr h)) fun h => HNV.out (.inr h)
        have hb5 : Below w0.heap.size w0 w5 := by obtain ⟨_, _, h, _⟩ := hA5; exact h.bl
        have HT5 := Lib.hid (ltold_any f g ev wb.heap.size w5 (HG.out.below hb5 HG.out.lt) he5)
        have HA5 := Lib.hid hA5
        have HX5 := Lib.hid hx5
        clear ha5 hk5 he5 hA5 hx5 hb5
        dsimp only
        refine hK.out _ _ (HX5.out) (fun hHeld2 => ?_)
        clear hK K hHeld
        rename _ => hHeld
        try simp only [Act.put, stB, stZ, stS]
        refine wpAnyH_ready (rs := [8]) (by kernel_rfl) (by simp) ?_
        refine (AllReadyH.cons rfl (fun K hK => ?_) AllReadyH.nil)
        unfold fV at HT5
        go_simp
        refine HT5.out.mono ?_
        rintro e w6 ⟨bb, rfl, hbb, hb6⟩
        have HBB := Lib.hid hbb
        have HA6 := Lib.hid (HA5.out.below hb6)
        have HX6 := Lib.hid (HX5.out.below hb6)
        clear hbb hb6
        refine hK.out _ _ (HX6.out) (fun hHeld2 => ?_)
        clear hK K hHeld
        rename _ => hHeld
        try simp only [Act.put, stB, stZ, stS]
        refine tk 9 (some 6) (v := ?_) rfl rfl ?_ ?_
        rotate_left
        · (intro w _; go_simp; (try with_reducible rfl))
        simp only [Act.put, stB, stZ, stS]
        refine wpAnyH_done (by kernel_rfl) ?_ _
        (try simp only [Exit.inBlock, Exit.then])
        go_wp2_with fail
        go_ret
        refine ⟨bb, rfl, fun h => HBB.out ?_, ?_⟩
        · rw [HAC.out, HACR.out] at h
          exact (Prod.mk.inj h).2
        · rw [HAC.out, HACR.out]
          exact CtxA.from HBB0.out HC0.out.sa.lt HA6.out HC0.out.rb.lt
      by_cases hd4 : d = 4
      · subst hd4
        obtain ⟨⟨f, s1⟩, hs1⟩ : ∃ r, s.dropCol col = r := ⟨_, rfl⟩
        obtain ⟨⟨g, m1⟩, hm1⟩ : ∃ r, m.dropCol col = r := ⟨_, rfl⟩
        have HAC := Lib.hid (show s.act ⟨4, row, col, kd, (p, q), es⟩ = ((0, f), s1) by unfold AS.act; rw [if_neg (show ¬ (4 : Int) = 1 by decide), if_neg (show ¬ (4 : Int) = 2 by decide), if_neg (show ¬ (4 : Int) = 3 by decide), if_pos rfl]; dsimp only; rw [hs1])
        have HACR := Lib.hid (show m.act ⟨4, row, col, kd, (p, q), es⟩ = ((0, g), m1) by unfold RM.act; rw [if_neg (show ¬ (4 : Int) = 1 by decide), if_neg (show ¬ (4 : Int) = 2 by decide), if_neg (show ¬ (4 : Int) = 3 by decide), if_pos rfl]; dsimp only; rw [hm1])
        have hsa := as_dropCol (HC.out.below (Below.drawn wb 1)).sa HWF.out col
        rw [hs1] at hsa
        have HSA := Lib.hid hsa
        have HM1 := Lib.hid hm1
        clear hsa hs1 hm1
        go_upto_region 23 with fail
        refine wp_region_held_drew (S := fun W => W.cell? ⟨xb, 1, none⟩ = some (.int .i64 row) ∧ W.cell? ⟨xb, 2, none⟩ = some (.int .i64 col) ∧ W.cell? ⟨xb, 3, none⟩ = some (.int .i64 kd) ∧ W.cell? ⟨xb, 4, none⟩ = some (.int .i64 p) ∧ W.cell? ⟨xb, 5, none⟩ = some (.int .i64 q) ∧ W.cell? ⟨vb, 0, none⟩ = some (.bool v.s) ∧ W.cell? ⟨vb, 1, none⟩ = some (.slice v.a v.l v.c) ∧ W.cell? ⟨vb, 2, none⟩ = some (.slice v.b v.m v.d)) (by kernel_rfl) (HXS.out) (fun hHeld => ?_)
        refine tk 0 (some 139) (v := ?_) rfl rfl ?_ ?_
        rotate_left
        · (intro w _; go_simp; (try with_reducible rfl))
        simp only [Act.put, stB, stZ, stS]
        refine tk 1 (some 140) (v := ?_) rfl rfl ?_ ?_
        rotate_left
        · (intro w _; go_simp; (try with_reducible rfl))
        simp only [Act.put, stB, stZ, stS]
        refine tk 2 (some 141) (v := ?_) rfl rfl ?_ ?_
        rotate_left
        · (intro w hSw; (try dsimp only at hSw); ((try obtain ⟨hS1, hS2, hS3, hS4, hS5, hS6, hS7, hS8⟩ := hSw); go_simp); (try with_reducible rfl))
        simp only [Act.put, stB, stZ, stS]
        refine tk 4 (some 143) (v := ?_) rfl rfl ?_ ?_
        rotate_left
        · (intro w _; go_simp; (try with_reducible rfl))
        simp only [Act.put, stB, stZ, stS]
        refine tk 5 (some 144) (v := ?_) rfl rfl ?_ ?_
        rotate_left
        · (intro w _; go_simp; (try with_reducible rfl))
        simp only [Act.put, stB, stZ, stS]
        refine tk 6 (some 145) (v := ?_) rfl rfl ?_ ?_
        rotate_left
        · (intro w hSw; (try dsimp only at hSw); ((try obtain ⟨hS1, hS2, hS3, hS4, hS5, hS6, hS7, hS8⟩ := hSw); go_simp); (try with_reducible rfl))
        simp only [Act.put, stB, stZ, stS]
        refine wpAnyH_ready (rs := [3]) (by kernel_rfl) (by simp) ?_
        refine (AllReadyH.cons rfl (fun K hK => ?_) AllReadyH.nil)
        go_simp
        refine HSA.out.mono ?_
        rintro e w3 ⟨ev, rfl, he3, ha3⟩
        obtain ⟨G3, hc3, hg3, hk3⟩ := (HC.out.below (Below.drawn wb 1)).left1 ha3
        have hx3 := (HXS.out.below (Below.drawn wb 1)).keeps hk3 (fun h => HNX.out (.inl h)) fun h => HNV.out (.inl h)
        have HE4 := Lib.hid (show ErrV w3 wb.heap.size f ev from he3)
        have HC4 := Lib.hid hc3
        have HG3 := Lib.hid (show ∀ k, G3 k → G k ∨ wb.heap.size ≤ k from hg3)
        have HK3 := Lib.hid ((below_keeps (p := fun k => G k ∨ H k) (Below.drawn wb 1)).trans hk3 fun _ _ h => .inl h)
        have HX4 := Lib.hid hx3
        clear ha3 he3 hc3 hg3 hk3 hx3
        have hra := r_dropCol rb H m col w3 HC4.out.rb HRW.out (by have := HCL.out; omega)
        rw [HM1.out] at hra
        have HRA := Lib.hid hra
        clear hra
        refine hK.out _ _ (HX4.out) (fun hHeld2 => ?_)
        clear hK K hHeld
        rename _ => hHeld
        try simp only [Act.put, stB, stZ, stS]
        refine wpAnyH_ready (rs := [7]) (by kernel_rfl) (by simp) ?_
        refine (AllReadyH.cons rfl (fun K hK => ?_) AllReadyH.nil)
        go_simp
        refine HRA.out.mono ?_
        rintro e w5 ⟨rfl, ha5⟩
        have hk5 : Keeps w3 w5 H := by obtain ⟨_, _, _, h⟩ := ha5; exact h
        have he5 := ErrV.keeps HE4.out hk5 fun k hk hH => by have := HC.out.rb.lt k hH; omega
        have hA5 := CtxA.step HG3.out (fun k h => .inl h) HK3.out (HC4.out.right ha5)
        have hx5 := HX4.out.keeps hk5 (fun h => HNX.out (.inr h)) fun h => HNV.out (.inr h)
        have hb5 : Below w0.heap.size w0 w5 := by obtain ⟨_, _, h, _⟩ := hA5; exact h.bl
        have HT5 := Lib.hid (ltold_any f g ev wb.heap.size w5 (HG.out.below hb5 HG.out.lt) he5)
        have HA5 := Lib.hid hA5
        have HX5 := Lib.hid hx5
        clear ha5 hk5 he5 hA5 hx5 hb5
        dsimp only
        refine hK.out _ _ (HX5.out) (fun hHeld2 => ?_)
        clear hK K hHeld
        rename _ => hHeld
        try simp only [Act.put, stB, stZ, stS]
        refine wpAnyH_ready (rs := [8]) (by kernel_rfl) (by simp) ?_
        refine (AllReadyH.cons rfl (fun K hK => ?_) AllReadyH.nil)
        unfold fV at HT5
        go_simp
        refine HT5.out.mono ?_
        rintro e w6 ⟨bb, rfl, hbb, hb6⟩
        have HBB := Lib.hid hbb
        have HA6 := Lib.hid (HA5.out.below hb6)
        have HX6 := Lib.hid (HX5.out.below hb6)
        clear hbb hb6
        refine hK.out _ _ (HX6.out) (fun hHeld2 => ?_)
        clear hK K hHeld
        rename _ => hHeld
        try simp only [Act.put, stB, stZ, stS]
        refine tk 9 (some 6) (v := ?_) rfl rfl ?_ ?_
        rotate_left
        · (intro w _; go_simp; (try with_reducible rfl))
        simp only [Act.put, stB, stZ, stS]
        refine wpAnyH_done (by kernel_rfl) ?_ _
        (try simp only [Exit.inBlock, Exit.then])
        go_wp2_with fail
        go_ret
        refine ⟨bb, rfl, fun h => HBB.out ?_, ?_⟩
        · rw [HAC.out, HACR.out] at h
          exact (Prod.mk.inj h).2
        · rw [HAC.out, HACR.out]
          exact CtxA.from HBB0.out HC0.out.sa.lt HA6.out HC0.out.rb.lt
      by_cases hd5 : d = 5
      · subst hd5
        obtain ⟨⟨f, s1⟩, hs1⟩ : ∃ r, s.setCoef row col v.q = r := ⟨_, rfl⟩
        obtain ⟨⟨g, m1⟩, hm1⟩ : ∃ r, m.setCoef row col (p, q) = r := ⟨_, rfl⟩
        have HAC := Lib.hid (show s.act ⟨5, row, col, kd, (p, q), es⟩ = ((0, f), s1) by unfold AS.act; rw [if_neg (show ¬ (5 : Int) = 1 by decide), if_neg (show ¬ (5 : Int) = 2 by decide), if_neg (show ¬ (5 : Int) = 3 by decide), if_neg (show ¬ (5 : Int) = 4 by decide), if_pos rfl]; rw [← HVQ.out]; dsimp only; rw [hs1])
        have HACR := Lib.hid (show m.act ⟨5, row, col, kd, (p, q), es⟩ = ((0, g), m1) by unfold RM.act; rw [if_neg (show ¬ (5 : Int) = 1 by decide), if_neg (show ¬ (5 : Int) = 2 by decide), if_neg (show ¬ (5 : Int) = 3 by decide), if_neg (show ¬ (5 : Int) = 4 by decide), if_pos rfl]; dsimp only; rw [hm1])
        have hsa := as_setCoef (HC.out.below (Below.drawn wb 1)).sa HWF.out row col v (HO.out.below (Below.drawn wb 1)) HSM.out
        rw [hs1] at hsa
        have HSA := Lib.hid hsa
        have HM1 := Lib.hid hm1
        clear hsa hs1 hm1
        go_upto_region 25 with fail
        refine wp_region_held_drew (S := fun W => W.cell? ⟨xb, 1, none⟩ = some (.int .i64 row) ∧ W.cell? ⟨xb, 2, none⟩ = some (.int .i64 col) ∧ W.cell? ⟨xb, 3, none⟩ = some (.int .i64 kd) ∧ W.cell? ⟨xb, 4, none⟩ = some (.int .i64 p) ∧ W.cell? ⟨xb, 5, none⟩ = some (.int .i64 q) ∧ W.cell? ⟨vb, 0, none⟩ = some (.bool v.s) ∧ W.cell? ⟨vb, 1, none⟩ = some (.slice v.a v.l v.c) ∧ W.cell? ⟨vb, 2, none⟩ = some (.slice v.b v.m v.d)) (by kernel_rfl) (HXS.out) (fun hHeld => ?_)
        refine tk 0 (some 150) (v := ?_) rfl rfl ?_ ?_
        rotate_left
        · (intro w _; go_simp; (try with_reducible rfl))
        simp only [Act.put, stB, stZ, stS]
        refine tk 1 (some 151) (v := ?_) rfl rfl ?_ ?_
        rotate_left
        · (intro w _; go_simp; (try with_reducible rfl))
        simp only [Act.put, stB, stZ, stS]
        refine tk 2 (some 152) (v := ?_) rfl rfl ?_ ?_
        rotate_left
        · (intro w hSw; (try dsimp only at hSw); ((try obtain ⟨hS1, hS2, hS3, hS4, hS5, hS6, hS7, hS8⟩ := hSw); go_simp); (try with_reducible rfl))
        simp only [Act.put, stB, stZ, stS]
        refine tk 3 (some 153) (v := ?_) rfl rfl ?_ ?_
        rotate_left
        · (intro w _; go_simp; (try with_reducible rfl))
        simp only [Act.put, stB, stZ, stS]
        refine tk 4 (some 154) (v := ?_) rfl rfl ?_ ?_
        rotate_left
        · (intro w hSw; (try dsimp only at hSw); ((try obtain ⟨hS1, hS2, hS3, hS4, hS5, hS6, hS7, hS8⟩ := hSw); go_simp); (try with_reducible rfl))
        simp only [Act.put, stB, stZ, stS]
        refine tk 5 (some 155) (v := ?_) rfl rfl ?_ ?_
        rotate_left
        · (intro w hSw; (try dsimp only at hSw); ((try obtain ⟨hS1, hS2, hS3, hS4, hS5, hS6, hS7, hS8⟩ := hSw); go_simp); (try with_reducible rfl))
        simp only [Act.put, stB, stZ, stS]
        refine tk 7 (some 157) (v := ?_) rfl rfl ?_ ?_
        rotate_left
        · (intro w _; go_simp; (try with_reducible rfl))
        simp only [Act.put, stB, stZ, stS]
        refine tk 8 (some 158) (v := ?_) rfl rfl ?_ ?_
        rotate_left
        · (intro w _; go_simp; (try with_reducible rfl))
        simp only [Act.put, stB, stZ, stS]
        refine tk 9 (some 159) (v := ?_) rfl rfl ?_ ?_
        rotate_left
        · (intro w hSw; (try dsimp only at hSw); ((try obtain ⟨hS1, hS2, hS3, hS4, hS5, hS6, hS7, hS8⟩ := hSw); go_simp); (try with_reducible rfl))
        simp only [Act.put, stB, stZ, stS]
        refine tk 10 (some 160) (v := ?_) rfl rfl ?_ ?_
        rotate_left
        · (intro w _; go_simp; (try with_reducible rfl))
        simp only [Act.put, stB, stZ, stS]
        refine tk 11 (some 161) (v := ?_) rfl rfl ?_ ?_
        rotate_left
        · (intro w hSw; (try dsimp only at hSw); ((try obtain ⟨hS1, hS2, hS3, hS4, hS5, hS6, hS7, hS8⟩ := hSw); go_simp); (try with_reducible rfl))
        simp only [Act.put, stB, stZ, stS]
        refine tk 12 (some 162) (v := ?_) rfl rfl ?_ ?_
        rotate_left
        · (intro w _; go_simp; (try with_reducible rfl))
        simp only [Act.put, stB, stZ, stS]
        refine tk 13 (some 163) (v := ?_) rfl rfl ?_ ?_
        rotate_left
        · (intro w hSw; (try dsimp only at hSw); ((try obtain ⟨hS1, hS2, hS3, hS4, hS5, hS6, hS7, hS8⟩ := hSw); go_simp); (try with_reducible rfl))
        simp only [Act.put, stB, stZ, stS]
        refine wpAnyH_ready (rs := [6]) (by kernel_rfl) (by simp) ?_
        refine (AllReadyH.cons rfl (fun K hK => ?_) AllReadyH.nil)
        go_simp
        refine HSA.out.mono ?_
        rintro e w3 ⟨ev, rfl, he3, ha3⟩
        obtain ⟨G3, hc3, hg3, hk3⟩ := (HC.out.below (Below.drawn wb 1)).left1 ha3
        have hx3 := (HXS.out.below (Below.drawn wb 1)).keeps hk3 (fun h => HNX.out (.inl h)) fun h => HNV.out (.inl h)
        have HE4 := Lib.hid (show ErrV w3 wb.heap.size f ev from he3)
        have HC4 := Lib.hid hc3
        have HG3 := Lib.hid (show ∀ k, G3 k → G k ∨ wb.heap.size ≤ k from hg3)
        have HK3 := Lib.hid ((below_keeps (p := fun k => G k ∨ H k) (Below.drawn wb 1)).trans hk3 fun _ _ h => .inl h)
        have HX4 := Lib.hid hx3
        clear ha3 he3 hc3 hg3 hk3 hx3
        refine hK.out _ _ (HX4.out) (fun hHeld2 => ?_)
        clear hK K hHeld
        rename _ => hHeld
        try simp only [Act.put, stB, stZ, stS]
        refine wpAnyH_ready (rs := [14]) (by kernel_rfl) (by simp) ?_
        refine (AllReadyH.cons rfl (fun K hK => ?_) AllReadyH.nil)
        go_simp
        refine (value_any p q w3).mono ?_
        rintro e w4 ⟨rfl, hb4⟩
        replace HK3 := Lib.hid (HK3.out.trans (below_keeps (p := fun _ => False) hb4) fun _ _ h => h.elim)
        replace HC4 := Lib.hid (HC4.out.below hb4)
        replace HE4 := Lib.hid (HE4.out.below hb4)
        replace HX4 := Lib.hid (HX4.out.below hb4)
        have hra := r_setCoef rb H m row col (p, q) w4 HC4.out.rb HRW.out (by have := HCL.out; omega)
        rw [HM1.out] at hra
        have HRA := Lib.hid hra
        clear hra
        clear hb4
        refine hK.out _ _ (HX4.out) (fun hHeld2 => ?_)
        clear hK K hHeld
        rename _ => hHeld
        try simp only [Act.put, stB, stZ, stS]
        refine wpAnyH_ready (rs := [15]) (by kernel_rfl) (by simp) ?_
        refine (AllReadyH.cons rfl (fun K hK => ?_) AllReadyH.nil)
        go_simp
        refine HRA.out.mono ?_
        rintro e w5 ⟨rfl, ha5⟩
        have hk5 : Keeps w4 w5 H := by obtain ⟨_, _, _, h⟩ := ha5; exact h
        have he5 := ErrV.keeps HE4.out hk5 fun k hk hH => by have := HC.out.rb.lt k hH; omega
        have hA5 := CtxA.step HG3.out (fun k h => .inl h) HK3.out (HC4.out.right ha5)
        have hx5 := HX4.out.keeps hk5 (fun h => HNX.out (.inr h)) fun h => HNV.out (.inr h)
        have hb5 : Below w0.heap.size w0 w5 := by obtain ⟨_, _, h, _⟩ := hA5; exact h.bl
        have HT5 := Lib.hid (ltold_any f g ev wb.heap.size w5 (HG.out.below hb5 HG.out.lt) he5)
        have HA5 := Lib.hid hA5
        have HX5 := Lib.hid hx5
        clear ha5 hk5 he5 hA5 hx5 hb5
        dsimp only
        refine hK.out _ _ (HX5.out) (fun hHeld2 => ?_)
        clear hK K hHeld
        rename _ => hHeld
        try simp only [Act.put, stB, stZ, stS]
        refine wpAnyH_ready (rs := [16]) (by kernel_rfl) (by simp) ?_
        refine (AllReadyH.cons rfl (fun K hK => ?_) AllReadyH.nil)
        unfold fV at HT5
        go_simp
        refine HT5.out.mono ?_
        rintro e w6 ⟨bb, rfl, hbb, hb6⟩
        have HBB := Lib.hid hbb
        have HA6 := Lib.hid (HA5.out.below hb6)
        have HX6 := Lib.hid (HX5.out.below hb6)
        clear hbb hb6
        refine hK.out _ _ (HX6.out) (fun hHeld2 => ?_)
        clear hK K hHeld
        rename _ => hHeld
        try simp only [Act.put, stB, stZ, stS]
        refine tk 17 (some 6) (v := ?_) rfl rfl ?_ ?_
        rotate_left
        · (intro w _; go_simp; (try with_reducible rfl))
        simp only [Act.put, stB, stZ, stS]
        refine wpAnyH_done (by kernel_rfl) ?_ _
        (try simp only [Exit.inBlock, Exit.then])
        go_wp2_with fail
        go_ret
        refine ⟨bb, rfl, fun h => HBB.out ?_, ?_⟩
        · rw [HAC.out, HACR.out] at h
          exact (Prod.mk.inj h).2
        · rw [HAC.out, HACR.out]
          exact CtxA.from HBB0.out HC0.out.sa.lt HA6.out HC0.out.rb.lt
      by_cases hd6 : d = 6
      · subst hd6
        obtain ⟨⟨f, s1⟩, hs1⟩ : ∃ r, s.setRhs row v.q = r := ⟨_, rfl⟩
        obtain ⟨⟨g, m1⟩, hm1⟩ : ∃ r, m.setRhs row (p, q) = r := ⟨_, rfl⟩
        have HAC := Lib.hid (show s.act ⟨6, row, col, kd, (p, q), es⟩ = ((0, f), s1) by unfold AS.act; rw [if_neg (show ¬ (6 : Int) = 1 by decide), if_neg (show ¬ (6 : Int) = 2 by decide), if_neg (show ¬ (6 : Int) = 3 by decide), if_neg (show ¬ (6 : Int) = 4 by decide), if_neg (show ¬ (6 : Int) = 5 by decide), if_pos rfl]; rw [← HVQ.out]; dsimp only; rw [hs1])
        have HACR := Lib.hid (show m.act ⟨6, row, col, kd, (p, q), es⟩ = ((0, g), m1) by unfold RM.act; rw [if_neg (show ¬ (6 : Int) = 1 by decide), if_neg (show ¬ (6 : Int) = 2 by decide), if_neg (show ¬ (6 : Int) = 3 by decide), if_neg (show ¬ (6 : Int) = 4 by decide), if_neg (show ¬ (6 : Int) = 5 by decide), if_pos rfl]; dsimp only; rw [hm1])
        have hsa := as_setRhs (HC.out.below (Below.drawn wb 1)).sa row v (HO.out.below (Below.drawn wb 1)) HSM.out
        rw [hs1] at hsa
        have HSA := Lib.hid hsa
        have HM1 := Lib.hid hm1
        clear hsa hs1 hm1
        go_upto_region 27 with fail
        refine wp_region_held_drew (S := fun W => W.cell? ⟨xb, 1, none⟩ = some (.int .i64 row) ∧ W.cell? ⟨xb, 2, none⟩ = some (.int .i64 col) ∧ W.cell? ⟨xb, 3, none⟩ = some (.int .i64 kd) ∧ W.cell? ⟨xb, 4, none⟩ = some (.int .i64 p) ∧ W.cell? ⟨xb, 5, none⟩ = some (.int .i64 q) ∧ W.cell? ⟨vb, 0, none⟩ = some (.bool v.s) ∧ W.cell? ⟨vb, 1, none⟩ = some (.slice v.a v.l v.c) ∧ W.cell? ⟨vb, 2, none⟩ = some (.slice v.b v.m v.d)) (by kernel_rfl) (HXS.out) (fun hHeld => ?_)
        refine tk 0 (some 169) (v := ?_) rfl rfl ?_ ?_
        rotate_left
        · (intro w _; go_simp; (try with_reducible rfl))
        simp only [Act.put, stB, stZ, stS]
        refine tk 1 (some 170) (v := ?_) rfl rfl ?_ ?_
        rotate_left
        · (intro w _; go_simp; (try with_reducible rfl))
        simp only [Act.put, stB, stZ, stS]
        refine tk 2 (some 171) (v := ?_) rfl rfl ?_ ?_
        rotate_left
        · (intro w hSw; (try dsimp only at hSw); ((try obtain ⟨hS1, hS2, hS3, hS4, hS5, hS6, hS7, hS8⟩ := hSw); go_simp); (try with_reducible rfl))
        simp only [Act.put, stB, stZ, stS]
        refine tk 3 (some 172) (v := ?_) rfl rfl ?_ ?_
        rotate_left
        · (intro w hSw; (try dsimp only at hSw); ((try obtain ⟨hS1, hS2, hS3, hS4, hS5, hS6, hS7, hS8⟩ := hSw); go_simp); (try with_reducible rfl))
        simp only [Act.put, stB, stZ, stS]
        refine tk 5 (some 174) (v := ?_) rfl rfl ?_ ?_
        rotate_left
        · (intro w _; go_simp; (try with_reducible rfl))
        simp only [Act.put, stB, stZ, stS]
        refine tk 6 (some 175) (v := ?_) rfl rfl ?_ ?_
        rotate_left
        · (intro w _; go_simp; (try with_reducible rfl))
        simp only [Act.put, stB, stZ, stS]
        refine tk 7 (some 176) (v := ?_) rfl rfl ?_ ?_
        rotate_left
        · (intro w hSw; (try dsimp only at hSw); ((try obtain ⟨hS1, hS2, hS3, hS4, hS5, hS6, hS7, hS8⟩ := hSw); go_simp); (try with_reducible rfl))
        simp only [Act.put, stB, stZ, stS]
        refine tk 8 (some 177) (v := ?_) rfl rfl ?_ ?_
        rotate_left
        · (intro w _; go_simp; (try with_reducible rfl))
        simp only [Act.put, stB, stZ, stS]
        refine tk 9 (some 178) (v := ?_) rfl rfl ?_ ?_
        rotate_left
        · (intro w hSw; (try dsimp only at hSw); ((try obtain ⟨hS1, hS2, hS3, hS4, hS5, hS6, hS7, hS8⟩ := hSw); go_simp); (try with_reducible rfl))
        simp only [Act.put, stB, stZ, stS]
        refine wpAnyH_ready (rs := [4]) (by kernel_rfl) (by simp) ?_
        refine (AllReadyH.cons rfl (fun K hK => ?_) AllReadyH.nil)
        go_simp
        refine HSA.out.mono ?_
        rintro e w3 ⟨ev, rfl, he3, ha3⟩
        obtain ⟨G3, hc3, hg3, hk3⟩ := (HC.out.below (Below.drawn wb 1)).left1 ha3
        have hx3 := (HXS.out.below (Below.drawn wb 1)).keeps hk3 (fun h => HNX.out (.inl h)) fun h => HNV.out (.inl h)
        have HE4 := Lib.hid (show ErrV w3 wb.heap.size f ev from he3)
        have HC4 := Lib.hid hc3
        have HG3 := Lib.hid (show ∀ k, G3 k → G k ∨ wb.heap.size ≤ k from hg3)
        have HK3 := Lib.hid ((below_keeps (p := fun k => G k ∨ H k) (Below.drawn wb 1)).trans hk3 fun _ _ h => .inl h)
        have HX4 := Lib.hid hx3
        clear ha3 he3 hc3 hg3 hk3 hx3
        refine hK.out _ _ (HX4.out) (fun hHeld2 => ?_)
        clear hK K hHeld
        rename _ => hHeld
        try simp only [Act.put, stB, stZ, stS]
        refine wpAnyH_ready (rs := [10]) (by kernel_rfl) (by simp) ?_
        refine (AllReadyH.cons rfl (fun K hK => ?_) AllReadyH.nil)
        go_simp
        refine (value_any p q w3).mono ?_
        rintro e w4 ⟨rfl, hb4⟩
        replace HK3 := Lib.hid (HK3.out.trans (below_keeps (p := fun _ => False) hb4) fun _ _ h => h.elim)
        replace HC4 := Lib.hid (HC4.out.below hb4)
        replace HE4 := Lib.hid (HE4.out.below hb4)
        replace HX4 := Lib.hid (HX4.out.below hb4)
        have hra := r_setRhs rb H m row (p, q) w4 HC4.out.rb HRW.out
        rw [HM1.out] at hra
        have HRA := Lib.hid hra
        clear hra
        clear hb4
        refine hK.out _ _ (HX4.out) (fun hHeld2 => ?_)
        clear hK K hHeld
        rename _ => hHeld
        try simp only [Act.put, stB, stZ, stS]
        refine wpAnyH_ready (rs := [11]) (by kernel_rfl) (by simp) ?_
        refine (AllReadyH.cons rfl (fun K hK => ?_) AllReadyH.nil)
        go_simp
        refine HRA.out.mono ?_
        rintro e w5 ⟨rfl, ha5⟩
        have hk5 : Keeps w4 w5 H := by obtain ⟨_, _, _, h⟩ := ha5; exact h
        have he5 := ErrV.keeps HE4.out hk5 fun k hk hH => by have := HC.out.rb.lt k hH; omega
        have hA5 := CtxA.step HG3.out (fun k h => .inl h) HK3.out (HC4.out.right ha5)
        have hx5 := HX4.out.keeps hk5 (fun h => HNX.out (.inr h)) fun h => HNV.out (.inr h)
        have hb5 : Below w0.heap.size w0 w5 := by obtain ⟨_, _, h, _⟩ := hA5; exact h.bl
        have HT5 := Lib.hid (ltold_any f g ev wb.heap.size w5 (HG.out.below hb5 HG.out.lt) he5)
        have HA5 := Lib.hid hA5
        have HX5 := Lib.hid hx5
        clear ha5 hk5 he5 hA5 hx5 hb5
        dsimp only
        refine hK.out _ _ (HX5.out) (fun hHeld2 => ?_)
        clear hK K hHeld
        rename _ => hHeld
        try simp only [Act.put, stB, stZ, stS]
        refine wpAnyH_ready (rs := [12]) (by kernel_rfl) (by simp) ?_
        refine (AllReadyH.cons rfl (fun K hK => ?_) AllReadyH.nil)
        unfold fV at HT5
        go_simp
        refine HT5.out.mono ?_
        rintro e w6 ⟨bb, rfl, hbb, hb6⟩
        have HBB := Lib.hid hbb
        have HA6 := Lib.hid (HA5.out.below hb6)
        have HX6 := Lib.hid (HX5.out.below hb6)
        clear hbb hb6
        refine hK.out _ _ (HX6.out) (fun hHeld2 => ?_)
        clear hK K hHeld
        rename _ => hHeld
        try simp only [Act.put, stB, stZ, stS]
        refine tk 13 (some 6) (v := ?_) rfl rfl ?_ ?_
        rotate_left
        · (intro w _; go_simp; (try with_reducible rfl))
        simp only [Act.put, stB, stZ, stS]
        refine wpAnyH_done (by kernel_rfl) ?_ _
        (try simp only [Exit.inBlock, Exit.then])
        go_wp2_with fail
        go_ret
        refine ⟨bb, rfl, fun h => HBB.out ?_, ?_⟩
        · rw [HAC.out, HACR.out] at h
          exact (Prod.mk.inj h).2
        · rw [HAC.out, HACR.out]
          exact CtxA.from HBB0.out HC0.out.sa.lt HA6.out HC0.out.rb.lt
      by_cases hd7 : d = 7
      · subst hd7
        obtain ⟨⟨f, s1⟩, hs1⟩ : ∃ r, s.setKind row kd = r := ⟨_, rfl⟩
        obtain ⟨⟨g, m1⟩, hm1⟩ : ∃ r, m.setKind row kd = r := ⟨_, rfl⟩
        have HAC := Lib.hid (show s.act ⟨7, row, col, kd, (p, q), es⟩ = ((0, f), s1) by unfold AS.act; rw [if_neg (show ¬ (7 : Int) = 1 by decide), if_neg (show ¬ (7 : Int) = 2 by decide), if_neg (show ¬ (7 : Int) = 3 by decide), if_neg (show ¬ (7 : Int) = 4 by decide), if_neg (show ¬ (7 : Int) = 5 by decide), if_neg (show ¬ (7 : Int) = 6 by decide), if_pos rfl]; dsimp only; rw [hs1])
        have HACR := Lib.hid (show m.act ⟨7, row, col, kd, (p, q), es⟩ = ((0, g), m1) by unfold RM.act; rw [if_neg (show ¬ (7 : Int) = 1 by decide), if_neg (show ¬ (7 : Int) = 2 by decide), if_neg (show ¬ (7 : Int) = 3 by decide), if_neg (show ¬ (7 : Int) = 4 by decide), if_neg (show ¬ (7 : Int) = 5 by decide), if_neg (show ¬ (7 : Int) = 6 by decide), if_pos rfl]; dsimp only; rw [hm1])
        have hsa := as_setKind (HC.out.below (Below.drawn wb 1)).sa row kd
        rw [hs1] at hsa
        have HSA := Lib.hid hsa
        have HM1 := Lib.hid hm1
        clear hsa hs1 hm1
        go_upto_region 29 with fail
        refine wp_region_held_drew (S := fun W => W.cell? ⟨xb, 1, none⟩ = some (.int .i64 row) ∧ W.cell? ⟨xb, 2, none⟩ = some (.int .i64 col) ∧ W.cell? ⟨xb, 3, none⟩ = some (.int .i64 kd) ∧ W.cell? ⟨xb, 4, none⟩ = some (.int .i64 p) ∧ W.cell? ⟨xb, 5, none⟩ = some (.int .i64 q) ∧ W.cell? ⟨vb, 0, none⟩ = some (.bool v.s) ∧ W.cell? ⟨vb, 1, none⟩ = some (.slice v.a v.l v.c) ∧ W.cell? ⟨vb, 2, none⟩ = some (.slice v.b v.m v.d)) (by kernel_rfl) (HXS.out) (fun hHeld => ?_)
        refine tk 0 (some 184) (v := ?_) rfl rfl ?_ ?_
        rotate_left
        · (intro w _; go_simp; (try with_reducible rfl))
        simp only [Act.put, stB, stZ, stS]
        refine tk 1 (some 185) (v := ?_) rfl rfl ?_ ?_
        rotate_left
        · (intro w _; go_simp; (try with_reducible rfl))
        simp only [Act.put, stB, stZ, stS]
        refine tk 2 (some 186) (v := ?_) rfl rfl ?_ ?_
        rotate_left
        · (intro w hSw; (try dsimp only at hSw); ((try obtain ⟨hS1, hS2, hS3, hS4, hS5, hS6, hS7, hS8⟩ := hSw); go_simp); (try with_reducible rfl))
        simp only [Act.put, stB, stZ, stS]
        refine tk 3 (some 187) (v := ?_) rfl rfl ?_ ?_
        rotate_left
        · (intro w _; go_simp; (try with_reducible rfl))
        simp only [Act.put, stB, stZ, stS]
        refine tk 4 (some 188) (v := ?_) rfl rfl ?_ ?_
        rotate_left
        · (intro w hSw; (try dsimp only at hSw); ((try obtain ⟨hS1, hS2, hS3, hS4, hS5, hS6, hS7, hS8⟩ := hSw); go_simp); (try with_reducible rfl))
        simp only [Act.put, stB, stZ, stS]
        refine tk 6 (some 190) (v := ?_) rfl rfl ?_ ?_
        rotate_left
        · (intro w _; go_simp; (try with_reducible rfl))
        simp only [Act.put, stB, stZ, stS]
        refine tk 7 (some 191) (v := ?_) rfl rfl ?_ ?_
        rotate_left
        · (intro w _; go_simp; (try with_reducible rfl))
        simp only [Act.put, stB, stZ, stS]
        refine tk 8 (some 192) (v := ?_) rfl rfl ?_ ?_
        rotate_left
        · (intro w hSw; (try dsimp only at hSw); ((try obtain ⟨hS1, hS2, hS3, hS4, hS5, hS6, hS7, hS8⟩ := hSw); go_simp); (try with_reducible rfl))
        simp only [Act.put, stB, stZ, stS]
        refine tk 9 (some 193) (v := ?_) rfl rfl ?_ ?_
        rotate_left
        · (intro w _; go_simp; (try with_reducible rfl))
        simp only [Act.put, stB, stZ, stS]
        refine tk 10 (some 194) (v := ?_) rfl rfl ?_ ?_
        rotate_left
        · (intro w hSw; (try dsimp only at hSw); ((try obtain ⟨hS1, hS2, hS3, hS4, hS5, hS6, hS7, hS8⟩ := hSw); go_simp); (try with_reducible rfl))
        simp only [Act.put, stB, stZ, stS]
        refine wpAnyH_ready (rs := [5]) (by kernel_rfl) (by simp) ?_
        refine (AllReadyH.cons rfl (fun K hK => ?_) AllReadyH.nil)
        go_simp
        refine HSA.out.mono ?_
        rintro e w3 ⟨ev, rfl, he3, ha3⟩
        obtain ⟨G3, hc3, hg3, hk3⟩ := (HC.out.below (Below.drawn wb 1)).left1 ha3
        have hx3 := (HXS.out.below (Below.drawn wb 1)).keeps hk3 (fun h => HNX.out (.inl h)) fun h => HNV.out (.inl h)
        have HE4 := Lib.hid (show ErrV w3 wb.heap.size f ev from he3)
        have HC4 := Lib.hid hc3
        have HG3 := Lib.hid (show ∀ k, G3 k → G k ∨ wb.heap.size ≤ k from hg3)
        have HK3 := Lib.hid ((below_keeps (p := fun k => G k ∨ H k) (Below.drawn wb 1)).trans hk3 fun _ _ h => .inl h)
        have HX4 := Lib.hid hx3
        clear ha3 he3 hc3 hg3 hk3 hx3
        have hra := r_setKind rb H m row kd w3 HC4.out.rb HRW.out
        rw [HM1.out] at hra
        have HRA := Lib.hid hra
        clear hra
        refine hK.out _ _ (HX4.out) (fun hHeld2 => ?_)
        clear hK K hHeld
        rename _ => hHeld
        try simp only [Act.put, stB, stZ, stS]
        refine wpAnyH_ready (rs := [11]) (by kernel_rfl) (by simp) ?_
        refine (AllReadyH.cons rfl (fun K hK => ?_) AllReadyH.nil)
        go_simp
        refine HRA.out.mono ?_
        rintro e w5 ⟨rfl, ha5⟩
        have hk5 : Keeps w3 w5 H := by obtain ⟨_, _, _, h⟩ := ha5; exact h
        have he5 := ErrV.keeps HE4.out hk5 fun k hk hH => by have := HC.out.rb.lt k hH; omega
        have hA5 := CtxA.step HG3.out (fun k h => .inl h) HK3.out (HC4.out.right ha5)
        have hx5 := HX4.out.keeps hk5 (fun h => HNX.out (.inr h)) fun h => HNV.out (.inr h)
        have hb5 : Below w0.heap.size w0 w5 := by obtain ⟨_, _, h, _⟩ := hA5; exact h.bl
        have HT5 := Lib.hid (ltold_any f g ev wb.heap.size w5 (HG.out.below hb5 HG.out.lt) he5)
        have HA5 := Lib.hid hA5
        have HX5 := Lib.hid hx5
        clear ha5 hk5 he5 hA5 hx5 hb5
        dsimp only
        refine hK.out _ _ (HX5.out) (fun hHeld2 => ?_)
        clear hK K hHeld
        rename _ => hHeld
        try simp only [Act.put, stB, stZ, stS]
        refine wpAnyH_ready (rs := [12]) (by kernel_rfl) (by simp) ?_
        refine (AllReadyH.cons rfl (fun K hK => ?_) AllReadyH.nil)
        unfold fV at HT5
        go_simp
        refine HT5.out.mono ?_
        rintro e w6 ⟨bb, rfl, hbb, hb6⟩
        have HBB := Lib.hid hbb
        have HA6 := Lib.hid (HA5.out.below hb6)
        have HX6 := Lib.hid (HX5.out.below hb6)
        clear hbb hb6
        refine hK.out _ _ (HX6.out) (fun hHeld2 => ?_)
        clear hK K hHeld
        rename _ => hHeld
        try simp only [Act.put, stB, stZ, stS]
        refine tk 13 (some 6) (v := ?_) rfl rfl ?_ ?_
        rotate_left
        · (intro w _; go_simp; (try with_reducible rfl))
        simp only [Act.put, stB, stZ, stS]
        refine wpAnyH_done (by kernel_rfl) ?_ _
        (try simp only [Exit.inBlock, Exit.then])
        go_wp2_with fail
        go_ret
        refine ⟨bb, rfl, fun h => HBB.out ?_, ?_⟩
        · rw [HAC.out, HACR.out] at h
          exact (Prod.mk.inj h).2
        · rw [HAC.out, HACR.out]
          exact CtxA.from HBB0.out HC0.out.sa.lt HA6.out HC0.out.rb.lt
      by_cases hd8 : d = 8
      · subst hd8
        obtain ⟨⟨f, s1⟩, hs1⟩ : ∃ r, s.setCost col v.q = r := ⟨_, rfl⟩
        obtain ⟨⟨g, m1⟩, hm1⟩ : ∃ r, m.setCost col (p, q) = r := ⟨_, rfl⟩
        have HAC := Lib.hid (show s.act ⟨8, row, col, kd, (p, q), es⟩ = ((0, f), s1) by unfold AS.act; rw [if_neg (show ¬ (8 : Int) = 1 by decide), if_neg (show ¬ (8 : Int) = 2 by decide), if_neg (show ¬ (8 : Int) = 3 by decide), if_neg (show ¬ (8 : Int) = 4 by decide), if_neg (show ¬ (8 : Int) = 5 by decide), if_neg (show ¬ (8 : Int) = 6 by decide), if_neg (show ¬ (8 : Int) = 7 by decide), if_pos rfl]; rw [← HVQ.out]; dsimp only; rw [hs1])
        have HACR := Lib.hid (show m.act ⟨8, row, col, kd, (p, q), es⟩ = ((0, g), m1) by unfold RM.act; rw [if_neg (show ¬ (8 : Int) = 1 by decide), if_neg (show ¬ (8 : Int) = 2 by decide), if_neg (show ¬ (8 : Int) = 3 by decide), if_neg (show ¬ (8 : Int) = 4 by decide), if_neg (show ¬ (8 : Int) = 5 by decide), if_neg (show ¬ (8 : Int) = 6 by decide), if_neg (show ¬ (8 : Int) = 7 by decide), if_pos rfl]; dsimp only; rw [hm1])
        have hsa := as_setCost (HC.out.below (Below.drawn wb 1)).sa col v (HO.out.below (Below.drawn wb 1)) HSM.out
        rw [hs1] at hsa
        have HSA := Lib.hid hsa
        have HM1 := Lib.hid hm1
        clear hsa hs1 hm1
        go_upto_region 31 with fail
        refine wp_region_held_drew (S := fun W => W.cell? ⟨xb, 1, none⟩ = some (.int .i64 row) ∧ W.cell? ⟨xb, 2, none⟩ = some (.int .i64 col) ∧ W.cell? ⟨xb, 3, none⟩ = some (.int .i64 kd) ∧ W.cell? ⟨xb, 4, none⟩ = some (.int .i64 p) ∧ W.cell? ⟨xb, 5, none⟩ = some (.int .i64 q) ∧ W.cell? ⟨vb, 0, none⟩ = some (.bool v.s) ∧ W.cell? ⟨vb, 1, none⟩ = some (.slice v.a v.l v.c) ∧ W.cell? ⟨vb, 2, none⟩ = some (.slice v.b v.m v.d)) (by kernel_rfl) (HXS.out) (fun hHeld => ?_)
        refine tk 0 (some 199) (v := ?_) rfl rfl ?_ ?_
        rotate_left
        · (intro w _; go_simp; (try with_reducible rfl))
        simp only [Act.put, stB, stZ, stS]
        refine tk 1 (some 200) (v := ?_) rfl rfl ?_ ?_
        rotate_left
        · (intro w _; go_simp; (try with_reducible rfl))
        simp only [Act.put, stB, stZ, stS]
        refine tk 2 (some 201) (v := ?_) rfl rfl ?_ ?_
        rotate_left
        · (intro w hSw; (try dsimp only at hSw); ((try obtain ⟨hS1, hS2, hS3, hS4, hS5, hS6, hS7, hS8⟩ := hSw); go_simp); (try with_reducible rfl))
        simp only [Act.put, stB, stZ, stS]
        refine tk 3 (some 202) (v := ?_) rfl rfl ?_ ?_
        rotate_left
        · (intro w hSw; (try dsimp only at hSw); ((try obtain ⟨hS1, hS2, hS3, hS4, hS5, hS6, hS7, hS8⟩ := hSw); go_simp); (try with_reducible rfl))
        simp only [Act.put, stB, stZ, stS]
        refine tk 5 (some 204) (v := ?_) rfl rfl ?_ ?_
        rotate_left
        · (intro w _; go_simp; (try with_reducible rfl))
        simp only [Act.put, stB, stZ, stS]
        refine tk 6 (some 205) (v := ?_) rfl rfl ?_ ?_
        rotate_left
        · (intro w _; go_simp; (try with_reducible rfl))
        simp only [Act.put, stB, stZ, stS]
        refine tk 7 (some 206) (v := ?_) rfl rfl ?_ ?_
        rotate_left
        · (intro w hSw; (try dsimp only at hSw); ((try obtain ⟨hS1, hS2, hS3, hS4, hS5, hS6, hS7, hS8⟩ := hSw); go_simp); (try with_reducible rfl))
        simp only [Act.put, stB, stZ, stS]
        refine tk 8 (some 207) (v := ?_) rfl rfl ?_ ?_
        rotate_left
        · (intro w _; go_simp; (try with_reducible rfl))
        simp only [Act.put, stB, stZ, stS]
        refine tk 9 (some 208) (v := ?_) rfl rfl ?_ ?_
        rotate_left
        · (intro w hSw; (try dsimp only at hSw); ((try obtain ⟨hS1, hS2, hS3, hS4, hS5, hS6, hS7, hS8⟩ := hSw); go_simp); (try with_reducible rfl))
        simp only [Act.put, stB, stZ, stS]
        refine wpAnyH_ready (rs := [4]) (by kernel_rfl) (by simp) ?_
        refine (AllReadyH.cons rfl (fun K hK => ?_) AllReadyH.nil)
        go_simp
        refine HSA.out.mono ?_
        rintro e w3 ⟨ev, rfl, he3, ha3⟩
        obtain ⟨G3, hc3, hg3, hk3⟩ := (HC.out.below (Below.drawn wb 1)).left1 ha3
        have hx3 := (HXS.out.below (Below.drawn wb 1)).keeps hk3 (fun h => HNX.out (.inl h)) fun h => HNV.out (.inl h)
        have HE4 := Lib.hid (show ErrV w3 wb.heap.size f ev from he3)
        have HC4 := Lib.hid hc3
        have HG3 := Lib.hid (show ∀ k, G3 k → G k ∨ wb.heap.size ≤ k from hg3)
        have HK3 := Lib.hid ((below_keeps (p := fun k => G k ∨ H k) (Below.drawn wb 1)).trans hk3 fun _ _ h => .inl h)
        have HX4 := Lib.hid hx3
        clear ha3 he3 hc3 hg3 hk3 hx3
        refine hK.out _ _ (HX4.out) (fun hHeld2 => ?_)
        clear hK K hHeld
        rename _ => hHeld
        try simp only [Act.put, stB, stZ, stS]
        refine wpAnyH_ready (rs := [10]) (by kernel_rfl) (by simp) ?_
        refine (AllReadyH.cons rfl (fun K hK => ?_) AllReadyH.nil)
        go_simp
        refine (value_any p q w3).mono ?_
        rintro e w4 ⟨rfl, hb4⟩
        replace HK3 := Lib.hid (HK3.out.trans (below_keeps (p := fun _ => False) hb4) fun _ _ h => h.elim)
        replace HC4 := Lib.hid (HC4.out.below hb4)
        replace HE4 := Lib.hid (HE4.out.below hb4)
        replace HX4 := Lib.hid (HX4.out.below hb4)
        have hra := r_setCost rb H m col (p, q) w4 HC4.out.rb HRW.out
        rw [HM1.out] at hra
        have HRA := Lib.hid hra
        clear hra
        clear hb4
        refine hK.out _ _ (HX4.out) (fun hHeld2 => ?_)
        clear hK K hHeld
        rename _ => hHeld
        try simp only [Act.put, stB, stZ, stS]
        refine wpAnyH_ready (rs := [11]) (by kernel_rfl) (by simp) ?_
        refine (AllReadyH.cons rfl (fun K hK => ?_) AllReadyH.nil)
        go_simp
        refine HRA.out.mono ?_
        rintro e w5 ⟨rfl, ha5⟩
        have hk5 : Keeps w4 w5 H := by obtain ⟨_, _, _, h⟩ := ha5; exact h
        have he5 := ErrV.keeps HE4.out hk5 fun k hk hH => by have := HC.out.rb.lt k hH; omega
        have hA5 := CtxA.step HG3.out (fun k h => .inl h) HK3.out (HC4.out.right ha5)
        have hx5 := HX4.out.keeps hk5 (fun h => HNX.out (.inr h)) fun h => HNV.out (.inr h)
        have hb5 : Below w0.heap.size w0 w5 := by obtain ⟨_, _, h, _⟩ := hA5; exact h.bl
        have HT5 := Lib.hid (ltold_any f g ev wb.heap.size w5 (HG.out.below hb5 HG.out.lt) he5)
        have HA5 := Lib.hid hA5
        have HX5 := Lib.hid hx5
        clear ha5 hk5 he5 hA5 hx5 hb5
        dsimp only
        refine hK.out _ _ (HX5.out) (fun hHeld2 => ?_)
        clear hK K hHeld
        rename _ => hHeld
        try simp only [Act.put, stB, stZ, stS]
        refine wpAnyH_ready (rs := [12]) (by kernel_rfl) (by simp) ?_
        refine (AllReadyH.cons rfl (fun K hK => ?_) AllReadyH.nil)
        unfold fV at HT5
        go_simp
        refine HT5.out.mono ?_
        rintro e w6 ⟨bb, rfl, hbb, hb6⟩
        have HBB := Lib.hid hbb
        have HA6 := Lib.hid (HA5.out.below hb6)
        have HX6 := Lib.hid (HX5.out.below hb6)
        clear hbb hb6
        refine hK.out _ _ (HX6.out) (fun hHeld2 => ?_)
        clear hK K hHeld
        rename _ => hHeld
        try simp only [Act.put, stB, stZ, stS]
        refine tk 13 (some 6) (v := ?_) rfl rfl ?_ ?_
        rotate_left
        · (intro w _; go_simp; (try with_reducible rfl))
        simp only [Act.put, stB, stZ, stS]
        refine wpAnyH_done (by kernel_rfl) ?_ _
        (try simp only [Exit.inBlock, Exit.then])
        go_wp2_with fail
        go_ret
        refine ⟨bb, rfl, fun h => HBB.out ?_, ?_⟩
        · rw [HAC.out, HACR.out] at h
          exact (Prod.mk.inj h).2
        · rw [HAC.out, HACR.out]
          exact CtxA.from HBB0.out HC0.out.sa.lt HA6.out HC0.out.rb.lt
      go_wp2
      go_ret
      have e1 : (s.act ⟨d, row, col, kd, (p, q), es⟩) = ((0, noF), s) := by unfold AS.act; rw [if_neg hd1, if_neg hd2, if_neg hd3, if_neg hd4, if_neg hd5, if_neg hd6, if_neg hd7, if_neg hd8]
      have e2 : (m.act ⟨d, row, col, kd, (p, q), es⟩) = ((0, noF), m) := by unfold RM.act; rw [if_neg hd1, if_neg hd2, if_neg hd3, if_neg hd4, if_neg hd5, if_neg hd6, if_neg hd7, if_neg hd8]
      refine ⟨true, rfl, fun _ => rfl, ?_⟩
      rw [e1, e2]
      exact CtxA.of_below HC0.out HBB0.out
end Go.Proofs.YtaehklhbokocbaaGreatDoor
