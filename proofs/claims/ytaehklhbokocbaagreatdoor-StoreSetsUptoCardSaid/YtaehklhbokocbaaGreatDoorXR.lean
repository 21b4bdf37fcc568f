/-
  What the laws of a store stand on, part R: contracts and plain laws of RModel, RAt, RSet, RCells, RDrop, RSetCoef, RAddRow; the conditions are each law's own.
-/
import Derived.Test.YtaehklhbokocbaaGreatDoorXC
import Derived.Test.YtaehklhbokocbaaGreatDoorXP
import Derived.Deep.RegionHeld3
import Derived.Deep.RegionLaw
import Derived.Deep.DeepCutAuto
set_option linter.unusedVariables false
set_option linter.unusedSimpArgs false
namespace Go.Proofs.YtaehklhbokocbaaGreatDoor
open Go.RowKit
def vCells (v : Int × Int) : List Value := [IV v.1, IV v.2]
def cCells (x : RC) : List Value := [IV x.row, IV x.col, IV x.v.1, IV x.v.2]
theorem vCells_len (v : Int × Int) : (vCells v).length = 2 := rfl
theorem cCells_len (x : RC) : (cCells x).length = 4 := rfl
structure RH where
  a0 : Option Addr
  a1 : Option Addr
  a2 : Option Addr
  a3 : Option Addr
  a4 : Option Addr
  a5 : Option Addr
  c0 : Nat
  c1 : Nat
  c2 : Nat
  c3 : Nat
  c4 : Nat
  c5 : Nat
def RH.hs (h : RH) (m : RM) : List Value := [.slice h.a0 m.rows.length h.c0, .slice h.a1 m.cols.length h.c1, .slice h.a2 m.kinds.length h.c2, .slice h.a3 m.rhs.length h.c3, .slice h.a4 m.costs.length h.c4, .slice h.a5 m.cells.length h.c5, .int .i64 m.lr, .int .i64 m.lc]
def RH.ps (h : RH) (m : RM) : List Pc := [⟨.slice h.a0 m.rows.length h.c0, 3, 1, m.rows.length, m.rows.map IV⟩, ⟨.slice h.a1 m.cols.length h.c1, 3, 1, m.cols.length, m.cols.map IV⟩, ⟨.slice h.a2 m.kinds.length h.c2, 34, 1, m.kinds.length, m.kinds.map IV⟩, ⟨.slice h.a3 m.rhs.length h.c3, 97, 2, m.rhs.length, m.rhs.flatMap vCells⟩, ⟨.slice h.a4 m.costs.length h.c4, 97, 2, m.costs.length, m.costs.flatMap vCells⟩, ⟨.slice h.a5 m.cells.length h.c5, 148, 4, m.cells.length, m.cells.flatMap cCells⟩]
abbrev RBx (w : World) (rb : Nat) (H : Nat → Prop) (h : RH) (m : RM) : Prop := Box w rb 32 H (h.hs m) (h.ps m)
abbrev RAx (w : World) (rb : Nat) (H : Nat → Prop) (h : RH) (m : RM) (w' : World) : Prop := BoxA w rb 32 H (h.hs m) (h.ps m) w'
def RB (w : World) (rb : Nat) (H : Nat → Prop) (m : RM) : Prop := ∃ h : RH, RBx w rb H h m ∧ ∀ k, H k → ¬ WordB w k
def RAct (w : World) (rb : Nat) (H : Nat → Prop) (m : RM) (w' : World) : Prop := ∃ H', RB w' rb H' m ∧ (∀ k, H' k → H k ∨ w.heap.size ≤ k) ∧ Keeps w w' H
section
variable {w w' : World} {rb : Nat} {H S : Nat → Prop} {m : RM} {h : RH}
theorem RB.lt (h : RB w rb H m) : ∀ k, H k → k < w.heap.size := by obtain ⟨_, h, _⟩ := h; exact h.lt
theorem RB.here (h : RB w rb H m) : H rb := by obtain ⟨_, h, _⟩ := h; exact h.2.2.1
theorem RB.noWords (h : RB w rb H m) : ∀ k, H k → ¬ WordB w k := by obtain ⟨_, _, h⟩ := h; exact h
theorem RB.keeps (h : RB w rb H m) (hk : Keeps w w' S) (hd : ∀ k, H k → ¬ S k) : RB w' rb H m := by
  obtain ⟨x, h1, h2⟩ := h
  exact ⟨x, Box.keeps h1 hk hd, fun k hH ⟨cs, hc⟩ => h2 k hH ⟨cs, (hk.block k (h1.lt k hH) (hd k hH)).symm.trans hc⟩⟩
theorem RB.below (h : RB w rb H m) (hb : Below w.heap.size w w') : RB w' rb H m :=
  h.keeps (Keeps.of_below hb (S := fun k => w.heap.size ≤ k) fun b h _ => h) fun k hH hn => by have := h.lt k hH; omega
theorem rps_types : ∀ p, p ∈ h.ps m → p.e ≠ 157 := fun p hp => by
  simp only [RH.ps, List.mem_cons, List.not_mem_nil, or_false] at hp
  rcases hp with rfl | rfl | rfl | rfl | rfl | rfl
  · exact (by decide : (3 : Nat) ≠ 157)
  · exact (by decide : (3 : Nat) ≠ 157)
  · exact (by decide : (34 : Nat) ≠ 157)
  · exact (by decide : (97 : Nat) ≠ 157)
  · exact (by decide : (97 : Nat) ≠ 157)
  · exact (by decide : (148 : Nat) ≠ 157)
theorem RB.mk (hq : RBx w rb H h m) : ∃ H', RB w rb H' m ∧ ∀ k, H' k → H k := by
  refine ⟨_, ⟨h, hq.exact, hq.noWords (by decide) rps_types⟩, fun k hk => ?_⟩
  rcases hk with rfl | hf
  · exact hq.2.2.1
  · exact (hq.2.2.2.1 k hf).1
theorem RAct.of (hq : RAx w rb H h m w') : RAct w rb H m w' := by
  obtain ⟨H1, h1, h2, h3⟩ := hq
  obtain ⟨H2, h4, h5⟩ := RB.mk h1
  exact ⟨H2, h4, fun k hk => h2 k (h5 k hk), h3⟩
theorem RAct.of_below (h : RB w rb H m) (hb : Below w.heap.size w w') : RAct w rb H m w' := ⟨H, h.below hb, fun _ h => .inl h, Keeps.of_below hb fun b h1 h2 => by omega⟩
theorem RBx.lr (hq : RBx w rb H h m) (n : Int) : RAx w rb H h { m with lr := n } (w.setCell ⟨rb, 6, none⟩ (.int .i64 n)) := Box.head hq 6 _
theorem RBx.lc (hq : RBx w rb H h m) (n : Int) : RAx w rb H h { m with lc := n } (w.setCell ⟨rb, 7, none⟩ (.int .i64 n)) := Box.head hq 7 _
end
theorem Box.elem {w : World} {mb : Nat} {T : TypeId} {G : Nat → Prop} {hs : List Value} {ps : List Pc} (h : Box w mb T G hs ps) (i : Nat) {g o cap n size : Nat} {e : TypeId} {xs : List Value} (hp : ps[i]? = some ⟨.slice (some ⟨g, o, none⟩) n cap, e, size, n, xs⟩) (j : Nat) (u : Value) :
    BoxA w mb T G hs (ps.set i ⟨.slice (some ⟨g, o, none⟩) n cap, e, size, n, xs.set j u⟩) (w.setCell ⟨g, o + j, none⟩ u) := by
  have hm := h.mid i hp
  exact h.write i hp (⟨.slice (some ⟨g, o, none⟩) n cap, e, size, n, xs.set j u⟩ : Pc) (Keeps.setCell _ ⟨g, o + j, none⟩ u (S := fun k => (Value.slice (some ⟨g, o, none⟩) n cap).ownBlock = some k) rfl) ((show Mid w 0 e size (.slice (some ⟨g, o, none⟩) n cap) n xs from hm).stored j u) fun k hk => .inl hk
theorem RBx.set0 {w w4 : World} {rb : Nat} {H : Nat → Prop} {h : RH} {m : RM} (hq : RBx w rb H h m) {l : List Int} {a4 : Option Addr} {c4 : Nat} (hm : Mid w4 0 3 1 (.slice a4 l.length c4) l.length (l.map IV)) (hk : Keeps w w4 fun k => (Value.slice h.a0 m.rows.length h.c0).ownBlock = some k)
    (hb : ∀ k, (Value.slice a4 l.length c4).ownBlock = some k → (Value.slice h.a0 m.rows.length h.c0).ownBlock = some k ∨ w.heap.size ≤ k) : RAx w rb H { h with a0 := a4, c0 := c4 } { m with rows := l } (w4.setCell ⟨rb, 0, none⟩ (.slice a4 l.length c4)) :=
  (Box.write hq 0 (p := (⟨.slice h.a0 m.rows.length h.c0, 3, 1, m.rows.length, m.rows.map IV⟩ : Pc)) rfl (⟨.slice a4 l.length c4, 3, 1, l.length, l.map IV⟩ : Pc) hk hm hb).trans fun _ h2 => h2.head 0 _
theorem RBx.set1 {w w4 : World} {rb : Nat} {H : Nat → Prop} {h : RH} {m : RM} (hq : RBx w rb H h m) {l : List Int} {a4 : Option Addr} {c4 : Nat} (hm : Mid w4 0 3 1 (.slice a4 l.length c4) l.length (l.map IV)) (hk : Keeps w w4 fun k => (Value.slice h.a1 m.cols.length h.c1).ownBlock = some k)
    (hb : ∀ k, (Value.slice a4 l.length c4).ownBlock = some k → (Value.slice h.a1 m.cols.length h.c1).ownBlock = some k ∨ w.heap.size ≤ k) : RAx w rb H { h with a1 := a4, c1 := c4 } { m with cols := l } (w4.setCell ⟨rb, 1, none⟩ (.slice a4 l.length c4)) :=
  (Box.write hq 1 (p := (⟨.slice h.a1 m.cols.length h.c1, 3, 1, m.cols.length, m.cols.map IV⟩ : Pc)) rfl (⟨.slice a4 l.length c4, 3, 1, l.length, l.map IV⟩ : Pc) hk hm hb).trans fun _ h2 => h2.head 1 _
theorem RBx.set2 {w w4 : World} {rb : Nat} {H : Nat → Prop} {h : RH} {m : RM} (hq : RBx w rb H h m) {l : List Int} {a4 : Option Addr} {c4 : Nat} (hm : Mid w4 0 34 1 (.slice a4 l.length c4) l.length (l.map IV)) (hk : Keeps w w4 fun k => (Value.slice h.a2 m.kinds.length h.c2).ownBlock = some k)
    (hb : ∀ k, (Value.slice a4 l.length c4).ownBlock = some k → (Value.slice h.a2 m.kinds.length h.c2).ownBlock = some k ∨ w.heap.size ≤ k) : RAx w rb H { h with a2 := a4, c2 := c4 } { m with kinds := l } (w4.setCell ⟨rb, 2, none⟩ (.slice a4 l.length c4)) :=
  (Box.write hq 2 (p := (⟨.slice h.a2 m.kinds.length h.c2, 34, 1, m.kinds.length, m.kinds.map IV⟩ : Pc)) rfl (⟨.slice a4 l.length c4, 34, 1, l.length, l.map IV⟩ : Pc) hk hm hb).trans fun _ h2 => h2.head 2 _
theorem RBx.elt2 {w : World} {rb : Nat} {H : Nat → Prop} {h : RH} {m : RM} {g o : Nat} (hq : RBx w rb H h m) (ha : h.a2 = some ⟨g, o, none⟩) {l : List Int} (hl : l.length = m.kinds.length) (j : Nat) (u : Value) (hx : l.map IV = (m.kinds.map IV).set j u) : RAx w rb H h { m with kinds := l } (w.setCell ⟨g, o + j, none⟩ u) := by
  obtain ⟨a0, a1, a2, a3, a4, a5, c0, c1, c2, c3, c4, c5⟩ := h
  cases ha
  have h1 := Box.elem hq 2 rfl j u
  unfold RAx
  simp only [RH.hs, RH.ps, hx, hl]
  exact h1
theorem RBx.set3 {w w4 : World} {rb : Nat} {H : Nat → Prop} {h : RH} {m : RM} (hq : RBx w rb H h m) {l : List (Int × Int)} {a4 : Option Addr} {c4 : Nat} (hm : Mid w4 0 97 2 (.slice a4 l.length c4) l.length (l.flatMap vCells)) (hk : Keeps w w4 fun k => (Value.slice h.a3 m.rhs.length h.c3).ownBlock = some k)
    (hb : ∀ k, (Value.slice a4 l.length c4).ownBlock = some k → (Value.slice h.a3 m.rhs.length h.c3).ownBlock = some k ∨ w.heap.size ≤ k) : RAx w rb H { h with a3 := a4, c3 := c4 } { m with rhs := l } (w4.setCell ⟨rb, 3, none⟩ (.slice a4 l.length c4)) :=
  (Box.write hq 3 (p := (⟨.slice h.a3 m.rhs.length h.c3, 97, 2, m.rhs.length, m.rhs.flatMap vCells⟩ : Pc)) rfl (⟨.slice a4 l.length c4, 97, 2, l.length, l.flatMap vCells⟩ : Pc) hk hm hb).trans fun _ h2 => h2.head 3 _
theorem RBx.elt3 {w : World} {rb : Nat} {H : Nat → Prop} {h : RH} {m : RM} {g o : Nat} (hq : RBx w rb H h m) (ha : h.a3 = some ⟨g, o, none⟩) {l : List (Int × Int)} (hl : l.length = m.rhs.length) (j : Nat) (u : Value) (hx : l.flatMap vCells = (m.rhs.flatMap vCells).set j u) : RAx w rb H h { m with rhs := l } (w.setCell ⟨g, o + j, none⟩ u) := by
  obtain ⟨a0, a1, a2, a3, a4, a5, c0, c1, c2, c3, c4, c5⟩ := h
  cases ha
  have h1 := Box.elem hq 3 rfl j u
  unfold RAx
  simp only [RH.hs, RH.ps, hx, hl]
  exact h1
theorem RBx.set4 {w w4 : World} {rb : Nat} {H : Nat → Prop} {h : RH} {m : RM} (hq : RBx w rb H h m) {l : List (Int × Int)} {a4 : Option Addr} {c4 : Nat} (hm : Mid w4 0 97 2 (.slice a4 l.length c4) l.length (l.flatMap vCells)) (hk : Keeps w w4 fun k => (Value.slice h.a4 m.costs.length h.c4).ownBlock = some k)
    (hb : ∀ k, (Value.slice a4 l.length c4).ownBlock = some k → (Value.slice h.a4 m.costs.length h.c4).ownBlock = some k ∨ w.heap.size ≤ k) : RAx w rb H { h with a4 := a4, c4 := c4 } { m with costs := l } (w4.setCell ⟨rb, 4, none⟩ (.slice a4 l.length c4)) :=
  (Box.write hq 4 (p := (⟨.slice h.a4 m.costs.length h.c4, 97, 2, m.costs.length, m.costs.flatMap vCells⟩ : Pc)) rfl (⟨.slice a4 l.length c4, 97, 2, l.length, l.flatMap vCells⟩ : Pc) hk hm hb).trans fun _ h2 => h2.head 4 _
theorem RBx.elt4 {w : World} {rb : Nat} {H : Nat → Prop} {h : RH} {m : RM} {g o : Nat} (hq : RBx w rb H h m) (ha : h.a4 = some ⟨g, o, none⟩) {l : List (Int × Int)} (hl : l.length = m.costs.length) (j : Nat) (u : Value) (hx : l.flatMap vCells = (m.costs.flatMap vCells).set j u) : RAx w rb H h { m with costs := l } (w.setCell ⟨g, o + j, none⟩ u) := by
  obtain ⟨a0, a1, a2, a3, a4, a5, c0, c1, c2, c3, c4, c5⟩ := h
  cases ha
  have h1 := Box.elem hq 4 rfl j u
  unfold RAx
  simp only [RH.hs, RH.ps, hx, hl]
  exact h1
theorem RBx.set5 {w w4 : World} {rb : Nat} {H : Nat → Prop} {h : RH} {m : RM} (hq : RBx w rb H h m) {l : List RC} {a4 : Option Addr} {c4 : Nat} (hm : Mid w4 0 148 4 (.slice a4 l.length c4) l.length (l.flatMap cCells)) (hk : Keeps w w4 fun k => (Value.slice h.a5 m.cells.length h.c5).ownBlock = some k)
    (hb : ∀ k, (Value.slice a4 l.length c4).ownBlock = some k → (Value.slice h.a5 m.cells.length h.c5).ownBlock = some k ∨ w.heap.size ≤ k) : RAx w rb H { h with a5 := a4, c5 := c4 } { m with cells := l } (w4.setCell ⟨rb, 5, none⟩ (.slice a4 l.length c4)) :=
  (Box.write hq 5 (p := (⟨.slice h.a5 m.cells.length h.c5, 148, 4, m.cells.length, m.cells.flatMap cCells⟩ : Pc)) rfl (⟨.slice a4 l.length c4, 148, 4, l.length, l.flatMap cCells⟩ : Pc) hk hm hb).trans fun _ h2 => h2.head 5 _
def RSetR (w : World) (rb : Nat) (H : Nat → Prop) (r : Fl × RM) (e : Ending) (w' : World) : Prop := e = .returned (.agg #[.int .i64 r.1.1, .string r.1.2.1, .int .i64 r.1.2.2]) ∧ RAct w rb H r.2 w'
def RAddR (w : World) (rb : Nat) (H : Nat → Prop) (r : (Int × Fl) × RM) (e : Ending) (w' : World) : Prop := e = .returned (.tuple #[.int .i64 r.1.1, .agg #[.int .i64 r.1.2.1, .string r.1.2.2.1, .int .i64 r.1.2.2.2]]) ∧ RAct w rb H r.2 w'
end Go.Proofs.YtaehklhbokocbaaGreatDoor
namespace Go.Proofs.YtaehklhbokocbaaGreatDoor
open Go.RowKit Go.Extern.Stop Go.Stop Go.Extern
theorem int_get {w : World} {a : Option Addr} {c n : Nat} {l : List Int} (h : Sl w 1 (.slice a n c) n (l.map IV)) (k : Nat) (hk : k < l.length) (hn : k < n) : ∃ b o, a = some ⟨b, o, none⟩ ∧ b < w.heap.size ∧ w.cell? ⟨b, o + k, none⟩ = some (.int .i64 l[k]) := by
  obtain ⟨b, o, c', e, h1, h2, h3, h4⟩ := h.plain (by omega)
  cases e
  exact ⟨b, o, rfl, h3, h4 k (.int .i64 l[k]) (by rw [List.getElem?_map, List.getElem?_eq_getElem hk]; rfl)⟩
theorem at_first : ∀ (l : List Int) (t : Int) (k : Nat), l[k]? = some t → (∀ j, j < k → l[j]? ≠ some t) → atV l t = (k : Int) := fun l t k hk hn => by
  have hkl := (List.getElem?_eq_some_iff.1 hk).1
  have hkx := (List.getElem?_eq_some_iff.1 hk).2
  have h1 : atI l t = k := by
    unfold atI
    refine (List.findIdx_eq hkl).2 ⟨by simp [hkx], fun j hj => ?_⟩
    have := hn j hj
    rw [List.getElem?_eq_getElem (by omega)] at this
    simpa using this
  unfold atV
  rw [h1, if_pos hkl]
theorem at_nowhere (l : List Int) (t : Int) (hn : ∀ j, j < l.length → l[j]? ≠ some t) : atV l t = -1 := by
  have h : ¬ atI l t < l.length := fun h => by
    have h1 := atI_hit h
    exact hn _ h (by rw [List.getElem?_eq_getElem h, h1])
  unfold atV
  rw [if_neg h]
set_option maxRecDepth 100000 in
set_option maxHeartbeats 1000000 in
theorem at_any (a : Option Addr) (n c : Nat) (l : List Int) (t : Int) (w : World) (h : Sl w 1 (.slice a n c) n (l.map IV)) :
    Calls Tryz.prog 79 #[.slice a n c, .int .i64 t] w fun e w' => e = .returned (.int .i64 (atV l t)) ∧ Below w.heap.size w w' := by
  have hn : l.length = n := by have := h.1; simpa using this
  subst hn
  have hlen := h.lenI
  have HL := Lib.hid h
  clear h
  go_enter Tryz.func79, Tryz.ntmps79
  go_wp2
  go_loopw [5] (fun iv wr => ∃ k : Nat, k ≤ l.length ∧ iv = .int .i64 k ∧ (∀ j, j < k → l[j]? ≠ some t) ∧ Below w.heap.size w wr) (fun iv _ => l.length - (intOf iv).toNat)
  case atStart => exact ⟨0, Nat.zero_le _, rfl, fun j hj => by omega, Below.refl _ _⟩
  case round =>
    obtain ⟨k, hk, rfl, hn, hb⟩ := hrel
    by_cases hlt : k < l.length
    · obtain ⟨b, o, rfl, hbl, k0⟩ := int_get (HL.out.below hb) k hlt hlt
      obtain ⟨x, hx⟩ : ∃ x, l[k] = x := ⟨_, rfl⟩
      rw [hx] at k0
      have i0 : (0 : Int) ≤ (k : Int) := by omega
      have i1 : (k : Int) < (l.length : Int) := by omega
      have HB := Lib.hid hb
      have HN := Lib.hid hn
      have HX := Lib.hid hx
      clear hb hn hx
      by_cases he : x = t
      · subst he
        have hv := Lib.hid (at_first l x k (by rw [List.getElem?_eq_getElem hlt, HX.out]) HN.out)
        go_wp2
        go_ret
        exact ⟨by rw [hv.out]; rfl, HB.out⟩
      · go_wp2
        go_roundw
        case rel =>
          refine ⟨k + 1, by omega, by go_num, fun j hj => ?_, HB.out⟩
          by_cases hjk : j = k
          · rw [hjk, List.getElem?_eq_getElem hlt, HX.out]
            exact fun e => he (Option.some.inj e)
          · exact HN.out j (by omega)
        case measure => simp [intOf]; omega
    · obtain rfl : k = l.length := by omega
      have hv := Lib.hid (at_nowhere l t hn)
      have HB := Lib.hid hb
      clear hn hb
      go_wp2
      go_ret
      exact ⟨by rw [hv.out]; rfl, HB.out⟩
theorem entF_step {l : List Int} {en : Int} {wh : ByteArray} {l2 : List Int} {k : Nat} {x : Int} (hk : k < l2.length) (hx : l2[k] = x) (he : entR l en [] l2 = entR l en (l2.take k) (l2.drop k)) :
    entR l en [] l2 = if atV l x < 0 then some (en, x) else if 0 ≤ atV (l2.take k) x then some (1, x) else entR l en (l2.take (k + 1)) (l2.drop (k + 1)) := by
  rw [he, List.drop_eq_getElem_cons hk, hx, List.take_succ_eq_append_getElem hk, hx]
  rfl
def FlR (w : World) (f : Fl) (e : Ending) (w' : World) : Prop := e = .returned (.agg #[.int .i64 f.1, .string f.2.1, .int .i64 f.2.2]) ∧ Below w.heap.size w w'
theorem FlR.of {w : World} {f : Fl} {n i : Int} {wh : ByteArray} {e : Ending} {w' : World} (hf : f = (n, wh, i)) (he : e = .returned (.agg #[.int .i64 n, .string wh, .int .i64 i])) (hb : Below w.heap.size w w') : FlR w f e w' := by subst hf; exact ⟨he, hb⟩
theorem box3 (w : World) (b0 b1 b2 : Value) (T : TypeId) : (w.alloc (.cells #[b0, b1, b2] T)).cell? ⟨w.heap.size, 0, none⟩ = some b0 ∧ (w.alloc (.cells #[b0, b1, b2] T)).cell? ⟨w.heap.size, 1, none⟩ = some b1 ∧ (w.alloc (.cells #[b0, b1, b2] T)).cell? ⟨w.heap.size, 2, none⟩ = some b2 ∧ ∀ j, (w.alloc (.cells #[b0, b1, b2] T)).frozen? ⟨w.heap.size, j, none⟩ = false := by
  refine ⟨by simp, by simp, by simp, fun j => by simp⟩
theorem sl_take {w : World} {b o c : Nat} {l : List Int} (h : Sl w 1 (.slice (some ⟨b, o, none⟩) l.length c) l.length (l.map IV)) (k : Nat) (hk : k ≤ l.length) : Sl w 1 (.slice (some ⟨b, o, none⟩) k c) k ((l.take k).map IV) := by
  by_cases h0 : l.length = 0
  · obtain ⟨a', c', e, h1, h2, h3⟩ := h.len
    cases e
    obtain rfl : k = 0 := by omega
    exact ⟨by simp, .inl ⟨_, _, rfl, rfl, h2, fun h => by cases h⟩⟩
  · obtain ⟨b', o', c', e, h1, h2, h3, h4⟩ := h.plain (by omega)
    cases e
    refine ⟨by simp; omega, .inr ⟨b, o, c, rfl, by omega, h2, h3, fun j u hj => h4 j u ?_⟩⟩
    rw [List.map_take, List.getElem?_take] at hj
    split at hj
    · exact hj
    · cases hj
set_option maxRecDepth 100000 in
set_option maxHeartbeats 4000000 in
theorem entries_any (a a2 : Option Addr) (n n2 c c2 : Nat) (l l2 : List Int) (en : Int) (wh : ByteArray) (w : World) (h : Sl w 1 (.slice a n c) n (l.map IV)) (h2 : Sl w 1 (.slice a2 n2 c2) n2 (l2.map IV)) :
    Calls Tryz.prog 78 #[.slice a n c, .slice a2 n2 c2, .int .i64 en, .string wh] w (FlR w (entF l en wh l2)) := by
  have hn2 : l2.length = n2 := by have := h2.1; simpa using this
  subst hn2
  have hlen := h2.lenI
  have HL := Lib.hid h
  have HL2 := Lib.hid h2
  clear h h2
  go_enter Tryz.func78, Tryz.ntmps78
  go_wp2
  have hbw := belowBox w (.cells #[.int .i64 0, .string ⟨#[]⟩, .int .i64 0] 100)
  obtain ⟨b0, b1, b2, bf⟩ := box3 w (.int .i64 0) (.string ⟨#[]⟩) (.int .i64 0) 100
  obtain ⟨w0, hw0⟩ : ∃ w0, w.alloc (.cells #[.int .i64 0, .string ⟨#[]⟩, .int .i64 0] 100) = w0 := ⟨_, rfl⟩
  have hsz : w.heap.size < w0.heap.size := by rw [← hw0]; simp
  simp only [hw0] at hbw b0 b1 b2 bf ⊢
  have HBW := Lib.hid hbw
  have HBF := Lib.hid bf
  clear hbw hw0 bf
  go_loopw [9] (fun iv wr => ∃ k : Nat, k ≤ l2.length ∧ iv = .int .i64 k ∧ entR l en [] l2 = entR l en (l2.take k) (l2.drop k) ∧ Below w0.heap.size w0 wr) (fun iv _ => l2.length - (intOf iv).toNat)
  case atStart => exact ⟨0, Nat.zero_le _, rfl, by simp, Below.refl _ _⟩
  case round =>
    obtain ⟨k, hk, rfl, hent, hb⟩ := hrel
    have hwr : Below w.heap.size w wr := bthen HBW.out hb
    have r0 := (hb.cell (p := ⟨w.heap.size, 0, none⟩) hsz).trans b0
    have r1 := (hb.cell (p := ⟨w.heap.size, 1, none⟩) hsz).trans b1
    have r2 := (hb.cell (p := ⟨w.heap.size, 2, none⟩) hsz).trans b2
    have rf := fun j => (hb.frozen (p := ⟨w.heap.size, j, none⟩) hsz).trans (HBF.out j)
    have f0 := rf 0
    have f1 := rf 1
    have f2 := rf 2
    have hwl : w.heap.size < wr.heap.size := by have := hb.size; omega
    by_cases hlt : k < l2.length
    · obtain ⟨b, o, rfl, hbl, hx0⟩ := int_get (HL2.out.below hwr) k hlt hlt
      obtain ⟨x, hx⟩ : ∃ x, l2[k] = x := ⟨_, rfl⟩
      rw [hx] at hx0
      have i0 : (0 : Int) ≤ (k : Int) := by omega
      have i1 : (k : Int) < (l2.length : Int) := by omega
      have HST := Lib.hid (entF_step (wh := wh) hlt hx hent)
      have HAT := Lib.hid (at_any a n c l x wr (HL.out.below hwr))
      have HAT3 := Lib.hid (fun w3 (hb3 : Below wr.heap.size wr w3) => at_any (some ⟨b, o, none⟩) k c2 (l2.take k) x w3.drew (((sl_take HL2.out k (by omega)).below (hwr.trans (hb3.mono hwr.size))).below (Below.drawn w3 1)))
      have HB := Lib.hid hb
      have HWR := Lib.hid hwr
      clear hb hwr hent hx rf
      go_wp2_with fail
      refine HAT.out.mono ?_
      rintro e w1 ⟨rfl, hb1⟩
      have hx1 := (hb1.cell (p := ⟨b, o + k, none⟩) hbl).trans hx0
      have q0 := (hb1.cell (p := ⟨w.heap.size, 0, none⟩) hwl).trans r0
      have q1 := (hb1.cell (p := ⟨w.heap.size, 1, none⟩) hwl).trans r1
      have q2 := (hb1.cell (p := ⟨w.heap.size, 2, none⟩) hwl).trans r2
      have g0 := (hb1.frozen (p := ⟨w.heap.size, 0, none⟩) hwl).trans f0
      have g1 := (hb1.frozen (p := ⟨w.heap.size, 1, none⟩) hwl).trans f1
      have g2 := (hb1.frozen (p := ⟨w.heap.size, 2, none⟩) hwl).trans f2
      have hbl1 : b < w1.heap.size := Nat.lt_of_lt_of_le hbl hb1.size
      have hwl1 : w.heap.size < w1.heap.size := Nat.lt_of_lt_of_le hwl hb1.size
      have HW1 := Lib.hid (HWR.out.trans (hb1.mono HWR.out.size))
      have HB1 := Lib.hid (HB.out.trans (hb1.mono HB.out.size))
      have HAT2 := Lib.hid (HAT3.out w1 hb1)
      clear hb1 r0 r1 r2 f0 f1 f2 hx0
      by_cases hneg : atV l x < 0
      · have he := HST.out
        rw [if_pos hneg] at he
        have HE := Lib.hid (show entF l en wh l2 = (en, wh, x) by unfold entF; rw [he])
        clear he
        go_wp2_with fail
        refine bodyPost_ret (v := .agg #[.int .i64 en, .string wh, .int .i64 x]) (by simp [results, Tryz.results78, go_sem, q0, q1, q2]) rfl ?_
        refine FlR.of HE.out rfl ?_
        exact ((HW1.out.setCell (Nat.le_refl _) _).setCell (Nat.le_refl _) _).setCell (Nat.le_refl _) _
      · have he := HST.out
        rw [if_neg hneg] at he
        have HE := Lib.hid he
        clear he
        have hkc : k ≤ c2 := by omega
        go_wp2_with fail
        refine wp_region_held_drew (S := fun W => W.cell? ⟨b, o + k, none⟩ = some (.int .i64 x)) (by kernel_rfl) (hx1) (fun hHeld => ?_)
        refine tk 0 (some 30) (v := ?_) rfl rfl ?_ ?_
        rotate_left
        · (intro w _; go_simp; (try with_reducible rfl))
        simp only [Act.put, stB, stZ, stS]
        refine tk 1 (some 31) (v := ?_) rfl rfl ?_ ?_
        rotate_left
        · (intro w _; go_simp; (try with_reducible rfl))
        simp only [Act.put, stB, stZ, stS]
        refine tk 2 (some 32) (v := ?_) rfl rfl ?_ ?_
        rotate_left
        · (intro w _; go_simp; (try with_reducible rfl))
        simp only [Act.put, stB, stZ, stS]
        refine tk 3 (some 33) (v := ?_) rfl rfl ?_ ?_
        rotate_left
        · (intro w _; go_simp; (try with_reducible rfl))
        simp only [Act.put, stB, stZ, stS]
        refine tk 4 (some 34) (v := ?_) rfl rfl ?_ ?_
        rotate_left
        · (intro w _; go_simp; (try with_reducible rfl))
        simp only [Act.put, stB, stZ, stS]
        refine tk 5 (some 35) (v := ?_) rfl rfl ?_ ?_
        rotate_left
        · (intro w hSw; (try dsimp only at hSw); go_simp; (try with_reducible rfl))
        simp only [Act.put, stB, stZ, stS]
        refine tk 6 (some 36) (v := ?_) rfl rfl ?_ ?_
        rotate_left
        · (intro w hSw; (try dsimp only at hSw); go_simp; (try with_reducible rfl))
        simp only [Act.put, stB, stZ, stS]
        refine wpAnyH_ready (rs := [7]) (by kernel_rfl) (by simp) ?_
        refine (AllReadyH.cons (o := { dst := some 37, op := Op.call { callee := Callee.value (Operand.func 79), args := #[Operand.tmp 32, Operand.tmp 36], argTypes := #[27, 3] }, type := 3, pos := "ref.go:47", after := #[{ on := 2, ground := Ground.data }, { on := 6, ground := Ground.data }], guard := none }) rfl (fun K hK => ?_) AllReadyH.nil)
        go_simp
        refine HAT2.out.mono ?_
        rintro e w3 ⟨rfl, hb3⟩
        have hb3 : Below w1.heap.size w1 w3 := bthen (Below.drawn w1 1) hb3
        have x3 := (hb3.cell (p := ⟨b, o + k, none⟩) hbl1).trans hx1
        have s0 := (hb3.cell (p := ⟨w.heap.size, 0, none⟩) hwl1).trans q0
        have s1 := (hb3.cell (p := ⟨w.heap.size, 1, none⟩) hwl1).trans q1
        have s2 := (hb3.cell (p := ⟨w.heap.size, 2, none⟩) hwl1).trans q2
        have t0 := (hb3.frozen (p := ⟨w.heap.size, 0, none⟩) hwl1).trans g0
        have t1 := (hb3.frozen (p := ⟨w.heap.size, 1, none⟩) hwl1).trans g1
        have t2 := (hb3.frozen (p := ⟨w.heap.size, 2, none⟩) hwl1).trans g2
        have HW3 := Lib.hid (HW1.out.trans (hb3.mono HW1.out.size))
        have HB3 := Lib.hid (HB1.out.trans (hb3.mono HB1.out.size))
        clear hb3
        dsimp only
        refine hK.out _ _ (x3) (fun hHeld2 => ?_)
        clear hK K hHeld
        rename _ => hHeld
        try simp only [Act.put, stB, stZ, stS]
        refine tk 8 (some 38) (v := ?_) rfl rfl ?_ ?_
        rotate_left
        · (intro w _; go_simp; (try with_reducible rfl))
        simp only [Act.put, stB, stZ, stS]
        refine wpAnyH_done (by kernel_rfl) ?_ _
        (try simp only [Exit.inBlock, Exit.then])
        by_cases hp : 0 ≤ atV (l2.take k) x
        · have he := HE.out
          rw [if_pos hp] at he
          have HF := Lib.hid (show entF l en wh l2 = (1, wh, x) by unfold entF; rw [he])
          clear he
          go_wp2_with fail
          refine bodyPost_ret (v := .agg #[.int .i64 1, .string wh, .int .i64 x]) (by simp [results, Tryz.results78, go_sem, s0, s1, s2]) rfl ?_
          refine FlR.of HF.out rfl ?_
          exact ((HW3.out.setCell (Nat.le_refl _) _).setCell (Nat.le_refl _) _).setCell (Nat.le_refl _) _
        · have he := HE.out
          rw [if_neg hp] at he
          have HF := Lib.hid he
          clear he
          go_wp2_with fail
          go_roundw
          case rel => exact ⟨k + 1, by omega, by go_num, HF.out, HB3.out⟩
          case measure => simp [intOf]; omega
    · obtain rfl : k = l2.length := by omega
      have he : entF l en wh l2 = noF := by
        unfold entF
        rw [hent, List.drop_length]
        rfl
      have HE := Lib.hid he
      have HWR := Lib.hid hwr
      clear hb hwr hent he rf
      go_wp2_with fail
      refine bodyPost_ret (v := .agg #[.int .i64 0, .string ⟨#[]⟩, .int .i64 0]) (by simp [results, Tryz.results78, go_sem, r0, r1, r2]) rfl ?_
      refine FlR.of HE.out rfl ?_
      exact ((HWR.out.setCell (Nat.le_refl _) _).setCell (Nat.le_refl _) _).setCell (Nat.le_refl _) _
theorem erase_skip {α : Type} (l : List α) (k t : Nat) (hk : k < l.length) (h : k = t) : (l.take (k + 1)).eraseIdx t = (l.take k).eraseIdx t := by
  subst h
  have hkl : (l.take k).length = k := by rw [List.length_take]; omega
  rw [List.take_succ_eq_append_getElem hk, List.eraseIdx_append_of_length_le (by omega), hkl, Nat.sub_self, List.eraseIdx_of_length_le (l := l.take k) (by omega)]
  simp
theorem erase_more {α : Type} (l : List α) (k t : Nat) (hk : k < l.length) (h : k ≠ t) : (l.take (k + 1)).eraseIdx t = (l.take k).eraseIdx t ++ [l[k]] := by
  have hkl : (l.take k).length = k := by rw [List.length_take]; omega
  rw [List.take_succ_eq_append_getElem hk]
  by_cases ht : t < k
  · rw [List.eraseIdx_append_of_lt_length (by omega)]
  · rw [List.eraseIdx_of_length_le (by simp; omega), List.eraseIdx_of_length_le (by omega)]
theorem pair_get {w : World} {a : Option Addr} {c n : Nat} {l : List (Int × Int)} (h : Sl w 2 (.slice a n c) n (l.flatMap vCells)) (k : Nat) (hk : k < l.length) (hn : k < n) : ∃ b o, a = some ⟨b, o, none⟩ ∧ b < w.heap.size ∧ w.cell? ⟨b, o + k * 2, none⟩ = some (.int .i64 l[k].1) ∧ w.cell? ⟨b, o + k * 2 + 1, none⟩ = some (.int .i64 l[k].2) := by
  obtain ⟨b, o, c', e, h1, h2, h3, h4⟩ := h.plain (by omega)
  cases e
  have hc := fun j u hj => h4 _ u (flat_at vCells 2 vCells_len l k hk j u hj)
  have c0 := hc 0 _ rfl
  have c1 := hc 1 _ rfl
  simp only [← Nat.add_assoc, Nat.add_zero] at c0 c1
  exact ⟨b, o, rfl, h3, c0, c1⟩
theorem Tryz.infoVal : (Tryz.prog.info? 97).map (fun i => (i.zero, i.size, i.bytes)) = some (some (.agg #[.int .i64 0, .int .i64 0]), 2, 16) := by kernel_rfl
set_option maxRecDepth 100000 in
set_option maxHeartbeats 4000000 in
theorem without_any (a : Option Addr) (c n : Nat) (l : List Int) (t : Nat) (w : World) (h : Sl w 1 (.slice a n c) n (l.map IV)) (hn : l.length = n) (hl : l.length ≤ 4096) (ht : t ≤ 4096) :
    Calls Tryz.prog 80 #[.slice a n c, .int .i64 t] w (OwnR w 3 1 (l.eraseIdx t).length ((l.eraseIdx t).map IV)) := by
  subst hn
  obtain ⟨i0, hi, hz0, hz1, hz2⟩ := info_parts Tryz.infoInt
  have hlen := h.lenI
  have HR := Lib.hid h
  clear h
  go_enter Tryz.func80, Tryz.ntmps80
  go_wp2
  go_loopw [5, 6] (fun ov iv wr => ∃ (k : Nat) (oa : Option Addr) (oc : Nat) (L : List Int), k ≤ l.length ∧ iv = .int .i64 k ∧ L = (l.take k).eraseIdx t ∧ ov = .slice oa L.length oc ∧ Mid wr w.heap.size 3 1 (.slice oa L.length oc) L.length (L.map IV) ∧ Below w.heap.size w wr) (fun _ iv _ => l.length - (intOf iv).toNat)
  case atStart => exact ⟨0, none, 0, [], Nat.zero_le _, rfl, by simp, rfl, Mid.nil w w.heap.size 3 1, Below.refl _ _⟩
  case round =>
    obtain ⟨k, oa, oc, L, hk, rfl, hL, rfl, hm, hb⟩ := hrel
    by_cases hlt : k < l.length
    · obtain ⟨b, o, e1, hbl, k0⟩ := int_get (HR.out.below hb) k hlt hlt
      subst e1
      obtain ⟨x, hx⟩ : ∃ x, l[k] = x := ⟨_, rfl⟩
      rw [hx] at k0
      have i0' : (0 : Int) ≤ (k : Int) := by omega
      have i1 : (k : Int) < (l.length : Int) := by omega
      by_cases he : (k : Int) = (t : Int)
      · have hLt : L = (l.take (k + 1)).eraseIdx t := by
          rw [hL, erase_skip l k t hlt (by omega)]
        have HM := Lib.hid hm
        have HB := Lib.hid hb
        have HL := Lib.hid hLt
        clear hm hb hLt hL hx
        go_wp2
        go_roundw
        case rel => exact ⟨k + 1, oa, oc, L, by omega, by go_num, HL.out, rfl, HM.out, HB.out⟩
        case measure => simp [intOf]; omega
      · have hLt : L ++ [x] = (l.take (k + 1)).eraseIdx t := by
          rw [hL, erase_more l k t hlt (by omega), hx]
        have hLl : L.length ≤ 4096 := by
          have := (List.eraseIdx_sublist (l.take k) t).length_le
          rw [hL]
          simp at this
          omega
        have HM := Lib.hid hm
        have HB := Lib.hid hb
        have HL := Lib.hid hLt
        clear hm hb hLt hL hx
        have HM3 := Lib.hid (HM.out.alloc (.cells #[.int .i64 x] 3))
        have HS3 := Lib.hid (show Src Tryz.prog 1 27 (.slice (some ⟨wr.heap.size, 0, none⟩) 1 1) 1 [.int .i64 x] (wr.alloc (.cells #[.int .i64 x] 3)) from
          (Sl.lit wr 3 1 1 [.int .i64 x] (by unfold maxLen; omega) rfl).src (P := Tryz.prog) Tryz.underlying27 (fun u hu => by
            simp only [List.mem_cons, List.not_mem_nil, or_false] at hu
            rcases hu with rfl ; rfl))
        have HW3 := Lib.hid (show w.heap.size ≤ (wr.alloc (.cells #[.int .i64 x] 3)).heap.size by have := HB.out.size; simp; omega)
        go_wp2_with (at_builtin; refine wpList_append_mid (v := .slice oa L.length oc) rfl _ _ 27 27 rfl i0 (.int .i64 0) 8 Tryz.underlying27 hi hz0 hz1 hz2 rfl rfl HM3.out _ rfl 1 _ HS3.out (by unfold maxLen; omega) (by omega) HW3.out ?_; intro a4 c4 w4 hmo hgo hbo; have HMO4 := Lib.hid hmo; have HGO4 := Lib.hid hgo; clear hmo hgo hbo)
        go_roundw
        case rel =>
          refine ⟨k + 1, a4, c4, L ++ [x], by omega, by go_num, HL.out, by rw [List.length_append]; rfl, ?_, ?_⟩
          · have := HMO4.out
            simp only [List.length_append, List.length_cons, List.length_nil, List.map_append, List.flatMap_append]
            exact this
          · exact (HB.out.alloc HB.out.size _).grown HGO4.out HW3.out fun q hq => (HM.out.lt q hq).1
        case measure => simp [intOf]; omega
    · obtain rfl : k = l.length := by omega
      rw [List.take_length] at hL
      have HM := Lib.hid hm
      have HB := Lib.hid hb
      have HL := Lib.hid hL
      clear hb hm hL
      go_wp2
      go_ret
      rw [← HL.out]
      exact ⟨oa, oc, rfl, HM.out, HB.out⟩
set_option maxRecDepth 100000 in
set_option maxHeartbeats 4000000 in
theorem values_any (a : Option Addr) (c n : Nat) (l : List (Int × Int)) (t : Nat) (w : World) (h : Sl w 2 (.slice a n c) n (l.flatMap vCells)) (hn : l.length = n) (hl : l.length ≤ 4096) (ht : t ≤ 4096) :
    Calls Tryz.prog 81 #[.slice a n c, .int .i64 t] w (OwnR w 97 2 (l.eraseIdx t).length ((l.eraseIdx t).flatMap vCells)) := by
  subst hn
  obtain ⟨i0, hi, hz0, hz1, hz2⟩ := info_parts Tryz.infoVal
  have hlen := h.lenI
  have HR := Lib.hid h
  clear h
  go_enter Tryz.func81, Tryz.ntmps81
  go_wp2
  go_loopw [5, 6] (fun ov iv wr => ∃ (k : Nat) (oa : Option Addr) (oc : Nat) (L : List (Int × Int)), k ≤ l.length ∧ iv = .int .i64 k ∧ L = (l.take k).eraseIdx t ∧ ov = .slice oa L.length oc ∧ Mid wr w.heap.size 97 2 (.slice oa L.length oc) L.length (L.flatMap vCells) ∧ Below w.heap.size w wr) (fun _ iv _ => l.length - (intOf iv).toNat)
  case atStart => exact ⟨0, none, 0, [], Nat.zero_le _, rfl, by simp, rfl, Mid.nil w w.heap.size 97 2, Below.refl _ _⟩
  case round =>
    obtain ⟨k, oa, oc, L, hk, rfl, hL, rfl, hm, hb⟩ := hrel
    by_cases hlt : k < l.length
    · obtain ⟨b, o, e1, hbl, k0, k1⟩ := pair_get (HR.out.below hb) k hlt hlt
      subst e1
      obtain ⟨x, hx⟩ : ∃ x, l[k] = x := ⟨_, rfl⟩
      rw [hx] at k0 k1
      have i0' : (0 : Int) ≤ (k : Int) := by omega
      have i1 : (k : Int) < (l.length : Int) := by omega
      by_cases he : (k : Int) = (t : Int)
      · have hLt : L = (l.take (k + 1)).eraseIdx t := by
          rw [hL, erase_skip l k t hlt (by omega)]
        have HM := Lib.hid hm
        have HB := Lib.hid hb
        have HL := Lib.hid hLt
        clear hm hb hLt hL hx
        go_wp2
        go_roundw
        case rel => exact ⟨k + 1, oa, oc, L, by omega, by go_num, HL.out, rfl, HM.out, HB.out⟩
        case measure => simp [intOf]; omega
      · have hLt : L ++ [x] = (l.take (k + 1)).eraseIdx t := by
          rw [hL, erase_more l k t hlt (by omega), hx]
        have hLl : L.length ≤ 4096 := by
          have := (List.eraseIdx_sublist (l.take k) t).length_le
          rw [hL]
          simp at this
          omega
        have HM := Lib.hid hm
        have HB := Lib.hid hb
        have HL := Lib.hid hLt
        clear hm hb hLt hL hx
        have HM3 := Lib.hid (HM.out.alloc (.cells #[.int .i64 x.1, .int .i64 x.2] 97))
        have HS3 := Lib.hid (show Src Tryz.prog 2 29 (.slice (some ⟨wr.heap.size, 0, none⟩) 1 1) 1 [.int .i64 x.1, .int .i64 x.2] (wr.alloc (.cells #[.int .i64 x.1, .int .i64 x.2] 97)) from
          (Sl.lit wr 97 2 1 [.int .i64 x.1, .int .i64 x.2] (by unfold maxLen; omega) rfl).src (P := Tryz.prog) Tryz.underlying29 (fun u hu => by
            simp only [List.mem_cons, List.not_mem_nil, or_false] at hu
            rcases hu with rfl | rfl <;> rfl))
        have HW3 := Lib.hid (show w.heap.size ≤ (wr.alloc (.cells #[.int .i64 x.1, .int .i64 x.2] 97)).heap.size by have := HB.out.size; simp; omega)
        go_wp2_with (at_builtin; refine wpList_append_mid (v := .slice oa L.length oc) rfl _ _ 29 29 rfl i0 (.agg #[.int .i64 0, .int .i64 0]) 16 Tryz.underlying29 hi hz0 hz1 hz2 rfl rfl HM3.out _ rfl 1 _ HS3.out (by unfold maxLen; omega) (by omega) HW3.out ?_; intro a4 c4 w4 hmo hgo hbo; have HMO4 := Lib.hid hmo; have HGO4 := Lib.hid hgo; clear hmo hgo hbo)
        go_roundw
        case rel =>
          refine ⟨k + 1, a4, c4, L ++ [x], by omega, by go_num, HL.out, by rw [List.length_append]; rfl, ?_, ?_⟩
          · have := HMO4.out
            simp only [List.length_append, List.length_cons, List.length_nil, List.map_append, List.flatMap_append]
            exact this
          · exact (HB.out.alloc HB.out.size _).grown HGO4.out HW3.out fun q hq => (HM.out.lt q hq).1
        case measure => simp [intOf]; omega
    · obtain rfl : k = l.length := by omega
      rw [List.take_length] at hL
      have HM := Lib.hid hm
      have HB := Lib.hid hb
      have HL := Lib.hid hL
      clear hb hm hL
      go_wp2
      go_ret
      rw [← HL.out]
      exact ⟨oa, oc, rfl, HM.out, HB.out⟩
end Go.Proofs.YtaehklhbokocbaaGreatDoor
namespace Go.Proofs.YtaehklhbokocbaaGreatDoor
open Go.RowKit Go.Extern.Stop Go.Stop Go.Extern
theorem cell_get {w : World} {a : Option Addr} {c n : Nat} {l : List RC} (h : Sl w 4 (.slice a n c) n (l.flatMap cCells)) (k : Nat) (hk : k < l.length) (hn : k < n) : ∃ b o, a = some ⟨b, o, none⟩ ∧ b < w.heap.size ∧ w.cell? ⟨b, o + k * 4, none⟩ = some (.int .i64 l[k].row) ∧ w.cell? ⟨b, o + k * 4 + 1, none⟩ = some (.int .i64 l[k].col) ∧ w.cell? ⟨b, o + k * 4 + 2, none⟩ = some (.int .i64 l[k].v.1) ∧ w.cell? ⟨b, o + k * 4 + 3, none⟩ = some (.int .i64 l[k].v.2) := by
  obtain ⟨b, o, c', e, h1, h2, h3, h4⟩ := h.plain (by omega)
  cases e
  have hc := fun j u hj => h4 _ u (flat_at cCells 4 cCells_len l k hk j u hj)
  have c0 := hc 0 _ rfl
  have c1 := hc 1 _ rfl
  have c2 := hc 2 _ rfl
  have c3 := hc 3 _ rfl
  simp only [← Nat.add_assoc, Nat.add_zero] at c0 c1 c2 c3
  exact ⟨b, o, rfl, h3, c0, c1, c2, c3⟩
theorem Tryz.infoCell : (Tryz.prog.info? 148).map (fun i => (i.zero, i.size, i.bytes)) = some (some (.agg #[.int .i64 0, .int .i64 0, .int .i64 0, .int .i64 0]), 4, 32) := by kernel_rfl
theorem Tryz.infoKind : (Tryz.prog.info? 34).map (fun i => (i.zero, i.size, i.bytes)) = some (some (.int .i64 0), 1, 8) := by kernel_rfl
section
variable {w w1 wN w' : World} {rb : Nat} {H : Nat → Prop} {m : RM} {h : RH}
theorem RAct.fin (hb : Below w.heap.size w w1) (hH : ∀ k, H k → k < w.heap.size) (hx : RAx w1 rb H h m wN) {z : Nat} (hz0 : w.heap.size ≤ z) (hz1 : z < w1.heap.size) (hk : Keeps wN w' fun k => k = z) : RAct w rb H m w' := by
  obtain ⟨H1, h1, h2, h3⟩ := hx
  have h4 : RBx w' rb H1 h m := Box.keeps h1 hk fun k hk2 e => by
    rcases h2 k hk2 with h5 | h5
    · have := hH k h5; omega
    · omega
  obtain ⟨H2, h5, h6⟩ := RB.mk h4
  have hs := hb.size
  refine ⟨H2, h5, fun k hk => ?_, ?_⟩
  · rcases h2 k (h6 k hk) with h7 | h7
    · exact .inl h7
    · exact .inr (by omega)
  · exact ((Keeps.of_below hb (S := H) fun b h7 h8 => by omega).trans h3 fun _ _ h7 => h7).trans hk fun b h7 h8 => by omega
theorem set3 (w : World) (z : Nat) (a b c : Value) : Keeps w (((w.setCell ⟨z, 0, none⟩ a).setCell ⟨z, 1, none⟩ b).setCell ⟨z, 2, none⟩ c) fun k => k = z :=
  ((Keeps.setCell _ _ _ (S := fun k => k = z) rfl).trans (Keeps.setCell _ _ _ (S := fun k => k = z) rfl) fun _ _ h => h).trans (Keeps.setCell _ _ _ (S := fun k => k = z) rfl) fun _ _ h => h
theorem RAx.drew (hx : RAx w rb H h m w') : RAx w rb H h m w'.drew := BoxA.below hx (Below.drawn _ 1)
theorem RAx.far (hx : RAx w rb H h m w') {z : Nat} (hz : z < w.heap.size) (hn : ¬ H z) (j : Nat) : w'.cell? ⟨z, j, none⟩ = w.cell? ⟨z, j, none⟩ ∧ w'.frozen? ⟨z, j, none⟩ = w.frozen? ⟨z, j, none⟩ := by
  obtain ⟨_, _, _, hk⟩ := hx
  exact ⟨hk.cell hz hn, hk.frozen hz hn⟩
theorem RAx.refl (hq : RBx w rb H h m) : RAx w rb H h m w := BoxA.of_below hq (Below.refl _ _)
theorem RAct.none (hb : Below w.heap.size w w1) (hq : RBx w rb H h m) {z : Nat} (hz0 : w.heap.size ≤ z) (hz1 : z < w1.heap.size) (a b c : Value) : RAct w rb H m (((w1.setCell ⟨z, 0, none⟩ a).setCell ⟨z, 1, none⟩ b).setCell ⟨z, 2, none⟩ c) :=
  RAct.fin hb (Box.lt hq) (RAx.refl (Box.below hq hb)) hz0 hz1 (set3 _ _ _ _ _)
theorem RBx.sl0 (hq : RBx w rb H h m) : Sl w 1 (.slice h.a0 m.rows.length h.c0) m.rows.length (m.rows.map IV) := Sl.ofMid (show Mid _ _ _ _ _ _ _ from Box.mid hq 0 rfl)
theorem RBx.sl1 (hq : RBx w rb H h m) : Sl w 1 (.slice h.a1 m.cols.length h.c1) m.cols.length (m.cols.map IV) := Sl.ofMid (show Mid _ _ _ _ _ _ _ from Box.mid hq 1 rfl)
theorem RBx.sl2 (hq : RBx w rb H h m) : Sl w 1 (.slice h.a2 m.kinds.length h.c2) m.kinds.length (m.kinds.map IV) := Sl.ofMid (show Mid _ _ _ _ _ _ _ from Box.mid hq 2 rfl)
theorem RBx.sl3 (hq : RBx w rb H h m) : Sl w 2 (.slice h.a3 m.rhs.length h.c3) m.rhs.length (m.rhs.flatMap vCells) := Sl.ofMid (show Mid _ _ _ _ _ _ _ from Box.mid hq 3 rfl)
theorem RBx.sl4 (hq : RBx w rb H h m) : Sl w 2 (.slice h.a4 m.costs.length h.c4) m.costs.length (m.costs.flatMap vCells) := Sl.ofMid (show Mid _ _ _ _ _ _ _ from Box.mid hq 4 rfl)
theorem RBx.sl5 (hq : RBx w rb H h m) : Sl w 4 (.slice h.a5 m.cells.length h.c5) m.cells.length (m.cells.flatMap cCells) := Sl.ofMid (show Mid _ _ _ _ _ _ _ from Box.mid hq 5 rfl)
theorem frozen_of {base size n c : Nat} {e : TypeId} {b o : Nat} {xs : List Value} (hm : Mid w base e size (.slice (some ⟨b, o, none⟩) n c) n xs) : ∀ j, w.frozen? ⟨b, j, none⟩ = false := fun j => hm.frozen j
theorem RBx.c0 (hq : RBx w rb H h m) : w.cell? ⟨rb, 0, none⟩ = some (.slice h.a0 m.rows.length h.c0) := Box.cell hq 0 rfl
theorem RBx.c1 (hq : RBx w rb H h m) : w.cell? ⟨rb, 1, none⟩ = some (.slice h.a1 m.cols.length h.c1) := Box.cell hq 1 rfl
theorem RBx.c2 (hq : RBx w rb H h m) : w.cell? ⟨rb, 2, none⟩ = some (.slice h.a2 m.kinds.length h.c2) := Box.cell hq 2 rfl
theorem RBx.c3 (hq : RBx w rb H h m) : w.cell? ⟨rb, 3, none⟩ = some (.slice h.a3 m.rhs.length h.c3) := Box.cell hq 3 rfl
theorem RBx.c4 (hq : RBx w rb H h m) : w.cell? ⟨rb, 4, none⟩ = some (.slice h.a4 m.costs.length h.c4) := Box.cell hq 4 rfl
theorem RBx.c5 (hq : RBx w rb H h m) : w.cell? ⟨rb, 5, none⟩ = some (.slice h.a5 m.cells.length h.c5) := Box.cell hq 5 rfl
theorem RBx.c6 (hq : RBx w rb H h m) : w.cell? ⟨rb, 6, none⟩ = some (.int .i64 m.lr) := Box.cell hq 6 rfl
theorem RBx.c7 (hq : RBx w rb H h m) : w.cell? ⟨rb, 7, none⟩ = some (.int .i64 m.lc) := Box.cell hq 7 rfl
theorem RBx.pair3 (hq : RBx w rb H h m) {g o : Nat} (ha : h.a3 = some ⟨g, o, none⟩) (k : Nat) (hk : k < m.rhs.length) (v : Int × Int) : RAx w rb H h { m with rhs := m.rhs.set k v } ((w.setCell ⟨g, o + k * 2, none⟩ (.int .i64 v.1)).setCell ⟨g, o + k * 2 + 1, none⟩ (.int .i64 v.2)) := by
  have e1 := flat_set vCells 2 vCells_len m.rhs k hk (v.1, m.rhs[k].2) 0 (by omega) (.int .i64 v.1) rfl
  have h1 := RBx.elt3 hq ha (l := m.rhs.set k (v.1, m.rhs[k].2)) (by simp) (k * 2 + 0) (.int .i64 v.1) e1
  refine h1.trans fun H2 h2 => ?_
  have e2 := flat_set vCells 2 vCells_len (m.rhs.set k (v.1, m.rhs[k].2)) k (by simpa using hk) v 1 (by omega) (.int .i64 v.2) (by simp [vCells])
  rw [List.set_set] at e2
  have h3 := RBx.elt3 h2 ha (l := m.rhs.set k v) (by simp) (k * 2 + 1) (.int .i64 v.2) e2
  exact h3
theorem RBx.pair4 (hq : RBx w rb H h m) {g o : Nat} (ha : h.a4 = some ⟨g, o, none⟩) (k : Nat) (hk : k < m.costs.length) (v : Int × Int) : RAx w rb H h { m with costs := m.costs.set k v } ((w.setCell ⟨g, o + k * 2, none⟩ (.int .i64 v.1)).setCell ⟨g, o + k * 2 + 1, none⟩ (.int .i64 v.2)) := by
  have e1 := flat_set vCells 2 vCells_len m.costs k hk (v.1, m.costs[k].2) 0 (by omega) (.int .i64 v.1) rfl
  have h1 := RBx.elt4 hq ha (l := m.costs.set k (v.1, m.costs[k].2)) (by simp) (k * 2 + 0) (.int .i64 v.1) e1
  refine h1.trans fun H2 h2 => ?_
  have e2 := flat_set vCells 2 vCells_len (m.costs.set k (v.1, m.costs[k].2)) k (by simpa using hk) v 1 (by omega) (.int .i64 v.2) (by simp [vCells])
  rw [List.set_set] at e2
  have h3 := RBx.elt4 h2 ha (l := m.costs.set k v) (by simp) (k * 2 + 1) (.int .i64 v.2) e2
  exact h3
theorem RBx.kind2 (hq : RBx w rb H h m) {g o : Nat} (ha : h.a2 = some ⟨g, o, none⟩) (k : Nat) (kd : Int) : RAx w rb H h { m with kinds := m.kinds.set k kd } (w.setCell ⟨g, o + k, none⟩ (.int .i64 kd)) :=
  RBx.elt2 hq ha (l := m.kinds.set k kd) (by simp) k (.int .i64 kd) (by rw [List.map_set])
end
set_option maxRecDepth 100000 in
set_option maxHeartbeats 4000000 in
theorem r_setRhs (rb : Nat) (H : Nat → Prop) (m : RM) (id : Int) (v : Int × Int) (w : World) (hr : RB w rb H m) (hw : RWf m) :
    Calls Tryz.prog 46 #[.pointer (some ⟨rb, 0, none⟩), .int .i64 id, .agg #[.int .i64 v.1, .int .i64 v.2]] w (RSetR w rb H (m.setRhs id v)) := by
  obtain ⟨h, hq, -⟩ := hr
  obtain ⟨w0, hw0⟩ : ∃ w0, ((w.alloc (.cells #[.int .i64 v.1, .int .i64 v.2] 97)).alloc (.cells #[.int .i64 0, .string ⟨#[]⟩, .int .i64 0] 100)) = w0 := ⟨_, rfl⟩
  have hb0 : Below w.heap.size w w0 := by rw [← hw0]; exact (bthen (belowBox w (.cells #[.int .i64 v.1, .int .i64 v.2] 97)) (belowBox _ (.cells #[.int .i64 0, .string ⟨#[]⟩, .int .i64 0] 100)))
  have hz : (w.heap.size + 1) < w0.heap.size := by rw [← hw0]; simp
  have q0 : w0.cell? ⟨(w.heap.size + 1), 0, none⟩ = some (.int .i64 0) := by rw [← hw0]; simp
  have q1 : w0.cell? ⟨(w.heap.size + 1), 1, none⟩ = some (.string ⟨#[]⟩) := by rw [← hw0]; simp
  have q2 : w0.cell? ⟨(w.heap.size + 1), 2, none⟩ = some (.int .i64 0) := by rw [← hw0]; simp
  have qf : ∀ j, w0.frozen? ⟨(w.heap.size + 1), j, none⟩ = false := by intro j; rw [← hw0]; simp
  have b0 : w0.cell? ⟨w.heap.size, 0, none⟩ = some (.int .i64 v.1) := by rw [← hw0]; simp
  have b1 : w0.cell? ⟨w.heap.size, 1, none⟩ = some (.int .i64 v.2) := by rw [← hw0]; simp
  have hq0 := Box.below hq hb0
  have k0 := RBx.c0 hq0
  have HAT := Lib.hid (at_any h.a0 m.rows.length h.c0 m.rows id w0 (RBx.sl0 hq0))
  have HQ := Lib.hid hq
  have HB0 := Lib.hid hb0
  have HW := Lib.hid hw
  clear hq hq0 hb0 hw
  go_enter Tryz.func46, Tryz.ntmps46
  go_wp2_with fail
  (try simp only [hw0])
  clear hw0
  go_wp2_with fail
  refine HAT.out.mono ?_
  rintro e w1 ⟨rfl, hb1⟩
  have hq1 := Box.below (Box.below HQ.out HB0.out) hb1
  have hbw := bthen HB0.out hb1
  have r0 := (hb1.cell (p := ⟨(w.heap.size + 1), 0, none⟩) hz).trans q0
  have r1 := (hb1.cell (p := ⟨(w.heap.size + 1), 1, none⟩) hz).trans q1
  have r2 := (hb1.cell (p := ⟨(w.heap.size + 1), 2, none⟩) hz).trans q2
  have f0 := (hb1.frozen (p := ⟨(w.heap.size + 1), 0, none⟩) hz).trans (qf 0)
  have f1 := (hb1.frozen (p := ⟨(w.heap.size + 1), 1, none⟩) hz).trans (qf 1)
  have f2 := (hb1.frozen (p := ⟨(w.heap.size + 1), 2, none⟩) hz).trans (qf 2)
  have v0 := (hb1.cell (p := ⟨w.heap.size, 0, none⟩) (show w.heap.size < w0.heap.size by omega)).trans b0
  have v1 := (hb1.cell (p := ⟨w.heap.size, 1, none⟩) (show w.heap.size < w0.heap.size by omega)).trans b1
  have hz1 : (w.heap.size + 1) < w1.heap.size := Nat.lt_of_lt_of_le hz hb1.size
  have HB1 := Lib.hid hbw
  clear b0 b1
  clear hbw q0 q1 q2 qf k0 hb1
  by_cases hh : atI m.rows id < m.rows.length
  · have ha : atV m.rows id = (atI m.rows id : Int) := by unfold atV; rw [if_pos hh]
    obtain ⟨k, hk⟩ : ∃ k, atI m.rows id = k := ⟨_, rfl⟩
    rw [hk] at ha hh
    have hkl : k < m.rhs.length := by have := HW.out.hl; omega
    have HE := Lib.hid (show m.setRhs id v = (noF, { m with rhs := m.rhs.set k v }) by unfold RM.setRhs; rw [hk, if_pos hh])
    have hsl := (RBx.sl3 hq1).lenI
    obtain ⟨g, o, hga, hgl, g0, g1⟩ := pair_get (RBx.sl3 hq1) k hkl hkl
    have HGA := Lib.hid hga
    have hcc := RBx.c3 hq1
    rw [hga] at hcc
    have hfr : ∀ j, w1.frozen? ⟨g, j, none⟩ = false := by
      have hmid := Box.mid hq1 3 rfl
      unfold Pc.mid at hmid
      dsimp only at hmid
      rw [hga] at hmid
      exact frozen_of hmid
    have hgz : g ≠ (w.heap.size + 1) := fun e => by
      have hfo := (Box.foot hq1 3 rfl g (by dsimp only; rw [hga]; rfl)).1
      have := Box.lt HQ.out g hfo
      omega
    have g2 := hfr (o + k * 2)
    have g3 := hfr (o + k * 2 + 1)
    have i0 : (0 : Int) ≤ (k : Int) := by omega
    have i1 : (k : Int) < (m.rhs.length : Int) := by omega
    have HQ1 := Lib.hid hq1
    rw [ha]
    clear hq1 ha hk hfr hga
    go_upto_region 4 with fail
    go_cut [] (fun wx => RAx w1 rb H h { m with rhs := m.rhs.set k v } wx)
    case first =>
      go_region
      all_goals
        go_wp2_with fail
        go_meet
        exact RAx.drew (RBx.pair3 HQ1.out HGA.out k hkl v)
    case rest =>
      rename_i hcut
      have HX := Lib.hid hcut
      have hnz : ¬ H (w.heap.size + 1) := fun hh => by have := Box.lt HQ.out _ hh; omega
      have s0 := (RAx.far hcut hz1 hnz 0).1.trans r0
      have s1 := (RAx.far hcut hz1 hnz 1).1.trans r1
      have s2 := (RAx.far hcut hz1 hnz 2).1.trans r2
      have p0 := (RAx.far hcut hz1 hnz 0).2.trans f0
      have p1 := (RAx.far hcut hz1 hnz 1).2.trans f1
      have p2 := (RAx.far hcut hz1 hnz 2).2.trans f2
      clear hcut r0 r1 r2 f0 f1 f2 g0 g1 g2 g3 hcc v0 v1
      go_wp2_with fail
      refine bodyPost_ret (v := .agg #[.int .i64 0, .string ⟨#[]⟩, .int .i64 0]) (by simp [results, Tryz.results46, go_sem, s0, s1, s2]) rfl ?_
      rw [HE.out]
      refine ⟨rfl, ?_⟩
      exact RAct.fin HB1.out (Box.lt HQ.out) HX.out (by omega) hz1 (set3 _ _ _ _ _)
  · have ha : atV m.rows id = -1 := by unfold atV; rw [if_neg hh]
    rw [ha]
    have HE := Lib.hid (show m.setRhs id v = ((230, whRow, id), m) by unfold RM.setRhs; rw [if_neg hh])
    clear hq1 ha
    go_wp2_with fail
    refine bodyPost_ret (v := .agg #[.int .i64 230, .string ⟨#[114, 111, 119]⟩, .int .i64 id]) (by simp [results, Tryz.results46, go_sem, r0, r1, r2]) rfl ?_
    rw [HE.out]
    exact ⟨rfl, RAct.none HB1.out HQ.out (by omega) hz1 _ _ _⟩
set_option maxRecDepth 100000 in
set_option maxHeartbeats 4000000 in
theorem r_setCost (rb : Nat) (H : Nat → Prop) (m : RM) (id : Int) (v : Int × Int) (w : World) (hr : RB w rb H m) (hw : RWf m) :
    Calls Tryz.prog 49 #[.pointer (some ⟨rb, 0, none⟩), .int .i64 id, .agg #[.int .i64 v.1, .int .i64 v.2]] w (RSetR w rb H (m.setCost id v)) := by
  obtain ⟨h, hq, -⟩ := hr
  obtain ⟨w0, hw0⟩ : ∃ w0, ((w.alloc (.cells #[.int .i64 v.1, .int .i64 v.2] 97)).alloc (.cells #[.int .i64 0, .string ⟨#[]⟩, .int .i64 0] 100)) = w0 := ⟨_, rfl⟩
  have hb0 : Below w.heap.size w w0 := by rw [← hw0]; exact (bthen (belowBox w (.cells #[.int .i64 v.1, .int .i64 v.2] 97)) (belowBox _ (.cells #[.int .i64 0, .string ⟨#[]⟩, .int .i64 0] 100)))
  have hz : (w.heap.size + 1) < w0.heap.size := by rw [← hw0]; simp
  have q0 : w0.cell? ⟨(w.heap.size + 1), 0, none⟩ = some (.int .i64 0) := by rw [← hw0]; simp
  have q1 : w0.cell? ⟨(w.heap.size + 1), 1, none⟩ = some (.string ⟨#[]⟩) := by rw [← hw0]; simp
  have q2 : w0.cell? ⟨(w.heap.size + 1), 2, none⟩ = some (.int .i64 0) := by rw [← hw0]; simp
  have qf : ∀ j, w0.frozen? ⟨(w.heap.size + 1), j, none⟩ = false := by intro j; rw [← hw0]; simp
  have b0 : w0.cell? ⟨w.heap.size, 0, none⟩ = some (.int .i64 v.1) := by rw [← hw0]; simp
  have b1 : w0.cell? ⟨w.heap.size, 1, none⟩ = some (.int .i64 v.2) := by rw [← hw0]; simp
  have hq0 := Box.below hq hb0
  have k0 := RBx.c1 hq0
  have HAT := Lib.hid (at_any h.a1 m.cols.length h.c1 m.cols id w0 (RBx.sl1 hq0))
  have HQ := Lib.hid hq
  have HB0 := Lib.hid hb0
  have HW := Lib.hid hw
  clear hq hq0 hb0 hw
  go_enter Tryz.func49, Tryz.ntmps49
  go_wp2_with fail
  (try simp only [hw0])
  clear hw0
  go_wp2_with fail
  refine HAT.out.mono ?_
  rintro e w1 ⟨rfl, hb1⟩
  have hq1 := Box.below (Box.below HQ.out HB0.out) hb1
  have hbw := bthen HB0.out hb1
  have r0 := (hb1.cell (p := ⟨(w.heap.size + 1), 0, none⟩) hz).trans q0
  have r1 := (hb1.cell (p := ⟨(w.heap.size + 1), 1, none⟩) hz).trans q1
  have r2 := (hb1.cell (p := ⟨(w.heap.size + 1), 2, none⟩) hz).trans q2
  have f0 := (hb1.frozen (p := ⟨(w.heap.size + 1), 0, none⟩) hz).trans (qf 0)
  have f1 := (hb1.frozen (p := ⟨(w.heap.size + 1), 1, none⟩) hz).trans (qf 1)
  have f2 := (hb1.frozen (p := ⟨(w.heap.size + 1), 2, none⟩) hz).trans (qf 2)
  have v0 := (hb1.cell (p := ⟨w.heap.size, 0, none⟩) (show w.heap.size < w0.heap.size by omega)).trans b0
  have v1 := (hb1.cell (p := ⟨w.heap.size, 1, none⟩) (show w.heap.size < w0.heap.size by omega)).trans b1
  have hz1 : (w.heap.size + 1) < w1.heap.size := Nat.lt_of_lt_of_le hz hb1.size
  have HB1 := Lib.hid hbw
  clear b0 b1
  clear hbw q0 q1 q2 qf k0 hb1
  by_cases hh : atI m.cols id < m.cols.length
  · have ha : atV m.cols id = (atI m.cols id : Int) := by unfold atV; rw [if_pos hh]
    obtain ⟨k, hk⟩ : ∃ k, atI m.cols id = k := ⟨_, rfl⟩
    rw [hk] at ha hh
    have hkl : k < m.costs.length := by have := HW.out.ol; omega
    have HE := Lib.hid (show m.setCost id v = (noF, { m with costs := m.costs.set k v }) by unfold RM.setCost; rw [hk, if_pos hh])
    have hsl := (RBx.sl4 hq1).lenI
    obtain ⟨g, o, hga, hgl, g0, g1⟩ := pair_get (RBx.sl4 hq1) k hkl hkl
    have HGA := Lib.hid hga
    have hcc := RBx.c4 hq1
    rw [hga] at hcc
    have hfr : ∀ j, w1.frozen? ⟨g, j, none⟩ = false := by
      have hmid := Box.mid hq1 4 rfl
      unfold Pc.mid at hmid
      dsimp only at hmid
      rw [hga] at hmid
      exact frozen_of hmid
    have hgz : g ≠ (w.heap.size + 1) := fun e => by
      have hfo := (Box.foot hq1 4 rfl g (by dsimp only; rw [hga]; rfl)).1
      have := Box.lt HQ.out g hfo
      omega
    have g2 := hfr (o + k * 2)
    have g3 := hfr (o + k * 2 + 1)
    have i0 : (0 : Int) ≤ (k : Int) := by omega
    have i1 : (k : Int) < (m.costs.length : Int) := by omega
    have HQ1 := Lib.hid hq1
    rw [ha]
    clear hq1 ha hk hfr hga
    go_upto_region 4 with fail
    go_cut [] (fun wx => RAx w1 rb H h { m with costs := m.costs.set k v } wx)
    case first =>
      go_region
      all_goals
        go_wp2_with fail
        go_meet
        exact RAx.drew (RBx.pair4 HQ1.out HGA.out k hkl v)
    case rest =>
      rename_i hcut
      have HX := Lib.hid hcut
      have hnz : ¬ H (w.heap.size + 1) := fun hh => by have := Box.lt HQ.out _ hh; omega
      have s0 := (RAx.far hcut hz1 hnz 0).1.trans r0
      have s1 := (RAx.far hcut hz1 hnz 1).1.trans r1
      have s2 := (RAx.far hcut hz1 hnz 2).1.trans r2
      have p0 := (RAx.far hcut hz1 hnz 0).2.trans f0
      have p1 := (RAx.far hcut hz1 hnz 1).2.trans f1
      have p2 := (RAx.far hcut hz1 hnz 2).2.trans f2
      clear hcut r0 r1 r2 f0 f1 f2 g0 g1 g2 g3 hcc v0 v1
      go_wp2_with fail
      refine bodyPost_ret (v := .agg #[.int .i64 0, .string ⟨#[]⟩, .int .i64 0]) (by simp [results, Tryz.results49, go_sem, s0, s1, s2]) rfl ?_
      rw [HE.out]
      refine ⟨rfl, ?_⟩
      exact RAct.fin HB1.out (Box.lt HQ.out) HX.out (by omega) hz1 (set3 _ _ _ _ _)
  · have ha : atV m.cols id = -1 := by unfold atV; rw [if_neg hh]
    rw [ha]
    have HE := Lib.hid (show m.setCost id v = ((231, whCol, id), m) by unfold RM.setCost; rw [if_neg hh])
    clear hq1 ha
    go_wp2_with fail
    refine bodyPost_ret (v := .agg #[.int .i64 231, .string ⟨#[99, 111, 108, 117, 109, 110]⟩, .int .i64 id]) (by simp [results, Tryz.results49, go_sem, r0, r1, r2]) rfl ?_
    rw [HE.out]
    exact ⟨rfl, RAct.none HB1.out HQ.out (by omega) hz1 _ _ _⟩
set_option maxRecDepth 100000 in
set_option maxHeartbeats 4000000 in
theorem r_setKind (rb : Nat) (H : Nat → Prop) (m : RM) (id : Int) (kd : Int) (w : World) (hr : RB w rb H m) (hw : RWf m) :
    Calls Tryz.prog 48 #[.pointer (some ⟨rb, 0, none⟩), .int .i64 id, .int .i64 kd] w (RSetR w rb H (m.setKind id kd)) := by
  obtain ⟨h, hq, -⟩ := hr
  obtain ⟨w0, hw0⟩ : ∃ w0, (w.alloc (.cells #[.int .i64 0, .string ⟨#[]⟩, .int .i64 0] 100)) = w0 := ⟨_, rfl⟩
  have hb0 : Below w.heap.size w w0 := by rw [← hw0]; exact (belowBox w (.cells #[.int .i64 0, .string ⟨#[]⟩, .int .i64 0] 100))
  have hz : w.heap.size < w0.heap.size := by rw [← hw0]; simp
  have q0 : w0.cell? ⟨w.heap.size, 0, none⟩ = some (.int .i64 0) := by rw [← hw0]; simp
  have q1 : w0.cell? ⟨w.heap.size, 1, none⟩ = some (.string ⟨#[]⟩) := by rw [← hw0]; simp
  have q2 : w0.cell? ⟨w.heap.size, 2, none⟩ = some (.int .i64 0) := by rw [← hw0]; simp
  have qf : ∀ j, w0.frozen? ⟨w.heap.size, j, none⟩ = false := by intro j; rw [← hw0]; simp
  skip
  skip
  have hq0 := Box.below hq hb0
  have k0 := RBx.c0 hq0
  have HAT := Lib.hid (at_any h.a0 m.rows.length h.c0 m.rows id w0 (RBx.sl0 hq0))
  have HQ := Lib.hid hq
  have HB0 := Lib.hid hb0
  have HW := Lib.hid hw
  clear hq hq0 hb0 hw
  go_enter Tryz.func48, Tryz.ntmps48
  go_wp2_with fail
  (try simp only [hw0])
  clear hw0
  go_wp2_with fail
  refine HAT.out.mono ?_
  rintro e w1 ⟨rfl, hb1⟩
  have hq1 := Box.below (Box.below HQ.out HB0.out) hb1
  have hbw := bthen HB0.out hb1
  have r0 := (hb1.cell (p := ⟨w.heap.size, 0, none⟩) hz).trans q0
  have r1 := (hb1.cell (p := ⟨w.heap.size, 1, none⟩) hz).trans q1
  have r2 := (hb1.cell (p := ⟨w.heap.size, 2, none⟩) hz).trans q2
  have f0 := (hb1.frozen (p := ⟨w.heap.size, 0, none⟩) hz).trans (qf 0)
  have f1 := (hb1.frozen (p := ⟨w.heap.size, 1, none⟩) hz).trans (qf 1)
  have f2 := (hb1.frozen (p := ⟨w.heap.size, 2, none⟩) hz).trans (qf 2)
  skip
  skip
  have hz1 : w.heap.size < w1.heap.size := Nat.lt_of_lt_of_le hz hb1.size
  have HB1 := Lib.hid hbw
  skip
  clear hbw q0 q1 q2 qf k0 hb1
  by_cases hh : atI m.rows id < m.rows.length
  · have ha : atV m.rows id = (atI m.rows id : Int) := by unfold atV; rw [if_pos hh]
    obtain ⟨k, hk⟩ : ∃ k, atI m.rows id = k := ⟨_, rfl⟩
    rw [hk] at ha hh
    have hkl : k < m.kinds.length := by have := HW.out.kl; omega
    have i0 : (0 : Int) ≤ (k : Int) := by omega
    rw [ha]
    by_cases hkd : kd < 1 ∨ 3 < kd
    · have HE := Lib.hid (show m.setKind id kd = ((160, noWh, 0), m) by unfold RM.setKind; rw [hk, if_pos hh, if_pos hkd])
      clear hq1 ha hk
      rcases hkd with h1 | h3
      · go_wp2_with fail
        refine bodyPost_ret (v := .agg #[.int .i64 160, .string ⟨#[]⟩, .int .i64 0]) (by simp [results, Tryz.results48, go_sem, r0, r1, r2]) rfl ?_
        rw [HE.out]
        exact ⟨rfl, RAct.none HB1.out HQ.out (by omega) hz1 _ _ _⟩
      · have h1 : ¬ kd < 1 := by omega
        go_wp2_with fail
        refine bodyPost_ret (v := .agg #[.int .i64 160, .string ⟨#[]⟩, .int .i64 0]) (by simp [results, Tryz.results48, go_sem, r0, r1, r2]) rfl ?_
        rw [HE.out]
        exact ⟨rfl, RAct.none HB1.out HQ.out (by omega) hz1 _ _ _⟩
    · have HE := Lib.hid (show m.setKind id kd = (noF, { m with kinds := m.kinds.set k kd }) by unfold RM.setKind; rw [hk, if_pos hh, if_neg hkd])
      have h1 : ¬ kd < 1 := by omega
      have h3 : ¬ 3 < kd := by omega
      have hsl := (RBx.sl2 hq1).lenI
      obtain ⟨g, o, hga, hgl, g0⟩ := int_get (RBx.sl2 hq1) k hkl hkl
      have HGA := Lib.hid hga
      have hcc := RBx.c2 hq1
      rw [hga] at hcc
      have hfr : ∀ j, w1.frozen? ⟨g, j, none⟩ = false := by
        have hmid := Box.mid hq1 2 rfl
        unfold Pc.mid at hmid
        dsimp only at hmid
        rw [hga] at hmid
        exact frozen_of hmid
      have hgz : g ≠ w.heap.size := fun e => by
        have hfo := (Box.foot hq1 2 rfl g (by dsimp only; rw [hga]; rfl)).1
        have := Box.lt HQ.out g hfo
        omega
      have g2 := hfr (o + k)
      have i1 : (k : Int) < (m.kinds.length : Int) := by omega
      have HQ1 := Lib.hid hq1
      clear hq1 ha hk hfr hga hkd
      go_upto_region 6 with fail
      go_cut [] (fun wx => RAx w1 rb H h { m with kinds := m.kinds.set k kd } wx)
      case first =>
        go_wp2_with fail
        go_meet
        exact RBx.kind2 HQ1.out HGA.out k kd
      case rest =>
        rename_i hcut
        have HX := Lib.hid hcut
        have hnz : ¬ H w.heap.size := fun hh => by have := Box.lt HQ.out _ hh; omega
        have s0 := (RAx.far hcut hz1 hnz 0).1.trans r0
        have s1 := (RAx.far hcut hz1 hnz 1).1.trans r1
        have s2 := (RAx.far hcut hz1 hnz 2).1.trans r2
        have p0 := (RAx.far hcut hz1 hnz 0).2.trans f0
        have p1 := (RAx.far hcut hz1 hnz 1).2.trans f1
        have p2 := (RAx.far hcut hz1 hnz 2).2.trans f2
        clear hcut r0 r1 r2 f0 f1 f2 g0 g2 hcc
        go_wp2_with fail
        refine bodyPost_ret (v := .agg #[.int .i64 0, .string ⟨#[]⟩, .int .i64 0]) (by simp [results, Tryz.results48, go_sem, s0, s1, s2]) rfl ?_
        rw [HE.out]
        refine ⟨rfl, ?_⟩
        exact RAct.fin HB1.out (Box.lt HQ.out) HX.out (by omega) hz1 (set3 _ _ _ _ _)
  · have ha : atV m.rows id = -1 := by unfold atV; rw [if_neg hh]
    rw [ha]
    have HE := Lib.hid (show m.setKind id kd = ((230, whRow, id), m) by unfold RM.setKind; rw [if_neg hh])
    clear hq1 ha
    go_wp2_with fail
    refine bodyPost_ret (v := .agg #[.int .i64 230, .string ⟨#[114, 111, 119]⟩, .int .i64 id]) (by simp [results, Tryz.results48, go_sem, r0, r1, r2]) rfl ?_
    rw [HE.out]
    exact ⟨rfl, RAct.none HB1.out HQ.out (by omega) hz1 _ _ _⟩
end Go.Proofs.YtaehklhbokocbaaGreatDoor
namespace Go.Proofs.YtaehklhbokocbaaGreatDoor
open Go.RowKit Go.Extern.Stop Go.Stop Go.Extern
theorem keepC_skip {row col : Int} {l : List RC} {k : Nat} (hk : k < l.length) (h : l[k].row = row ∨ l[k].col = col) : keepC row col (l.take (k + 1)) = keepC row col (l.take k) := by
  rw [List.take_succ_eq_append_getElem hk, keepC, List.filter_append]
  rcases h with h | h <;> simp [keepC, h]
theorem keepC_take {row col : Int} {l : List RC} {k : Nat} (hk : k < l.length) (h1 : l[k].row ≠ row) (h2 : l[k].col ≠ col) : keepC row col (l.take (k + 1)) = keepC row col (l.take k) ++ [l[k]] := by
  rw [List.take_succ_eq_append_getElem hk, keepC, List.filter_append]
  simp [keepC, h1, h2]
theorem otherC_skip {row col : Int} {l : List RC} {k : Nat} (hk : k < l.length) (h1 : l[k].row = row) (h2 : l[k].col = col) : otherC row col (l.take (k + 1)) = otherC row col (l.take k) := by
  rw [List.take_succ_eq_append_getElem hk, otherC, List.filter_append]
  simp [otherC, h1, h2]
theorem otherC_take {row col : Int} {l : List RC} {k : Nat} (hk : k < l.length) (h : l[k].row ≠ row ∨ l[k].col ≠ col) : otherC row col (l.take (k + 1)) = otherC row col (l.take k) ++ [l[k]] := by
  rw [List.take_succ_eq_append_getElem hk, otherC, List.filter_append]
  rcases h with h | h <;> simp [otherC, h]
def CellsR (w : World) (rb : Nat) (H : Nat → Prop) (m : RM) (w' : World) : Prop := ∃ h' : RH, RAx w rb H h' m w'
set_option maxRecDepth 100000 in
set_option maxHeartbeats 8000000 in
theorem r_cells (rb : Nat) (H : Nat → Prop) (h : RH) (m : RM) (row col : Int) (w : World) (hq : RBx w rb H h m) (hcl : m.cells.length ≤ 1000000000000) :
    Calls Tryz.prog 82 #[.pointer (some ⟨rb, 0, none⟩), .int .i64 row, .int .i64 col] w fun e w' => e = .returned (.tuple #[]) ∧ CellsR w rb H { m with cells := keepC row col m.cells } w' := by
  obtain ⟨i0, hi, hz0, hz1, hz2⟩ := info_parts Tryz.infoCell
  have hlen := (RBx.sl5 hq).lenI
  have hrl := lt_of_block hq.1
  have c5 := RBx.c5 hq
  have f5 := Box.free hq 5
  have HSL := Lib.hid (RBx.sl5 hq)
  have HQ := Lib.hid hq
  clear hq
  go_enter Tryz.func82, Tryz.ntmps82
  go_wp2
  go_loopw [6, 7] (fun ov iv wr => ∃ (k : Nat) (oa : Option Addr) (oc : Nat) (L : List RC), k ≤ m.cells.length ∧ iv = .int .i64 k ∧ L = keepC row col (m.cells.take k) ∧ ov = .slice oa L.length oc ∧ Mid wr w.heap.size 148 4 (.slice oa L.length oc) L.length (L.flatMap cCells) ∧ Below w.heap.size w wr) (fun _ iv _ => m.cells.length - (intOf iv).toNat)
  case atStart => exact ⟨0, none, 0, [], Nat.zero_le _, rfl, by simp [keepC], rfl, Mid.nil w w.heap.size 148 4, Below.refl _ _⟩
  case round =>
    obtain ⟨k, oa, oc, L, hk, rfl, hL, rfl, hm, hb⟩ := hrel
    have d5 := (hb.cell (p := ⟨rb, 5, none⟩) hrl).trans c5
    have hLl : L.length ≤ m.cells.length := by rw [hL]; exact Nat.le_trans (keepC_len _ _ _) (by simp; omega)
    by_cases hlt : k < m.cells.length
    · obtain ⟨b, o, e1, hbl, k0, k1, k2, k3⟩ := cell_get (HSL.out.below hb) k hlt hlt
      rw [e1] at d5
      obtain ⟨⟨xr, xc, x1, x2⟩, hx⟩ : ∃ x, m.cells[k] = x := ⟨_, rfl⟩
      rw [hx] at k0 k1 k2 k3
      dsimp only at k0 k1 k2 k3
      have i0' : (0 : Int) ≤ (k : Int) := by omega
      have i1 : (k : Int) < (m.cells.length : Int) := by omega
      clear e1
      by_cases hc1 : xr = row
      · have hLt : L = keepC row col (m.cells.take (k + 1)) := by rw [hL, keepC_skip hlt (by rw [hx]; exact .inl hc1)]
        have HM := Lib.hid hm
        have HB := Lib.hid hb
        have HL := Lib.hid hLt
        clear hm hb hLt hL hx
        skip
        go_wp2
        go_roundw
        case rel => exact ⟨k + 1, oa, oc, L, by omega, by go_num, HL.out, rfl, HM.out, HB.out⟩
        case measure => simp [intOf]; omega
      · by_cases hc2 : xc = col
        · have hLt : L = keepC row col (m.cells.take (k + 1)) := by rw [hL, keepC_skip hlt (by rw [hx]; exact .inr hc2)]
          have HM := Lib.hid hm
          have HB := Lib.hid hb
          have HL := Lib.hid hLt
          clear hm hb hLt hL hx
          skip
          go_wp2
          go_roundw
          case rel => exact ⟨k + 1, oa, oc, L, by omega, by go_num, HL.out, rfl, HM.out, HB.out⟩
          case measure => simp [intOf]; omega
        · have hLt : L ++ [⟨xr, xc, x1, x2⟩] = keepC row col (m.cells.take (k + 1)) := by rw [hL, keepC_take hlt (by rw [hx]; exact hc1) (by rw [hx]; exact hc2), hx]
          have HM := Lib.hid hm
          have HB := Lib.hid hb
          have HL := Lib.hid hLt
          clear hm hb hLt hL hx
          have e1 : (xr != row) = true := by simp [hc1]
          have e2 : (xc != col) = true := by simp [hc2]
          have HM3 := Lib.hid (HM.out.alloc (.cells #[.int .i64 xr, .int .i64 xc, .int .i64 x1, .int .i64 x2] 148))
          have HS3 := Lib.hid (show Src Tryz.prog 4 30 (.slice (some ⟨wr.heap.size, 0, none⟩) 1 1) 1 [.int .i64 xr, .int .i64 xc, .int .i64 x1, .int .i64 x2] (wr.alloc (.cells #[.int .i64 xr, .int .i64 xc, .int .i64 x1, .int .i64 x2] 148)) from
            (Sl.lit wr 148 4 1 [.int .i64 xr, .int .i64 xc, .int .i64 x1, .int .i64 x2] (by unfold maxLen; omega) rfl).src (P := Tryz.prog) Tryz.underlying30 (fun u hu => by
              simp only [List.mem_cons, List.not_mem_nil, or_false] at hu
              rcases hu with rfl | rfl | rfl | rfl <;> rfl))
          have HW3 := Lib.hid (show w.heap.size ≤ (wr.alloc (.cells #[.int .i64 xr, .int .i64 xc, .int .i64 x1, .int .i64 x2] 148)).heap.size by have := HB.out.size; simp; omega)
          go_wp2_with (at_builtin; refine wpList_append_mid (v := .slice oa L.length oc) rfl _ _ 30 30 rfl i0 (.agg #[.int .i64 0, .int .i64 0, .int .i64 0, .int .i64 0]) 32 Tryz.underlying30 hi hz0 hz1 hz2 rfl rfl HM3.out _ rfl 1 _ HS3.out (by unfold maxLen; omega) (by omega) HW3.out ?_; intro a4 c4 w4 hmo hgo hbo; have HMO4 := Lib.hid hmo; have HGO4 := Lib.hid hgo; clear hmo hgo hbo)
          go_roundw
          case rel =>
            refine ⟨k + 1, a4, c4, L ++ [⟨xr, xc, x1, x2⟩], by omega, by go_num, HL.out, by rw [List.length_append]; rfl, ?_, ?_⟩
            · have := HMO4.out
              simp only [List.length_append, List.length_cons, List.length_nil, List.flatMap_append]
              exact this
            · exact (HB.out.alloc HB.out.size _).grown HGO4.out HW3.out fun q hq => (HM.out.lt q hq).1
          case measure => simp [intOf]; omega
    · obtain rfl : k = m.cells.length := by omega
      rw [List.take_length] at hL
      have g5 := (hb.frozen (p := ⟨rb, 5, none⟩) hrl).trans f5
      have HM := Lib.hid hm
      have HB := Lib.hid hb
      have HL := Lib.hid hL
      clear hb hm hL
      go_wp2
      (try simp only [Exit.inBlock, Exit.then])
      refine bodyPost_end (results_none rfl _ _ _) rfl ?_
      rw [← HL.out]
      refine ⟨rfl, _, RBx.set5 HQ.out (HM.out.mono (Nat.zero_le _)) (Keeps.of_below HB.out fun b h1 h2 => by omega) fun k hk => .inr (HM.out.lt k hk).1⟩
end Go.Proofs.YtaehklhbokocbaaGreatDoor
namespace Go.Proofs.YtaehklhbokocbaaGreatDoor
open Go.RowKit Go.Extern.Stop Go.Stop Go.Extern
theorem RAx.step {w w1 w2 : World} {rb : Nat} {H H1 : Nat → Prop} {h : RH} {m : RM} (hs : ∀ k, H1 k → H k ∨ w.heap.size ≤ k) (hkp : Keeps w w1 H) (hx : RAx w1 rb H1 h m w2) : RAx w rb H h m w2 := by
  obtain ⟨G2, h1, h2, h3⟩ := hx
  have hz := hkp.size
  refine ⟨G2, h1, fun k hk => ?_, hkp.trans h3 fun b hb hg => ?_⟩
  · rcases h2 k hk with h4 | h4
    · exact hs k h4
    · exact .inr (by omega)
  · rcases hs b hg with h4 | h4
    · exact h4
    · omega
theorem below_keeps {w w' : World} {p : Nat → Prop} (h : Below w.heap.size w w') : Keeps w w' p := Keeps.of_below h fun b h1 h2 => by omega
set_option maxRecDepth 100000 in
set_option maxHeartbeats 8000000 in
theorem r_dropCol (rb : Nat) (H : Nat → Prop) (m : RM) (id : Int) (w : World) (hr : RB w rb H m) (hw : RWf m) (hcl : m.cells.length ≤ 1000000000000) :
    Calls Tryz.prog 44 #[.pointer (some ⟨rb, 0, none⟩), .int .i64 id] w (RSetR w rb H (m.dropCol id)) := by
  obtain ⟨h, hq, -⟩ := hr
  have hrbl := lt_of_block hq.1
  obtain ⟨w0, hw0⟩ : ∃ w0, w.alloc (.cells #[.int .i64 0, .string ⟨#[]⟩, .int .i64 0] 100) = w0 := ⟨_, rfl⟩
  have hb0 : Below w.heap.size w w0 := by rw [← hw0]; exact belowBox w (.cells #[.int .i64 0, .string ⟨#[]⟩, .int .i64 0] 100)
  have hz : w.heap.size < w0.heap.size := by rw [← hw0]; simp
  have q0 : w0.cell? ⟨w.heap.size, 0, none⟩ = some (.int .i64 0) := by rw [← hw0]; simp
  have q1 : w0.cell? ⟨w.heap.size, 1, none⟩ = some (.string ⟨#[]⟩) := by rw [← hw0]; simp
  have q2 : w0.cell? ⟨w.heap.size, 2, none⟩ = some (.int .i64 0) := by rw [← hw0]; simp
  have qf : ∀ j, w0.frozen? ⟨w.heap.size, j, none⟩ = false := by intro j; rw [← hw0]; simp
  have hq0 := Box.below hq hb0
  have k0 := RBx.c1 hq0
  have HAT := Lib.hid (at_any h.a1 m.cols.length h.c1 m.cols id w0 (RBx.sl1 hq0))
  have HQ := Lib.hid hq
  have HB0 := Lib.hid hb0
  have HW := Lib.hid hw
  clear hq hq0 hb0 hw
  go_enter Tryz.func44, Tryz.ntmps44
  go_wp2_with fail
  (try simp only [hw0])
  clear hw0
  go_wp2_with fail
  refine HAT.out.mono ?_
  rintro e w1 ⟨rfl, hb1⟩
  have hq1 := Box.below (Box.below HQ.out HB0.out) hb1
  have hbw := bthen HB0.out hb1
  have r0 := (hb1.cell (p := ⟨w.heap.size, 0, none⟩) hz).trans q0
  have r1 := (hb1.cell (p := ⟨w.heap.size, 1, none⟩) hz).trans q1
  have r2 := (hb1.cell (p := ⟨w.heap.size, 2, none⟩) hz).trans q2
  have f0 := (hb1.frozen (p := ⟨w.heap.size, 0, none⟩) hz).trans (qf 0)
  have f1 := (hb1.frozen (p := ⟨w.heap.size, 1, none⟩) hz).trans (qf 1)
  have f2 := (hb1.frozen (p := ⟨w.heap.size, 2, none⟩) hz).trans (qf 2)
  have hz1 : w.heap.size < w1.heap.size := Nat.lt_of_lt_of_le hz hb1.size
  have HB1 := Lib.hid hbw
  clear hbw q0 q1 q2 qf k0 hb1
  by_cases hh : atI m.cols id < m.cols.length
  case neg =>
    have ha : atV m.cols id = -1 := by unfold atV; rw [if_neg hh]
    rw [ha]
    have HE := Lib.hid (show m.dropCol id = ((231, whCol, id), m) by unfold RM.dropCol; rw [if_neg hh])
    clear hq1 ha
    go_wp2_with fail
    refine bodyPost_ret (v := .agg #[.int .i64 231, .string ⟨#[99, 111, 108, 117, 109, 110]⟩, .int .i64 id]) (by simp [results, Tryz.results44, go_sem, r0, r1, r2]) rfl ?_
    rw [HE.out]
    exact ⟨rfl, RAct.none HB1.out HQ.out (by omega) hz1 _ _ _⟩
  case pos =>
    have ha : atV m.cols id = (atI m.cols id : Int) := by unfold atV; rw [if_pos hh]
    obtain ⟨k, hk⟩ : ∃ k, atI m.cols id = k := ⟨_, rfl⟩
    rw [hk] at ha hh
    rw [ha]
    have i0 : (0 : Int) ≤ (k : Int) := by omega
    have hnz : ¬ H w.heap.size := fun hh => by have := Box.lt HQ.out _ hh; omega
    have HNZ := Lib.hid hnz
    have HX0 := Lib.hid (RAx.refl hq1)
    have HM0 := Lib.hid (rfl : m = m)
    have hr1 : rb < w1.heap.size := lt_of_block hq1.1
    clear hq1 ha hnz
    have HKE := Lib.hid hk
    have HCL := Lib.hid (show m.cells.length ≤ 1000000000000 from hcl)
    clear hk
    go_upto_region 4 with fail
    go_cut [] (fun wx => ∃ h', RAx w1 rb H h' { m with cols := m.cols.eraseIdx k } wx)
    case first =>
      obtain ⟨G1, hq1, hg1, hk1⟩ := HX0.out
      have c0 := RBx.c1 hq1
      have f9 := Box.free hq1 1
      have hr9 := lt_of_block hq1.1
      have hfl : m.cols.length ≤ 4096 := by have h1 := HW.out.rl; have h2 := HW.out.cl; have h3 := HW.out.kl; have h4 := HW.out.hl; have h5 := HW.out.ol; (try dsimp only); omega
      have HC := Lib.hid (without_any _ _ _ m.cols k _ (RBx.sl1 hq1) rfl hfl (by have h1 := HW.out.rl; have h2 := HW.out.cl; omega))
      clear hq1 hg1 hk1 hfl
      go_wp2_with fail
      refine HC.out.mono ?_
      rintro e w2 ⟨a2, c2, rfl, hm2, hb2⟩
      have c9 := (hb2.cell (p := ⟨rb, 1, none⟩) hr9).trans c0
      have f8 := (hb2.frozen (p := ⟨rb, 1, none⟩) hr9).trans f9
      have HM2 := Lib.hid hm2
      have HB2 := Lib.hid hb2
      clear hm2 hb2 c0 f9
      go_wp2_with fail
      go_meet
      exact ⟨_, HX0.out.trans fun G1 hq1 => RBx.set1 hq1 (HM2.out.mono (Nat.zero_le _)) (below_keeps HB2.out) fun k hk => .inr (HM2.out.lt k hk).1⟩
    case rest =>
      obtain ⟨h1, hx⟩ := hcut
      obtain ⟨W1, hwc⟩ : ∃ W1 : World, W1 = wc := ⟨_, rfl⟩
      subst hwc
      obtain ⟨M1, hM⟩ : ∃ M1, M1 = { m with cols := m.cols.eraseIdx k } := ⟨_, rfl⟩
      rw [← hM] at hx
      have HX1 := Lib.hid hx
      have HM1 := Lib.hid hM
      clear hx hM
      go_upto_region 5 with fail
      go_cut [] (fun wx => ∃ h', RAx w1 rb H h' { M1 with costs := M1.costs.eraseIdx k } wx)
      case first =>
        obtain ⟨G1, hq1, hg1, hk1⟩ := HX1.out
        have c0 := RBx.c4 hq1
        have f9 := Box.free hq1 4
        have hr9 := lt_of_block hq1.1
        have hfl : M1.costs.length ≤ 4096 := by rw [HM1.out]; have h1 := HW.out.rl; have h2 := HW.out.cl; have h3 := HW.out.kl; have h4 := HW.out.hl; have h5 := HW.out.ol; (try dsimp only); omega
        have HC := Lib.hid (values_any _ _ _ M1.costs k _ (RBx.sl4 hq1) rfl hfl (by have h1 := HW.out.rl; have h2 := HW.out.cl; omega))
        clear hq1 hg1 hk1 hfl
        go_wp2_with fail
        refine HC.out.mono ?_
        rintro e w2 ⟨a2, c2, rfl, hm2, hb2⟩
        have c9 := (hb2.cell (p := ⟨rb, 4, none⟩) hr9).trans c0
        have f8 := (hb2.frozen (p := ⟨rb, 4, none⟩) hr9).trans f9
        have HM2 := Lib.hid hm2
        have HB2 := Lib.hid hb2
        clear hm2 hb2 c0 f9
        go_wp2_with fail
        go_meet
        exact ⟨_, HX1.out.trans fun G1 hq1 => RBx.set4 hq1 (HM2.out.mono (Nat.zero_le _)) (below_keeps HB2.out) fun k hk => .inr (HM2.out.lt k hk).1⟩
      case rest =>
        obtain ⟨h2, hx⟩ := hcut
        obtain ⟨W2, hwc⟩ : ∃ W2 : World, W2 = wc := ⟨_, rfl⟩
        subst hwc
        obtain ⟨M2, hM⟩ : ∃ M2, M2 = { M1 with costs := M1.costs.eraseIdx k } := ⟨_, rfl⟩
        rw [← hM] at hx
        have HX2 := Lib.hid hx
        have HM2 := Lib.hid hM
        clear hx hM
        obtain ⟨G1, hq1, hg1, hk1⟩ := HX2.out
        have hcl2 : M2.cells.length ≤ 1000000000000 := by rw [HM2.out]; rw [HM1.out]; exact HCL.out
        have HC := Lib.hid (r_cells rb G1 h2 M2 0 id _ hq1 hcl2)
        have HN1 := Lib.hid hg1
        have HK1 := Lib.hid hk1
        clear hq1 hg1 hk1 hcl2
        go_wp2_with fail
        refine HC.out.mono ?_
        rintro e w8 ⟨rfl, h8, hx8⟩
        have hx9 : RAx w1 rb H h8 { M2 with cells := keepC 0 id M2.cells } w8 := RAx.step HN1.out HK1.out hx8
        obtain ⟨M9, hM9⟩ : ∃ M9, M9 = { M2 with cells := keepC 0 id M2.cells } := ⟨_, rfl⟩
        rw [← hM9] at hx9
        have HX := Lib.hid hx9
        have s0 := (RAx.far hx9 hz1 HNZ.out 0).1.trans r0
        have s1 := (RAx.far hx9 hz1 HNZ.out 1).1.trans r1
        have s2 := (RAx.far hx9 hz1 HNZ.out 2).1.trans r2
        have p0 := (RAx.far hx9 hz1 HNZ.out 0).2.trans f0
        have p1 := (RAx.far hx9 hz1 HNZ.out 1).2.trans f1
        have p2 := (RAx.far hx9 hz1 HNZ.out 2).2.trans f2
        have HE := Lib.hid (show m.dropCol id = (noF, M9) by
          unfold RM.dropCol
          rw [HKE.out, if_pos hh, hM9, HM2.out, HM1.out])
        clear hx9 hx8 hM9 r0 r1 r2 f0 f1 f2 HC
        go_wp2_with fail
        refine bodyPost_ret (v := .agg #[.int .i64 0, .string ⟨#[]⟩, .int .i64 0]) (by simp [results, Tryz.results44, go_sem, s0, s1, s2]) rfl ?_
        rw [HE.out]
        refine ⟨rfl, ?_⟩
        exact RAct.fin HB1.out (Box.lt HQ.out) HX.out (by omega) hz1 (set3 _ _ _ _ _)
set_option maxRecDepth 100000 in
set_option maxHeartbeats 8000000 in
theorem r_dropRow (rb : Nat) (H : Nat → Prop) (m : RM) (id : Int) (w : World) (hr : RB w rb H m) (hw : RWf m) (hcl : m.cells.length ≤ 1000000000000) :
    Calls Tryz.prog 43 #[.pointer (some ⟨rb, 0, none⟩), .int .i64 id] w (RSetR w rb H (m.dropRow id)) := by
  obtain ⟨h, hq, -⟩ := hr
  have hrbl := lt_of_block hq.1
  obtain ⟨w0, hw0⟩ : ∃ w0, w.alloc (.cells #[.int .i64 0, .string ⟨#[]⟩, .int .i64 0] 100) = w0 := ⟨_, rfl⟩
  have hb0 : Below w.heap.size w w0 := by rw [← hw0]; exact belowBox w (.cells #[.int .i64 0, .string ⟨#[]⟩, .int .i64 0] 100)
  have hz : w.heap.size < w0.heap.size := by rw [← hw0]; simp
  have q0 : w0.cell? ⟨w.heap.size, 0, none⟩ = some (.int .i64 0) := by rw [← hw0]; simp
  have q1 : w0.cell? ⟨w.heap.size, 1, none⟩ = some (.string ⟨#[]⟩) := by rw [← hw0]; simp
  have q2 : w0.cell? ⟨w.heap.size, 2, none⟩ = some (.int .i64 0) := by rw [← hw0]; simp
  have qf : ∀ j, w0.frozen? ⟨w.heap.size, j, none⟩ = false := by intro j; rw [← hw0]; simp
  have hq0 := Box.below hq hb0
  have k0 := RBx.c0 hq0
  have HAT := Lib.hid (at_any h.a0 m.rows.length h.c0 m.rows id w0 (RBx.sl0 hq0))
  have HQ := Lib.hid hq
  have HB0 := Lib.hid hb0
  have HW := Lib.hid hw
  clear hq hq0 hb0 hw
  go_enter Tryz.func43, Tryz.ntmps43
  go_wp2_with fail
  (try simp only [hw0])
  clear hw0
  go_wp2_with fail
  refine HAT.out.mono ?_
  rintro e w1 ⟨rfl, hb1⟩
  have hq1 := Box.below (Box.below HQ.out HB0.out) hb1
  have hbw := bthen HB0.out hb1
  have r0 := (hb1.cell (p := ⟨w.heap.size, 0, none⟩) hz).trans q0
  have r1 := (hb1.cell (p := ⟨w.heap.size, 1, none⟩) hz).trans q1
  have r2 := (hb1.cell (p := ⟨w.heap.size, 2, none⟩) hz).trans q2
  have f0 := (hb1.frozen (p := ⟨w.heap.size, 0, none⟩) hz).trans (qf 0)
  have f1 := (hb1.frozen (p := ⟨w.heap.size, 1, none⟩) hz).trans (qf 1)
  have f2 := (hb1.frozen (p := ⟨w.heap.size, 2, none⟩) hz).trans (qf 2)
  have hz1 : w.heap.size < w1.heap.size := Nat.lt_of_lt_of_le hz hb1.size
  have HB1 := Lib.hid hbw
  clear hbw q0 q1 q2 qf k0 hb1
  by_cases hh : atI m.rows id < m.rows.length
  case neg =>
    have ha : atV m.rows id = -1 := by unfold atV; rw [if_neg hh]
    rw [ha]
    have HE := Lib.hid (show m.dropRow id = ((230, whRow, id), m) by unfold RM.dropRow; rw [if_neg hh])
    clear hq1 ha
    go_wp2_with fail
    refine bodyPost_ret (v := .agg #[.int .i64 230, .string ⟨#[114, 111, 119]⟩, .int .i64 id]) (by simp [results, Tryz.results43, go_sem, r0, r1, r2]) rfl ?_
    rw [HE.out]
    exact ⟨rfl, RAct.none HB1.out HQ.out (by omega) hz1 _ _ _⟩
  case pos =>
    have ha : atV m.rows id = (atI m.rows id : Int) := by unfold atV; rw [if_pos hh]
    obtain ⟨k, hk⟩ : ∃ k, atI m.rows id = k := ⟨_, rfl⟩
    rw [hk] at ha hh
    rw [ha]
    have i0 : (0 : Int) ≤ (k : Int) := by omega
    have hnz : ¬ H w.heap.size := fun hh => by have := Box.lt HQ.out _ hh; omega
    have HNZ := Lib.hid hnz
    have HX0 := Lib.hid (RAx.refl hq1)
    have HM0 := Lib.hid (rfl : m = m)
    have hr1 : rb < w1.heap.size := lt_of_block hq1.1
    clear hq1 ha hnz
    have HKE := Lib.hid hk
    have HCL := Lib.hid (show m.cells.length ≤ 1000000000000 from hcl)
    clear hk
    go_upto_region 4 with fail
    go_cut [] (fun wx => ∃ h', RAx w1 rb H h' { m with rows := m.rows.eraseIdx k } wx)
    case first =>
      obtain ⟨G1, hq1, hg1, hk1⟩ := HX0.out
      have c0 := RBx.c0 hq1
      have f9 := Box.free hq1 0
      have hr9 := lt_of_block hq1.1
      have hfl : m.rows.length ≤ 4096 := by have h1 := HW.out.rl; have h2 := HW.out.cl; have h3 := HW.out.kl; have h4 := HW.out.hl; have h5 := HW.out.ol; (try dsimp only); omega
      have HC := Lib.hid (without_any _ _ _ m.rows k _ (RBx.sl0 hq1) rfl hfl (by have h1 := HW.out.rl; have h2 := HW.out.cl; omega))
      clear hq1 hg1 hk1 hfl
      go_wp2_with fail
      refine HC.out.mono ?_
      rintro e w2 ⟨a2, c2, rfl, hm2, hb2⟩
      have c9 := (hb2.cell (p := ⟨rb, 0, none⟩) hr9).trans c0
      have f8 := (hb2.frozen (p := ⟨rb, 0, none⟩) hr9).trans f9
      have HM2 := Lib.hid hm2
      have HB2 := Lib.hid hb2
      clear hm2 hb2 c0 f9
      go_wp2_with fail
      go_meet
      exact ⟨_, HX0.out.trans fun G1 hq1 => RBx.set0 hq1 (HM2.out.mono (Nat.zero_le _)) (below_keeps HB2.out) fun k hk => .inr (HM2.out.lt k hk).1⟩
    case rest =>
      obtain ⟨h1, hx⟩ := hcut
      obtain ⟨W1, hwc⟩ : ∃ W1 : World, W1 = wc := ⟨_, rfl⟩
      subst hwc
      obtain ⟨M1, hM⟩ : ∃ M1, M1 = { m with rows := m.rows.eraseIdx k } := ⟨_, rfl⟩
      rw [← hM] at hx
      have HX1 := Lib.hid hx
      have HM1 := Lib.hid hM
      clear hx hM
      go_upto_region 5 with fail
      go_cut [] (fun wx => ∃ h', RAx w1 rb H h' { M1 with rhs := M1.rhs.eraseIdx k } wx)
      case first =>
        obtain ⟨G1, hq1, hg1, hk1⟩ := HX1.out
        have c0 := RBx.c3 hq1
        have f9 := Box.free hq1 3
        have hr9 := lt_of_block hq1.1
        have hfl : M1.rhs.length ≤ 4096 := by rw [HM1.out]; have h1 := HW.out.rl; have h2 := HW.out.cl; have h3 := HW.out.kl; have h4 := HW.out.hl; have h5 := HW.out.ol; (try dsimp only); omega
        have HC := Lib.hid (values_any _ _ _ M1.rhs k _ (RBx.sl3 hq1) rfl hfl (by have h1 := HW.out.rl; have h2 := HW.out.cl; omega))
        clear hq1 hg1 hk1 hfl
        go_wp2_with fail
        refine HC.out.mono ?_
        rintro e w2 ⟨a2, c2, rfl, hm2, hb2⟩
        have c9 := (hb2.cell (p := ⟨rb, 3, none⟩) hr9).trans c0
        have f8 := (hb2.frozen (p := ⟨rb, 3, none⟩) hr9).trans f9
        have HM2 := Lib.hid hm2
        have HB2 := Lib.hid hb2
        clear hm2 hb2 c0 f9
        go_wp2_with fail
        go_meet
        exact ⟨_, HX1.out.trans fun G1 hq1 => RBx.set3 hq1 (HM2.out.mono (Nat.zero_le _)) (below_keeps HB2.out) fun k hk => .inr (HM2.out.lt k hk).1⟩
      case rest =>
        obtain ⟨h2, hx⟩ := hcut
        obtain ⟨W2, hwc⟩ : ∃ W2 : World, W2 = wc := ⟨_, rfl⟩
        subst hwc
        obtain ⟨M2, hM⟩ : ∃ M2, M2 = { M1 with rhs := M1.rhs.eraseIdx k } := ⟨_, rfl⟩
        rw [← hM] at hx
        have HX2 := Lib.hid hx
        have HM2 := Lib.hid hM
        clear hx hM
        obtain ⟨i00, hi, hz0, hz1', hz2⟩ := info_parts Tryz.infoKind
        obtain ⟨G1, hq1, hg1, hk1⟩ := HX2.out
        have hrl := lt_of_block hq1.1
        have c2 := RBx.c2 hq1
        have f9 := Box.free hq1 2
        obtain ⟨L0, hL0⟩ : ∃ L0, L0 = M2.kinds := ⟨_, rfl⟩
        have HR := Lib.hid (RBx.sl2 hq1)
        rw [← hL0] at HR c2
        have hlen := HR.out.lenI
        have hl : L0.length ≤ 4096 := by rw [hL0, HM2.out, HM1.out]; have h1 := HW.out.rl; have h3 := HW.out.kl; (try dsimp only); omega
        have ht : k ≤ 4096 := by have h1 := HW.out.rl; omega
        have HL0 := Lib.hid hL0
        have HQ1 := Lib.hid hq1
        have HG1 := Lib.hid hg1
        have HK1 := Lib.hid hk1
        clear hq1 hg1 hk1 hL0
        obtain ⟨wb, hwb⟩ : ∃ wb : World, wb = W2 := ⟨_, rfl⟩
        subst hwb
        go_upto_region 8 with fail
        go_loopw [6, 7] (fun ov iv wr => ∃ (j : Nat) (oa : Option Addr) (oc : Nat) (L : List Int), j ≤ L0.length ∧ iv = .int .i64 j ∧ L = (L0.take j).eraseIdx k ∧ ov = .slice oa L.length oc ∧ Mid wr wb.heap.size 34 1 (.slice oa L.length oc) L.length (L.map IV) ∧ Below wb.heap.size wb wr) (fun _ iv _ => L0.length - (intOf iv).toNat)
        case atStart => exact ⟨0, none, 0, [], Nat.zero_le _, rfl, by simp, rfl, Mid.nil wb wb.heap.size 34 1, Below.refl _ _⟩
        case round =>
          obtain ⟨j, oa, oc, L, hj, rfl, hL, rfl, hm, hb⟩ := hrel
          have d2 := (hb.cell (p := ⟨rb, 2, none⟩) hrl).trans c2
          by_cases hlt : j < L0.length
          · obtain ⟨b, oo, e1, hbl, kk0⟩ := int_get (HR.out.below hb) j hlt hlt
            rw [e1] at d2
            obtain ⟨x, hx⟩ : ∃ x, L0[j] = x := ⟨_, rfl⟩
            rw [hx] at kk0
            have i0' : (0 : Int) ≤ (j : Int) := by omega
            have i1 : (j : Int) < (L0.length : Int) := by omega
            clear e1
            by_cases he : (j : Int) = (k : Int)
            · have hLt : L = (L0.take (j + 1)).eraseIdx k := by
                rw [hL, erase_skip L0 j k hlt (by omega)]
              have HM := Lib.hid hm
              have HB := Lib.hid hb
              have HL := Lib.hid hLt
              clear hm hb hLt hL hx
              go_wp2
              go_roundw
              case rel => exact ⟨j + 1, oa, oc, L, by omega, by go_num, HL.out, rfl, HM.out, HB.out⟩
              case measure => simp [intOf]; omega
            · have hLt : L ++ [x] = (L0.take (j + 1)).eraseIdx k := by
                rw [hL, erase_more L0 j k hlt (by omega), hx]
              have hLl : L.length ≤ 4096 := by
                have := (List.eraseIdx_sublist (L0.take j) k).length_le
                rw [hL]
                simp at this
                omega
              have HM := Lib.hid hm
              have HB := Lib.hid hb
              have HL := Lib.hid hLt
              clear hm hb hLt hL hx
              have HM3 := Lib.hid (HM.out.alloc (.cells #[.int .i64 x] 34))
              have HS3 := Lib.hid (show Src Tryz.prog 1 28 (.slice (some ⟨wr.heap.size, 0, none⟩) 1 1) 1 [.int .i64 x] (wr.alloc (.cells #[.int .i64 x] 34)) from
                (Sl.lit wr 34 1 1 [.int .i64 x] (by unfold maxLen; omega) rfl).src (P := Tryz.prog) Tryz.underlying28 (fun u hu => by
                  simp only [List.mem_cons, List.not_mem_nil, or_false] at hu
                  rcases hu with rfl; rfl))
              have HW3 := Lib.hid (show wb.heap.size ≤ (wr.alloc (.cells #[.int .i64 x] 34)).heap.size by have := HB.out.size; simp; omega)
              go_wp2_with (at_builtin; refine wpList_append_mid (v := .slice oa L.length oc) rfl _ _ 28 28 rfl i00 (.int .i64 0) 8 Tryz.underlying28 hi hz0 hz1' hz2 rfl rfl HM3.out _ rfl 1 _ HS3.out (by unfold maxLen; omega) (by omega) HW3.out ?_; intro a4 c4 w4 hmo hgo hbo; have HMO4 := Lib.hid hmo; have HGO4 := Lib.hid hgo; clear hmo hgo hbo)
              go_roundw
              case rel =>
                refine ⟨j + 1, a4, c4, L ++ [x], by omega, by go_num, HL.out, by rw [List.length_append]; rfl, ?_, ?_⟩
                · have := HMO4.out
                  simp only [List.length_append, List.length_cons, List.length_nil, List.map_append]
                  exact this
                · exact (HB.out.alloc HB.out.size _).grown HGO4.out HW3.out fun q hq => (HM.out.lt q hq).1
              case measure => simp [intOf]; omega
          · obtain rfl : j = L0.length := by omega
            rw [List.take_length] at hL
            have d9 := (hb.frozen (p := ⟨rb, 2, none⟩) hrl).trans f9
            have hx3 : RAx w1 rb H { h2 with a2 := oa, c2 := oc } { M2 with kinds := M2.kinds.eraseIdx k } (wr.setCell ⟨rb, 2, none⟩ (.slice oa L.length oc)) := by
              rw [HL0.out] at hL
              rw [← hL]
              exact RAx.step HG1.out HK1.out (RBx.set2 HQ1.out (hm.mono (Nat.zero_le _)) (below_keeps hb) fun k hk => .inr (hm.lt k hk).1)
            obtain ⟨h3, hh3⟩ : ∃ h3, h3 = { h2 with a2 := oa, c2 := oc } := ⟨_, rfl⟩
            obtain ⟨M3, hM3⟩ : ∃ M3, M3 = { M2 with kinds := M2.kinds.eraseIdx k } := ⟨_, rfl⟩
            rw [← hh3, ← hM3] at hx3
            have HX3 := Lib.hid hx3
            have HM3 := Lib.hid hM3
            clear hx3 hh3 hM3 hL hm hb hlt
            go_upto_region 12 with fail
            go_cut [] (fun wx => RAx w1 rb H h3 M3 wx)
            case first =>
              go_wp2_with fail
              go_meet
              exact HX3.out
            case rest =>
              have HX3 := Lib.hid hcut
              clear hcut
              obtain ⟨G1, hq1, hg1, hk1⟩ := HX3.out
              have hcl2 : M3.cells.length ≤ 1000000000000 := by rw [HM3.out]; rw [HM2.out, HM1.out]; exact HCL.out
              have HC := Lib.hid (r_cells rb G1 h3 M3 id 0 _ hq1 hcl2)
              have HN1 := Lib.hid hg1
              have HK1 := Lib.hid hk1
              clear hq1 hg1 hk1 hcl2
              go_wp2_with fail
              refine HC.out.mono ?_
              rintro e w8 ⟨rfl, h8, hx8⟩
              have hx9 : RAx w1 rb H h8 { M3 with cells := keepC id 0 M3.cells } w8 := RAx.step HN1.out HK1.out hx8
              obtain ⟨M9, hM9⟩ : ∃ M9, M9 = { M3 with cells := keepC id 0 M3.cells } := ⟨_, rfl⟩
              rw [← hM9] at hx9
              have HX := Lib.hid hx9
              have s0 := (RAx.far hx9 hz1 HNZ.out 0).1.trans r0
              have s1 := (RAx.far hx9 hz1 HNZ.out 1).1.trans r1
              have s2 := (RAx.far hx9 hz1 HNZ.out 2).1.trans r2
              have p0 := (RAx.far hx9 hz1 HNZ.out 0).2.trans f0
              have p1 := (RAx.far hx9 hz1 HNZ.out 1).2.trans f1
              have p2 := (RAx.far hx9 hz1 HNZ.out 2).2.trans f2
              have HE := Lib.hid (show m.dropRow id = (noF, M9) by
                unfold RM.dropRow
                rw [HKE.out, if_pos hh, hM9, HM3.out, HM2.out, HM1.out])
              clear hx9 hx8 hM9 r0 r1 r2 f0 f1 f2 HC
              go_wp2_with fail
              refine bodyPost_ret (v := .agg #[.int .i64 0, .string ⟨#[]⟩, .int .i64 0]) (by simp [results, Tryz.results43, go_sem, s0, s1, s2]) rfl ?_
              rw [HE.out]
              refine ⟨rfl, ?_⟩
              exact RAct.fin HB1.out (Box.lt HQ.out) HX.out (by omega) hz1 (set3 _ _ _ _ _)
end Go.Proofs.YtaehklhbokocbaaGreatDoor
namespace Go.Proofs.YtaehklhbokocbaaGreatDoor
open Go.RowKit Go.Extern.Stop Go.Stop Go.Extern
set_option maxRecDepth 100000 in
set_option maxHeartbeats 8000000 in
theorem r_setCoef (rb : Nat) (H : Nat → Prop) (m : RM) (id jd : Int) (v : Int × Int) (w : World) (hr : RB w rb H m) (hw : RWf m) (hcl : m.cells.length ≤ 1000000000000) :
    Calls Tryz.prog 45 #[.pointer (some ⟨rb, 0, none⟩), .int .i64 id, .int .i64 jd, .agg #[.int .i64 v.1, .int .i64 v.2]] w (RSetR w rb H (m.setCoef id jd v)) := by
  obtain ⟨ii0, hi, hz0, hz1', hz2⟩ := info_parts Tryz.infoCell
  obtain ⟨h, hq, -⟩ := hr
  have hrbl := lt_of_block hq.1
  obtain ⟨w0, hw0⟩ : ∃ w0, (w.alloc (.cells #[.int .i64 v.1, .int .i64 v.2] 97)).alloc (.cells #[.int .i64 0, .string ⟨#[]⟩, .int .i64 0] 100) = w0 := ⟨_, rfl⟩
  have hb0 : Below w.heap.size w w0 := by rw [← hw0]; exact bthen (belowBox w (.cells #[.int .i64 v.1, .int .i64 v.2] 97)) (belowBox _ (.cells #[.int .i64 0, .string ⟨#[]⟩, .int .i64 0] 100))
  have hz : (w.heap.size + 1) < w0.heap.size := by rw [← hw0]; simp
  have q0 : w0.cell? ⟨(w.heap.size + 1), 0, none⟩ = some (.int .i64 0) := by rw [← hw0]; simp
  have q1 : w0.cell? ⟨(w.heap.size + 1), 1, none⟩ = some (.string ⟨#[]⟩) := by rw [← hw0]; simp
  have q2 : w0.cell? ⟨(w.heap.size + 1), 2, none⟩ = some (.int .i64 0) := by rw [← hw0]; simp
  have qf : ∀ j, w0.frozen? ⟨(w.heap.size + 1), j, none⟩ = false := by intro j; rw [← hw0]; simp
  have b0 : w0.cell? ⟨w.heap.size, 0, none⟩ = some (.int .i64 v.1) := by rw [← hw0]; simp
  have b1 : w0.cell? ⟨w.heap.size, 1, none⟩ = some (.int .i64 v.2) := by rw [← hw0]; simp
  have hq0 := Box.below hq hb0
  have k0 := RBx.c0 hq0
  have HAT := Lib.hid (at_any h.a0 m.rows.length h.c0 m.rows id w0 (RBx.sl0 hq0))
  have HAT2 := Lib.hid (fun W (hb : Below w.heap.size w W) => at_any h.a1 m.cols.length h.c1 m.cols jd W (RBx.sl1 (Box.below hq hb)))
  have HQ := Lib.hid hq
  have HB0 := Lib.hid hb0
  have HCL := Lib.hid hcl
  clear hq hq0 hb0 hw hcl
  go_enter Tryz.func45, Tryz.ntmps45
  go_wp2_with fail
  (try simp only [hw0])
  clear hw0
  go_wp2_with fail
  refine HAT.out.mono ?_
  rintro e w1 ⟨rfl, hb1⟩
  have hbw := bthen HB0.out hb1
  have hq1 := Box.below HQ.out hbw
  have r0 := (hb1.cell (p := ⟨(w.heap.size + 1), 0, none⟩) hz).trans q0
  have r1 := (hb1.cell (p := ⟨(w.heap.size + 1), 1, none⟩) hz).trans q1
  have r2 := (hb1.cell (p := ⟨(w.heap.size + 1), 2, none⟩) hz).trans q2
  have rf := fun j => (hb1.frozen (p := ⟨(w.heap.size + 1), j, none⟩) hz).trans (qf j)
  have v0 := (hb1.cell (p := ⟨w.heap.size, 0, none⟩) (show w.heap.size < w0.heap.size by omega)).trans b0
  have v1 := (hb1.cell (p := ⟨w.heap.size, 1, none⟩) (show w.heap.size < w0.heap.size by omega)).trans b1
  have hz1 : (w.heap.size + 1) < w1.heap.size := Nat.lt_of_lt_of_le hz hb1.size
  have HB1 := Lib.hid hbw
  clear hbw q0 q1 q2 qf k0 hb1 b0 b1
  have f0 := rf 0
  have f1 := rf 1
  have f2 := rf 2
  by_cases hh : atI m.rows id < m.rows.length
  case neg =>
    have ha : atV m.rows id = -1 := by unfold atV; rw [if_neg hh]
    clear v0 v1
    rw [ha]
    have HE := Lib.hid (show m.setCoef id jd v = ((230, whRow, id), m) by unfold RM.setCoef; rw [if_neg hh])
    clear hq1 ha
    go_wp2_with fail
    refine bodyPost_ret (v := .agg #[.int .i64 230, .string ⟨#[114, 111, 119]⟩, .int .i64 id]) (by simp [results, Tryz.results45, go_sem, r0, r1, r2]) rfl ?_
    rw [HE.out]
    exact ⟨rfl, RAct.none HB1.out HQ.out (by omega) hz1 _ _ _⟩
  case pos =>
    have ha : 0 ≤ atV m.rows id := by unfold atV; rw [if_pos hh]; omega
    obtain ⟨kr, hkr⟩ : ∃ kr, atV m.rows id = kr := ⟨_, rfl⟩
    rw [hkr] at ha ⊢
    have k1 := RBx.c1 hq1
    clear hkr f0 f1 f2 hq1
    go_wp2_with fail
    refine (HAT2.out _ HB1.out).mono ?_
    rintro e wb ⟨rfl, hb2⟩
    have hbw := HB1.out.trans (hb2.mono HB1.out.size)
    have hq1 := Box.below HQ.out hbw
    replace r0 := (hb2.cell (p := ⟨(w.heap.size + 1), 0, none⟩) hz1).trans r0
    replace r1 := (hb2.cell (p := ⟨(w.heap.size + 1), 1, none⟩) hz1).trans r1
    replace r2 := (hb2.cell (p := ⟨(w.heap.size + 1), 2, none⟩) hz1).trans r2
    replace rf := fun j => (hb2.frozen (p := ⟨(w.heap.size + 1), j, none⟩) hz1).trans (rf j)
    replace v0 := (hb2.cell (p := ⟨w.heap.size, 0, none⟩) (show w.heap.size < w1.heap.size by omega)).trans v0
    replace v1 := (hb2.cell (p := ⟨w.heap.size, 1, none⟩) (show w.heap.size < w1.heap.size by omega)).trans v1
    replace hz1 : (w.heap.size + 1) < wb.heap.size := Nat.lt_of_lt_of_le hz1 hb2.size
    replace HB1 := Lib.hid hbw
    clear hbw hb2 k1
    have f0 := rf 0
    have f1 := rf 1
    have f2 := rf 2
    by_cases hc : atI m.cols jd < m.cols.length
    case neg =>
      have ha : atV m.cols jd = -1 := by unfold atV; rw [if_neg hc]
      clear v0 v1
      rw [ha]
      have HE := Lib.hid (show m.setCoef id jd v = ((231, whCol, jd), m) by unfold RM.setCoef; rw [if_pos hh, if_neg hc])
      clear hq1 ha
      go_wp2_with fail
      refine bodyPost_ret (v := .agg #[.int .i64 231, .string ⟨#[99, 111, 108, 117, 109, 110]⟩, .int .i64 jd]) (by simp [results, Tryz.results45, go_sem, r0, r1, r2]) rfl ?_
      rw [HE.out]
      exact ⟨rfl, RAct.none HB1.out HQ.out (by omega) hz1 _ _ _⟩
    case pos =>
      have ha : 0 ≤ atV m.cols jd := by unfold atV; rw [if_pos hc]; omega
      obtain ⟨kc, hkc⟩ : ∃ kc, atV m.cols jd = kc := ⟨_, rfl⟩
      rw [hkc] at ha ⊢
      have HE := Lib.hid (show m.setCoef id jd v = (noF, { m with cells := otherC id jd m.cells ++ [⟨id, jd, v⟩] }) by unfold RM.setCoef; rw [if_pos hh, if_pos hc])
      have hlen := (RBx.sl5 hq1).lenI
      have hrl := lt_of_block hq1.1
      have c5 := RBx.c5 hq1
      have f5 := Box.free hq1 5
      have HSL := Lib.hid (RBx.sl5 hq1)
      have HQ1 := Lib.hid hq1
      have HG1 := Lib.hid (fun k (hk : H k) => (Or.inl hk : H k ∨ w.heap.size ≤ k))
      clear hkc hq1 rf
      go_upto_region 6 with fail
      go_wp2_with fail
      go_loopw [9, 10] (fun ov iv wr => ∃ (k : Nat) (oa : Option Addr) (oc : Nat) (L : List RC), k ≤ m.cells.length ∧ iv = .int .i64 k ∧ L = otherC id jd (m.cells.take k) ∧ ov = .slice oa L.length oc ∧ Mid wr wb.heap.size 148 4 (.slice oa L.length oc) L.length (L.flatMap cCells) ∧ Below wb.heap.size wb wr) (fun _ iv _ => m.cells.length - (intOf iv).toNat)
      case atStart => exact ⟨0, none, 0, [], Nat.zero_le _, rfl, by simp [otherC], rfl, Mid.nil wb wb.heap.size 148 4, Below.refl _ _⟩
      case round =>
        obtain ⟨k, oa, oc, L, hk, rfl, hL, rfl, hm, hb⟩ := hrel
        have d5 := (hb.cell (p := ⟨rb, 5, none⟩) hrl).trans c5
        have hcl := HCL.out
        have hLl : L.length ≤ m.cells.length := by rw [hL]; exact Nat.le_trans (otherC_len _ _ _) (by simp; omega)
        by_cases hlt : k < m.cells.length
        · obtain ⟨b, oo, e1, hbl, k0, k1, k2, k3⟩ := cell_get (HSL.out.below hb) k hlt hlt
          rw [e1] at d5
          obtain ⟨⟨xr, xc, x1, x2⟩, hx⟩ : ∃ x, m.cells[k] = x := ⟨_, rfl⟩
          rw [hx] at k0 k1 k2 k3
          dsimp only at k0 k1 k2 k3
          have i0' : (0 : Int) ≤ (k : Int) := by omega
          have i1 : (k : Int) < (m.cells.length : Int) := by omega
          clear e1
          by_cases hc1 : xr = id
          · by_cases hc2 : xc = jd
            · have hLt : L = otherC id jd (m.cells.take (k + 1)) := by rw [hL, otherC_skip hlt (by rw [hx]; exact hc1) (by rw [hx]; exact hc2)]
              have HM := Lib.hid hm
              have HB := Lib.hid hb
              have HL := Lib.hid hLt
              clear hm hb hLt hL hx
              skip
              go_wp2_with fail
              go_roundw
              case rel => exact ⟨k + 1, oa, oc, L, by omega, by go_num, HL.out, rfl, HM.out, HB.out⟩
              case measure => simp [intOf]; omega
            · have hLt : L ++ [⟨xr, xc, x1, x2⟩] = otherC id jd (m.cells.take (k + 1)) := by rw [hL, otherC_take hlt (by rw [hx]; exact .inr hc2), hx]
              have HM := Lib.hid hm
              have HB := Lib.hid hb
              have HL := Lib.hid hLt
              clear hm hb hLt hL hx
              subst hc1
              have e2 : (xc != jd) = true := by simp [hc2]
              have HM3 := Lib.hid (HM.out.alloc (.cells #[.int .i64 xr, .int .i64 xc, .int .i64 x1, .int .i64 x2] 148))
              have HS3 := Lib.hid (show Src Tryz.prog 4 30 (.slice (some ⟨wr.heap.size, 0, none⟩) 1 1) 1 [.int .i64 xr, .int .i64 xc, .int .i64 x1, .int .i64 x2] (wr.alloc (.cells #[.int .i64 xr, .int .i64 xc, .int .i64 x1, .int .i64 x2] 148)) from
                (Sl.lit wr 148 4 1 [.int .i64 xr, .int .i64 xc, .int .i64 x1, .int .i64 x2] (by unfold maxLen; omega) rfl).src (P := Tryz.prog) Tryz.underlying30 (fun u hu => by
                  simp only [List.mem_cons, List.not_mem_nil, or_false] at hu
                  rcases hu with rfl | rfl | rfl | rfl <;> rfl))
              have HW3 := Lib.hid (show wb.heap.size ≤ (wr.alloc (.cells #[.int .i64 xr, .int .i64 xc, .int .i64 x1, .int .i64 x2] 148)).heap.size by have := HB.out.size; simp; omega)
              go_wp2_with (at_builtin; refine wpList_append_mid (v := .slice oa L.length oc) rfl _ _ 30 30 rfl ii0 (.agg #[.int .i64 0, .int .i64 0, .int .i64 0, .int .i64 0]) 32 Tryz.underlying30 hi hz0 hz1' hz2 rfl rfl HM3.out _ rfl 1 _ HS3.out (by unfold maxLen; omega) (by omega) HW3.out ?_; intro a4 c4 w4 hmo hgo hbo; have HMO4 := Lib.hid hmo; have HGO4 := Lib.hid hgo; clear hmo hgo hbo)
              go_roundw
              case rel =>
                refine ⟨k + 1, a4, c4, L ++ [⟨xr, xc, x1, x2⟩], by omega, by go_num, HL.out, by rw [List.length_append]; rfl, ?_, ?_⟩
                · have := HMO4.out
                  simp only [List.length_append, List.length_cons, List.length_nil, List.flatMap_append]
                  exact this
                · exact (HB.out.alloc HB.out.size _).grown HGO4.out HW3.out fun q hq => (HM.out.lt q hq).1
              case measure => simp [intOf]; omega
          · have hLt : L ++ [⟨xr, xc, x1, x2⟩] = otherC id jd (m.cells.take (k + 1)) := by rw [hL, otherC_take hlt (by rw [hx]; exact .inl hc1), hx]
            have HM := Lib.hid hm
            have HB := Lib.hid hb
            have HL := Lib.hid hLt
            clear hm hb hLt hL hx
            have e1 : (xr != id) = true := by simp [hc1]
            have HM3 := Lib.hid (HM.out.alloc (.cells #[.int .i64 xr, .int .i64 xc, .int .i64 x1, .int .i64 x2] 148))
            have HS3 := Lib.hid (show Src Tryz.prog 4 30 (.slice (some ⟨wr.heap.size, 0, none⟩) 1 1) 1 [.int .i64 xr, .int .i64 xc, .int .i64 x1, .int .i64 x2] (wr.alloc (.cells #[.int .i64 xr, .int .i64 xc, .int .i64 x1, .int .i64 x2] 148)) from
              (Sl.lit wr 148 4 1 [.int .i64 xr, .int .i64 xc, .int .i64 x1, .int .i64 x2] (by unfold maxLen; omega) rfl).src (P := Tryz.prog) Tryz.underlying30 (fun u hu => by
                simp only [List.mem_cons, List.not_mem_nil, or_false] at hu
                rcases hu with rfl | rfl | rfl | rfl <;> rfl))
            have HW3 := Lib.hid (show wb.heap.size ≤ (wr.alloc (.cells #[.int .i64 xr, .int .i64 xc, .int .i64 x1, .int .i64 x2] 148)).heap.size by have := HB.out.size; simp; omega)
            go_wp2_with (at_builtin; refine wpList_append_mid (v := .slice oa L.length oc) rfl _ _ 30 30 rfl ii0 (.agg #[.int .i64 0, .int .i64 0, .int .i64 0, .int .i64 0]) 32 Tryz.underlying30 hi hz0 hz1' hz2 rfl rfl HM3.out _ rfl 1 _ HS3.out (by unfold maxLen; omega) (by omega) HW3.out ?_; intro a4 c4 w4 hmo hgo hbo; have HMO4 := Lib.hid hmo; have HGO4 := Lib.hid hgo; clear hmo hgo hbo)
            go_roundw
            case rel =>
              refine ⟨k + 1, a4, c4, L ++ [⟨xr, xc, x1, x2⟩], by omega, by go_num, HL.out, by rw [List.length_append]; rfl, ?_, ?_⟩
              · have := HMO4.out
                simp only [List.length_append, List.length_cons, List.length_nil, List.flatMap_append]
                exact this
              · exact (HB.out.alloc HB.out.size _).grown HGO4.out HW3.out fun q hq => (HM.out.lt q hq).1
            case measure => simp [intOf]; omega
        · obtain rfl : k = m.cells.length := by omega
          rw [List.take_length] at hL
          replace v0 := (hb.cell (p := ⟨w.heap.size, 0, none⟩) (show w.heap.size < wb.heap.size by omega)).trans v0
          replace v1 := (hb.cell (p := ⟨w.heap.size, 1, none⟩) (show w.heap.size < wb.heap.size by omega)).trans v1
          have hvl : w.heap.size < wr.heap.size := by have := hb.size; omega
          have hrz : rb ≠ w.heap.size + 1 := by omega
          have HM := Lib.hid hm
          have HB := Lib.hid hb
          have HL := Lib.hid hL
          clear hb hm hL
          go_upto_region 11 with fail
          have HM3 := Lib.hid (HM.out.alloc (.cells #[.int .i64 id, .int .i64 jd, .int .i64 v.1, .int .i64 v.2] 148))
          have HS3 := Lib.hid (show Src Tryz.prog 4 30 (.slice (some ⟨wr.heap.size, 0, none⟩) 1 1) 1 [.int .i64 id, .int .i64 jd, .int .i64 v.1, .int .i64 v.2] (wr.alloc (.cells #[.int .i64 id, .int .i64 jd, .int .i64 v.1, .int .i64 v.2] 148)) from
            (Sl.lit wr 148 4 1 [.int .i64 id, .int .i64 jd, .int .i64 v.1, .int .i64 v.2] (by unfold maxLen; omega) rfl).src (P := Tryz.prog) Tryz.underlying30 (fun u hu => by
              simp only [List.mem_cons, List.not_mem_nil, or_false] at hu
              rcases hu with rfl | rfl | rfl | rfl <;> rfl))
          have HW3 := Lib.hid (show wb.heap.size ≤ (wr.alloc (.cells #[.int .i64 id, .int .i64 jd, .int .i64 v.1, .int .i64 v.2] 148)).heap.size by have := HB.out.size; simp; omega)
          have HBG := Lib.hid (fun (w4 : World) (hg : (wr.alloc (.cells #[.int .i64 id, .int .i64 jd, .int .i64 v.1, .int .i64 v.2] 148)).grownBy w4 (Value.slice oa L.length oc).ownBlock) => (HB.out.alloc HB.out.size _).grown hg HW3.out fun q hq => (HM.out.lt q hq).1)
          go_wp2_with (at_builtin; refine wpList_append_mid (v := .slice oa L.length oc) rfl _ _ 30 30 rfl ii0 (.agg #[.int .i64 0, .int .i64 0, .int .i64 0, .int .i64 0]) 32 Tryz.underlying30 hi hz0 hz1' hz2 rfl rfl HM3.out _ rfl 1 _ HS3.out (by unfold maxLen; omega) (by omega) HW3.out ?_; intro a4 c4 w4 hmo hgo hbo; have hb4 := HBG.out w4 hgo; have HMO4 := Lib.hid hmo; have HB4 := Lib.hid hb4; have e5 := (hb4.cell (p := ⟨rb, 5, none⟩) hrl).trans c5; have g5 := (hb4.frozen (p := ⟨rb, 5, none⟩) hrl).trans f5; have s0 := (hb4.cell (p := ⟨w.heap.size + 1, 0, none⟩) hz1).trans r0; have s1 := (hb4.cell (p := ⟨w.heap.size + 1, 1, none⟩) hz1).trans r1; have s2 := (hb4.cell (p := ⟨w.heap.size + 1, 2, none⟩) hz1).trans r2; have p0 := (hb4.frozen (p := ⟨w.heap.size + 1, 0, none⟩) hz1).trans f0; have p1 := (hb4.frozen (p := ⟨w.heap.size + 1, 1, none⟩) hz1).trans f1; have p2 := (hb4.frozen (p := ⟨w.heap.size + 1, 2, none⟩) hz1).trans f2; clear hmo hgo hbo hb4)
          have hx4 : RAx wb rb H { h with a5 := a4, c5 := c4 } { m with cells := L ++ [⟨id, jd, v⟩] } (w4.setCell ⟨rb, 5, none⟩ (.slice a4 (L.length + 1) c4)) := by
            have hm4 : Mid w4 wb.heap.size 148 4 (.slice a4 (L ++ [(⟨id, jd, v⟩ : RC)]).length c4) (L ++ [(⟨id, jd, v⟩ : RC)]).length ((L ++ [(⟨id, jd, v⟩ : RC)]).flatMap cCells) := by
              have := HMO4.out
              simp only [List.length_append, List.length_cons, List.length_nil, List.flatMap_append]
              exact this
            have h5 := RBx.set5 HQ1.out (l := L ++ [⟨id, jd, v⟩]) (hm4.mono (Nat.zero_le _)) (below_keeps HB4.out) fun k hk => .inr (hm4.lt k hk).1
            rw [List.length_append] at h5
            exact h5
          refine bodyPost_ret (v := .agg #[.int .i64 0, .string ⟨#[]⟩, .int .i64 0]) (by simp [results, Tryz.results45, go_sem, s0, s1, s2, hrz]) rfl ?_
          rw [HE.out, ← HL.out]
          refine ⟨rfl, ?_⟩
          exact RAct.fin HB1.out (Box.lt HQ.out) hx4 (by omega) hz1 (set3 _ _ _ _ _)
end Go.Proofs.YtaehklhbokocbaaGreatDoor
namespace Go.Proofs.YtaehklhbokocbaaGreatDoor
open Go.RowKit Go.Extern.Stop Go.Stop Go.Extern
theorem grownB {w3 W w4 : World} {r : Option Nat} (hb : Below w3.heap.size w3 W) (hg : W.grownBy w4 r) : Keeps w3 w4 fun k => r = some k :=
  (below_keeps hb (p := fun k => r = some k)).trans (Keeps.of_grown hg (S := fun k => r = some k) fun b h => h) fun _ _ h => h
theorem grownN {w3 W : World} {x y : Option Nat} (hW : Below w3.heap.size w3 W) (hb : x = y ∨ x = some W.heap.size) : ∀ k, x = some k → y = some k ∨ w3.heap.size ≤ k := fun k hk => by
  have := hW.size
  rcases hb with e | e
  · exact .inl (e.symm.trans hk)
  · right; rw [e] at hk; cases hk; omega
theorem entR_ne {l : List Int} {en : Int} : ∀ {pre ids : List Int} {n i : Int}, entR l en pre ids = some (n, i) → n = en ∨ n = 1
  | _, [], n, i, h => by cases h
  | pre, j :: r, n, i, h => by
    unfold entR at h
    split at h
    · cases h; exact .inl rfl
    · split at h
      · cases h; exact .inr rfl
      · exact entR_ne h
theorem mid_under {w w' : World} {base : Nat} {e : TypeId} {size : Nat} {v : Value} {n : Nat} {xs : List Value} (hm : Mid w base e size v n xs) (hb : Below w.heap.size w w') : Mid w' base e size v n xs := hm.below hb fun k hk => (hm.lt k hk).2
theorem mid_stays {w w' : World} {base : Nat} {e : TypeId} {size : Nat} {v : Value} {n : Nat} {xs : List Value} {H : Nat → Prop} (hm : Mid w base e size v n xs) (hk : Keeps w w' H) (hd : ∀ k, v.ownBlock = some k → ¬ H k) : Sl w' size v n xs := Sl.ofMid (hm.keeps hk hd)
theorem RAx.push0 {w1 w3 W w4 : World} {rb : Nat} {H : Nat → Prop} {h : RH} {M : RM} (hx : RAx w1 rb H h M w3) (x : Int) {a4 : Option Addr} {c4 : Nat} {ys : List Value} (hys : [x].map IV = ys)
    (hmo : Mid w4 0 3 1 (.slice a4 (M.rows.length + 1) c4) (M.rows.length + 1) (M.rows.map IV ++ ys)) (hgo : W.grownBy w4 (Value.slice h.a0 M.rows.length h.c0).ownBlock) (hW : Below w3.heap.size w3 W)
    (hbo : (Value.slice a4 (M.rows.length + 1) c4).ownBlock = (Value.slice h.a0 M.rows.length h.c0).ownBlock ∨ (Value.slice a4 (M.rows.length + 1) c4).ownBlock = some W.heap.size) :
    RAx w1 rb H { h with a0 := a4, c0 := c4 } { M with rows := M.rows ++ [x] } (w4.setCell ⟨rb, 0, none⟩ (.slice a4 (M.rows.length + 1) c4)) := by
  refine hx.trans fun G1 hq => ?_
  subst hys
  have hl : (M.rows ++ [x]).length = M.rows.length + 1 := by simp
  have h1 := RBx.set0 hq (l := M.rows ++ [x]) (a4 := a4) (c4 := c4) (w4 := w4) (by rw [hl]; simpa using hmo) (grownB hW hgo) (by rw [hl]; exact grownN hW hbo)
  rw [hl] at h1
  exact h1
theorem RAx.push1 {w1 w3 W w4 : World} {rb : Nat} {H : Nat → Prop} {h : RH} {M : RM} (hx : RAx w1 rb H h M w3) (x : Int) {a4 : Option Addr} {c4 : Nat} {ys : List Value} (hys : [x].map IV = ys)
    (hmo : Mid w4 0 3 1 (.slice a4 (M.cols.length + 1) c4) (M.cols.length + 1) (M.cols.map IV ++ ys)) (hgo : W.grownBy w4 (Value.slice h.a1 M.cols.length h.c1).ownBlock) (hW : Below w3.heap.size w3 W)
    (hbo : (Value.slice a4 (M.cols.length + 1) c4).ownBlock = (Value.slice h.a1 M.cols.length h.c1).ownBlock ∨ (Value.slice a4 (M.cols.length + 1) c4).ownBlock = some W.heap.size) :
    RAx w1 rb H { h with a1 := a4, c1 := c4 } { M with cols := M.cols ++ [x] } (w4.setCell ⟨rb, 1, none⟩ (.slice a4 (M.cols.length + 1) c4)) := by
  refine hx.trans fun G1 hq => ?_
  subst hys
  have hl : (M.cols ++ [x]).length = M.cols.length + 1 := by simp
  have h1 := RBx.set1 hq (l := M.cols ++ [x]) (a4 := a4) (c4 := c4) (w4 := w4) (by rw [hl]; simpa using hmo) (grownB hW hgo) (by rw [hl]; exact grownN hW hbo)
  rw [hl] at h1
  exact h1
theorem RAx.push2 {w1 w3 W w4 : World} {rb : Nat} {H : Nat → Prop} {h : RH} {M : RM} (hx : RAx w1 rb H h M w3) (x : Int) {a4 : Option Addr} {c4 : Nat} {ys : List Value} (hys : [x].map IV = ys)
    (hmo : Mid w4 0 34 1 (.slice a4 (M.kinds.length + 1) c4) (M.kinds.length + 1) (M.kinds.map IV ++ ys)) (hgo : W.grownBy w4 (Value.slice h.a2 M.kinds.length h.c2).ownBlock) (hW : Below w3.heap.size w3 W)
    (hbo : (Value.slice a4 (M.kinds.length + 1) c4).ownBlock = (Value.slice h.a2 M.kinds.length h.c2).ownBlock ∨ (Value.slice a4 (M.kinds.length + 1) c4).ownBlock = some W.heap.size) :
    RAx w1 rb H { h with a2 := a4, c2 := c4 } { M with kinds := M.kinds ++ [x] } (w4.setCell ⟨rb, 2, none⟩ (.slice a4 (M.kinds.length + 1) c4)) := by
  refine hx.trans fun G1 hq => ?_
  subst hys
  have hl : (M.kinds ++ [x]).length = M.kinds.length + 1 := by simp
  have h1 := RBx.set2 hq (l := M.kinds ++ [x]) (a4 := a4) (c4 := c4) (w4 := w4) (by rw [hl]; simpa using hmo) (grownB hW hgo) (by rw [hl]; exact grownN hW hbo)
  rw [hl] at h1
  exact h1
theorem RAx.push3 {w1 w3 W w4 : World} {rb : Nat} {H : Nat → Prop} {h : RH} {M : RM} (hx : RAx w1 rb H h M w3) (x : Int × Int) {a4 : Option Addr} {c4 : Nat} {ys : List Value} (hys : [x].flatMap vCells = ys)
    (hmo : Mid w4 0 97 2 (.slice a4 (M.rhs.length + 1) c4) (M.rhs.length + 1) (M.rhs.flatMap vCells ++ ys)) (hgo : W.grownBy w4 (Value.slice h.a3 M.rhs.length h.c3).ownBlock) (hW : Below w3.heap.size w3 W)
    (hbo : (Value.slice a4 (M.rhs.length + 1) c4).ownBlock = (Value.slice h.a3 M.rhs.length h.c3).ownBlock ∨ (Value.slice a4 (M.rhs.length + 1) c4).ownBlock = some W.heap.size) :
    RAx w1 rb H { h with a3 := a4, c3 := c4 } { M with rhs := M.rhs ++ [x] } (w4.setCell ⟨rb, 3, none⟩ (.slice a4 (M.rhs.length + 1) c4)) := by
  refine hx.trans fun G1 hq => ?_
  subst hys
  have hl : (M.rhs ++ [x]).length = M.rhs.length + 1 := by simp
  have h1 := RBx.set3 hq (l := M.rhs ++ [x]) (a4 := a4) (c4 := c4) (w4 := w4) (by rw [hl]; simpa using hmo) (grownB hW hgo) (by rw [hl]; exact grownN hW hbo)
  rw [hl] at h1
  exact h1
theorem RAx.push4 {w1 w3 W w4 : World} {rb : Nat} {H : Nat → Prop} {h : RH} {M : RM} (hx : RAx w1 rb H h M w3) (x : Int × Int) {a4 : Option Addr} {c4 : Nat} {ys : List Value} (hys : [x].flatMap vCells = ys)
    (hmo : Mid w4 0 97 2 (.slice a4 (M.costs.length + 1) c4) (M.costs.length + 1) (M.costs.flatMap vCells ++ ys)) (hgo : W.grownBy w4 (Value.slice h.a4 M.costs.length h.c4).ownBlock) (hW : Below w3.heap.size w3 W)
    (hbo : (Value.slice a4 (M.costs.length + 1) c4).ownBlock = (Value.slice h.a4 M.costs.length h.c4).ownBlock ∨ (Value.slice a4 (M.costs.length + 1) c4).ownBlock = some W.heap.size) :
    RAx w1 rb H { h with a4 := a4, c4 := c4 } { M with costs := M.costs ++ [x] } (w4.setCell ⟨rb, 4, none⟩ (.slice a4 (M.costs.length + 1) c4)) := by
  refine hx.trans fun G1 hq => ?_
  subst hys
  have hl : (M.costs ++ [x]).length = M.costs.length + 1 := by simp
  have h1 := RBx.set4 hq (l := M.costs ++ [x]) (a4 := a4) (c4 := c4) (w4 := w4) (by rw [hl]; simpa using hmo) (grownB hW hgo) (by rw [hl]; exact grownN hW hbo)
  rw [hl] at h1
  exact h1
theorem RAx.push5 {w1 w3 W w4 : World} {rb : Nat} {H : Nat → Prop} {h : RH} {M : RM} (hx : RAx w1 rb H h M w3) (x : RC) {a4 : Option Addr} {c4 : Nat} {ys : List Value} (hys : [x].flatMap cCells = ys)
    (hmo : Mid w4 0 148 4 (.slice a4 (M.cells.length + 1) c4) (M.cells.length + 1) (M.cells.flatMap cCells ++ ys)) (hgo : W.grownBy w4 (Value.slice h.a5 M.cells.length h.c5).ownBlock) (hW : Below w3.heap.size w3 W)
    (hbo : (Value.slice a4 (M.cells.length + 1) c4).ownBlock = (Value.slice h.a5 M.cells.length h.c5).ownBlock ∨ (Value.slice a4 (M.cells.length + 1) c4).ownBlock = some W.heap.size) :
    RAx w1 rb H { h with a5 := a4, c5 := c4 } { M with cells := M.cells ++ [x] } (w4.setCell ⟨rb, 5, none⟩ (.slice a4 (M.cells.length + 1) c4)) := by
  refine hx.trans fun G1 hq => ?_
  subst hys
  have hl : (M.cells ++ [x]).length = M.cells.length + 1 := by simp
  have h1 := RBx.set5 hq (l := M.cells ++ [x]) (a4 := a4) (c4 := c4) (w4 := w4) (by rw [hl]; simpa using hmo) (grownB hW hgo) (by rw [hl]; exact grownN hW hbo)
  rw [hl] at h1
  exact h1
end Go.Proofs.YtaehklhbokocbaaGreatDoor
