/-
  The walk of QueueOrder: it answers true; the conditions: what errors.errorType holds; how long the script is.
  Printed by a program of this repository (wip/qu15.py).
-/
import Derived.Test.YtkbopcgijaejjaaDoorNth
import Derived.Test.YtkbopcgijaejjaaDoorBoth
namespace Go.Proofs.YtkbopcgijaejjaaDoor
open Go.RowKit Go.Extern.Stop Go.Stop Go.Extern

theorem Tryd.infoA : (Tryd.prog.info? 31).map (fun i => (i.zero, i.size, i.bytes)) = some (some (.agg #[.int .i64 0, .int .i64 0, .int .i64 0, .int .i64 0, .int .i64 0, .int .i64 0]), 6, 48) := by kernel_rfl
/-- A queue of this call's own; slices of its own; some blocks stay as they are. -/
def StO (w0 : World) (qb : Nat) (X : List (Nat × Obj)) (ps : List Pc) (rows : List Rw) (ws : List (Int × Int)) (bs : List Bool) (w : World) : Prop :=
  ∃ F, Qs w qb F rows ws bs ∧ Inv rows ws bs ∧ (∀ k, F k → w0.heap.size ≤ k) ∧ Below w0.heap.size w0 w ∧ Own w ps ∧ (∀ k, Foot ps k → w0.heap.size ≤ k ∧ ¬ F k) ∧ ∀ x ∈ X, ¬ F x.1 ∧ ¬ Foot ps x.1 ∧ w.heap[x.1]? = some x.2
section
variable {w0 w w' : World} {qb : Nat} {X : List (Nat × Obj)} {ps : List Pc} {rows : List Rw} {ws : List (Int × Int)} {bs : List Bool}
theorem StO.world (h : StO w0 qb X ps rows ws bs w) : Below w0.heap.size w0 w := by obtain ⟨_, _, _, _, h, _⟩ := h; exact h
theorem StO.inv (h : StO w0 qb X ps rows ws bs w) : Inv rows ws bs := by obtain ⟨_, _, h, _⟩ := h; exact h
theorem StO.mid (h : StO w0 qb X ps rows ws bs w) (i : Nat) {p : Pc} (hp : ps[i]? = some p) : p.mid w := by obtain ⟨_, _, _, _, _, h, _⟩ := h; exact h.1 p (List.mem_of_getElem? hp)
theorem StO.at (h : StO w0 qb X ps rows ws bs w) {b : Nat} {ob : Obj} (hx : (b, ob) ∈ X) : w.heap[b]? = some ob := by obtain ⟨_, _, _, _, _, _, _, h⟩ := h; exact (h _ hx).2.2
theorem StO.free (h : StO w0 qb X ps rows ws bs w) : StO w0 qb [] ps rows ws bs w := by obtain ⟨F, h1, h2, h3, h4, h5, h6, _⟩ := h; exact ⟨F, h1, h2, h3, h4, h5, h6, fun x hx => (by cases hx)⟩
theorem StO.below (h : StO w0 qb X ps rows ws bs w) (hb : Below w.heap.size w w') : StO w0 qb X ps rows ws bs w' := by
  obtain ⟨F, h1, h2, h3, h4, h5, h6, h7⟩ := h
  exact ⟨F, h1.below hb, h2, h3, h4.trans (hb.mono h4.size), h5.below hb, h6, fun x hx => ⟨(h7 x hx).1, (h7 x hx).2.1, (hb.block _ (lt_of_block (h7 x hx).2.2)).trans (h7 x hx).2.2⟩⟩
theorem StO.guard (h : StO w0 qb X ps rows ws bs w) (hb : Below w.heap.size w w') {b : Nat} {ob : Obj} (hlt : w.heap.size ≤ b) (hob : w'.heap[b]? = some ob) : StO w0 qb ((b, ob) :: X) ps rows ws bs w' := by
  obtain ⟨F, h1, h2, h3, h4, h5, h6, h7⟩ := h
  refine ⟨F, h1.below hb, h2, h3, h4.trans (hb.mono h4.size), h5.below hb, h6, fun x hx => ?_⟩
  rcases List.mem_cons.1 hx with rfl | hx
  · exact ⟨fun hF => by have := h1.lt _ hF; simp only at this; omega, fun hF => by have := h5.lt _ hF; simp only at this; omega, hob⟩
  · exact ⟨(h7 x hx).1, (h7 x hx).2.1, (hb.block _ (lt_of_block (h7 x hx).2.2)).trans (h7 x hx).2.2⟩
theorem StO.step {F : Nat → Prop} {R' : List Rw} {W' : List (Int × Int)} {B' : List Bool} (h3 : ∀ k, F k → w0.heap.size ≤ k) (h4 : Below w0.heap.size w0 w) (h5 : Own w ps) (h6 : ∀ k, Foot ps k → w0.heap.size ≤ k ∧ ¬ F k) (h7 : ∀ x ∈ X, ¬ F x.1 ∧ ¬ Foot ps x.1 ∧ w.heap[x.1]? = some x.2) (hq : QB w qb F R' W' B' w') (hi : Inv R' W' B') : StO w0 qb X ps R' W' B' w' := by
  obtain ⟨F', g1, g2, g3⟩ := hq.out
  have hz := h4.size
  refine ⟨F', g1, hi, fun k hk => ?_, h4.trans (g3.below hz h3), h5.keeps g3 fun k hk => (h6 k hk).2, fun k hk => ⟨(h6 k hk).1, fun hF => ?_⟩, fun x hx => ⟨fun hF => ?_, (h7 x hx).2.1, (g3.block _ (lt_of_block (h7 x hx).2.2) (h7 x hx).1).trans (h7 x hx).2.2⟩⟩
  · rcases g2 k hk with h | h
    · exact h3 k h
    · omega
  · rcases g2 _ hF with h | h
    · exact (h6 k hk).2 h
    · have := h5.lt k hk; omega
  · rcases g2 _ hF with h | h
    · exact (h7 x hx).1 h
    · have := lt_of_block (h7 x hx).2.2; omega
/-- One of the slices is another one: what is written is its own block, or new. -/
theorem StO.app (h : StO w0 qb X ps rows ws bs w) (i : Nat) (hi : i < ps.length) (p' : Pc) (hg : w.grownBy w' ps[i].v.ownBlock) (hm : p'.mid w') (hb : p'.v.ownBlock = ps[i].v.ownBlock ∨ p'.v.ownBlock = some w.heap.size) : StO w0 qb X (ps.set i p') rows ws bs w' := by
  obtain ⟨F, h1, h2, h3, h4, h5, h6, h7⟩ := h
  have hk := Keeps.of_grown hg (S := fun k => ps[i].v.ownBlock = some k) fun b h => h
  have hb' : ∀ k, p'.v.ownBlock = some k → ps[i].v.ownBlock = some k ∨ w.heap.size ≤ k := fun k hk => by
    rcases hb with e | e
    · exact .inl (e ▸ hk)
    · rw [e] at hk; cases hk; exact .inr (Nat.le_refl _)
  have hfi : ∀ k, ps[i].v.ownBlock = some k → Foot ps k := fun k hk => foot_at hi hk
  have hz := h4.size
  have ho := h5.set i hi p' hk hm hb'
  refine ⟨F, h1.keeps hk fun k hF e => (h6 k (hfi k e)).2 hF, h2, h3, h4.trans (hk.below hz fun b h => (h6 b (hfi b h)).1), ho, fun k hf => ?_, fun x hx => ⟨(h7 x hx).1, fun hf => ?_, (hk.block _ (lt_of_block (h7 x hx).2.2) fun e => (h7 x hx).2.1 (hfi _ e)).trans (h7 x hx).2.2⟩⟩
  · rcases foot_set hf with h | h
    · exact h6 k h
    · rcases hb' k h with h | h
      · exact h6 k (hfi k h)
      · exact ⟨by omega, fun hF => by have := h1.lt k hF; omega⟩
  · rcases foot_set hf with h | h
    · exact (h7 x hx).2.1 h
    · rcases hb' _ h with h | h
      · exact (h7 x hx).2.1 (hfi _ h)
      · have := lt_of_block (h7 x hx).2.2; omega
theorem put_so (h : StO w0 qb X ps rows ws bs w) (hl : allR rows ≤ 4398046511104) (t s job : Int) :
    Calls Tryd.prog 10 #[.pointer (some ⟨qb, 0, none⟩), .agg #[.int .i64 t, .int .i64 s], .int .i64 job] w fun e w' => (∃ v, e = .returned v) ∧ StO w0 qb X ps (putS rows t s job) ws bs w' := by
  obtain ⟨F, h1, h2, h3, h4, h5, h6, h7⟩ := h
  exact (put_q h1 h2 hl t s job).mono fun e w' ⟨he, hq⟩ => ⟨he, StO.step h3 h4 h5 h6 h7 hq (h2.put t s job)⟩
theorem begin_so (h : StO w0 qb X ps rows ws bs w) (hl : allR rows ≤ 4398046511104) (n p : Int) :
    Calls Tryd.prog 11 #[.pointer (some ⟨qb, 0, none⟩), .int .i64 n, .int .i64 p] w fun e w' => ∃ v, e = .returned (.tuple #[.int .i64 (beginJ rows ws bs n p), v]) ∧ ErrV (beginO rows ws bs n) n w w' v ∧ StO w0 qb X ps (beginR rows ws bs n p) (beginW rows ws bs n p) (beginB rows ws bs n) w' := by
  obtain ⟨F, h1, h2, h3, h4, h5, h6, h7⟩ := h
  exact (begin_q h1 h2 hl n p).mono fun e w' ⟨v, he, hv, hq⟩ => ⟨v, he, hv, StO.step h3 h4 h5 h6 h7 hq (h2.begin hl n p)⟩
theorem end_so (h : StO w0 qb X ps rows ws bs w) (hl : allR rows ≤ 4398046511104) (n : Int) :
    Calls Tryd.prog 12 #[.pointer (some ⟨qb, 0, none⟩), .int .i64 n] w fun e w' => ∃ v, e = .returned (.tuple #[.agg #[.int .i64 (endK ws bs n).1, .int .i64 (endK ws bs n).2], .int .i64 (endJ rows ws bs n), v]) ∧ ErrV (endO ws bs n) n w w' v ∧ StO w0 qb X ps (endR rows ws bs n) ws (endB ws bs n) w' := by
  obtain ⟨F, h1, h2, h3, h4, h5, h6, h7⟩ := h
  exact (end_q h1 h2 hl n).mono fun e w' ⟨v, he, hv, hq⟩ => ⟨v, he, hv, StO.step h3 h4 h5 h6 h7 hq (h2.ends n)⟩
theorem all_so (h : StO w0 qb X ps rows ws bs w) (hl : allR rows ≤ 4398046511104) :
    Calls Tryd.prog 14 #[.pointer (some ⟨qb, 0, none⟩)] w fun e w' => e = .returned (.int .i64 (allR rows)) ∧ StO w0 qb X ps rows ws bs w' := by
  obtain ⟨F, h1, h2, _⟩ := id h
  exact (all_q h1 hl).mono fun e w' ⟨he, hb⟩ => ⟨he, h.below hb⟩
/-- An error that is none is nil; another one is not. -/
theorem ErrV.not {o : Out} {n : Int} {v : Value} (h : ErrV o n w w' v) (ho : o ≠ .ok) : ∃ t x, v = .iface t x := by
  cases o
  · exact ⟨_, _, h⟩
  · obtain ⟨pb, rfl, _⟩ := h; exact ⟨_, _, rfl⟩
  · obtain ⟨pb, rfl, _⟩ := h; exact ⟨_, _, rfl⟩
  · exact absurd rfl ho
end
/-- A slice of acts. -/
def aP (a : Option Addr) (c : Nat) (l : List Ac) : Pc := ⟨.slice a l.length c, 31, 6, l.length, l.flatMap acCells⟩
theorem ac_one (l : List Ac) : ∀ u ∈ l.flatMap acCells, u.oneCell' = true := fun u hu => by
  obtain ⟨x, _, hu⟩ := List.mem_flatMap.1 hu
  simp only [acCells, List.mem_cons, List.not_mem_nil, or_false] at hu
  rcases hu with rfl | rfl | rfl | rfl | rfl | rfl <;> rfl
/-- The loop over the acts. -/
def OrdRel (w : World) (qb n : Nat) (pv ev iv : Value) (wr : World) : Prop :=
  ∃ (k : Nat) (L E : List Ac) (pa ea : Option Addr) (pc ec : Nat) (rows : List Rw) (ws : List (Int × Int)) (bs : List Bool), k ≤ n ∧ iv = .int .i64 k ∧ pv = .slice pa L.length pc ∧ ev = .slice ea E.length ec ∧ StO w qb [] [aP pa pc L, aP ea ec E] rows ws bs wr ∧ Ord L E rows ∧ L.length ≤ k
/-- The loop over those that ended. -/
def ChkRel (w9 : World) (n : Nat) (iv : Value) (wr : World) : Prop := ∃ k : Nat, k ≤ n ∧ iv = .int .i64 k ∧ Below w9.heap.size w9 wr
def CntRel (w9 : World) (E : List Ac) (i : Nat) (K : Int × Int) (nv kv : Value) (wr : World) : Prop := ∃ k : Nat, k ≤ i ∧ kv = .int .i64 k ∧ nv = .int .i64 (cntK (E.take k) K) ∧ Below w9.heap.size w9 wr


set_option maxRecDepth 100000 in
set_option maxHeartbeats 8000000 in
theorem queueOrder_slices (n : Int) (a1 : Option Addr) (c1 : Nat) (xs : List Ac) (w : World) (hg : Hg w) (h0 : 0 ≤ n) (h1 : n ≤ 255) (hx : Acts w (.slice a1 xs.length c1) xs) (hsz : xs.length * 48 ≤ 140737488351232) :
    Calls Tryd.prog 3 #[.int .u8 n, .slice a1 xs.length c1] w (Yes w) := by
  have HAW := Lib.hid (awake_any w hg)
  have HX := Lib.hid hx
  have HN0 := Lib.hid h0
  have HN1 := Lib.hid h1
  have hlen := hx.1.lenI
  obtain ⟨ti, hi, hz0, hz1, hz2⟩ := info_parts Tryd.infoA
  clear hx hg h0 h1
  go_enter Tryd.func3, Tryd.ntmps3
  go_wp2_with fail
  refine HAW.out.mono ?_
  rintro e w1 ⟨rfl, hb1⟩
  have HB1 := Lib.hid hb1
  clear hb1
  go_wp2_with fail
  refine (both_any n w1 HN0.out HN1.out).mono ?_
  rintro e w2 ⟨qb, mb, F, G, rfl, hq, _, hF, _, hb2⟩
  have HS0 := Lib.hid (show StO w qb [] [aP none 0 [], aP none 0 []] [] (List.replicate (nW n) (0, 0)) (List.replicate (nW n) false) w2 from
    ⟨F, ⟨[], rfl, hq⟩, Inv.new _, fun k hk => Nat.le_trans HB1.out.size (hF k hk), HB1.out.trans (hb2.mono HB1.out.size), ⟨fun p hp => (by
      simp only [List.mem_cons, List.not_mem_nil, or_false] at hp
      rcases hp with rfl | rfl <;> exact Mid.nil _ _ _ _), List.pairwise_cons.2 ⟨fun p hp k hk => (by cases hk), List.pairwise_singleton _ _⟩⟩, (fun k ⟨p, hp, hk⟩ => by
      simp only [List.mem_cons, List.not_mem_nil, or_false] at hp
      rcases hp with rfl | rfl <;> cases hk), fun x hx => (by cases hx)⟩)
  clear hq hF hb2
  go_wp2_with fail
  go_loopw [7, 8, 9] (fun pv ev iv wr => OrdRel w qb xs.length pv ev iv wr) (fun _ _ iv _ => xs.length - (intOf iv).toNat)
  case atStart => exact ⟨0, [], [], none, none, 0, 0, [], _, _, Nat.zero_le _, rfl, rfl, rfl, HS0.out, Ord.new, Nat.le_refl _⟩
  case round =>
    obtain ⟨k, L, E, pa, ea, pc, ec, rows, ws, bs, hk, rfl, rfl, rfl, hst, hord, hL⟩ := hrel
    have hall := hord.all
    by_cases hlt : k < xs.length
    · obtain ⟨⟨b, o, rfl, k0, k1, k2, k3, k4, k5⟩, hok⟩ := HX.out.get hst.world k hlt
      have i0 : (0 : Int) ≤ (k : Int) := by omega
      have i1 : (k : Int) < (xs.length : Int) := by omega
      clear hok
      generalize xs[k] = X at *
      obtain ⟨d, t, s, j, u, p⟩ := X
      simp only at k0 k1 k2 k3 k4 k5
      have hst0 := hst.guard (b := wr.heap.size) (ob := (.cells #[.int .i64 d, .int .i64 t, .int .i64 s, .int .i64 j, .int .i64 u, .int .i64 p] 31)) ((Below.refl _ _).alloc (Nat.le_refl _) (.cells #[.int .i64 d, .int .i64 t, .int .i64 s, .int .i64 j, .int .i64 u, .int .i64 p] 31)) (Nat.le_refl _) (heap_alloc_new wr _)
      have HST := Lib.hid hst0
      have HORD := Lib.hid hord
      have hal : allR rows ≤ 4398046511104 := by omega
      have hEL : E.length ≤ 4398046511104 := by omega
      have HAL := Lib.hid hall
      clear hst hst0 hord hall
      by_cases hd1 : d = 1
      · subst hd1
        go_wp2_with fail
        refine (put_so HST.out hal t s k).mono ?_
        rintro e w3 ⟨⟨v3, rfl⟩, hs3⟩
        have HS3 := Lib.hid hs3
        have x1 : w3.cell? ⟨wr.heap.size, 1, none⟩ = some (.int .i64 t) := cell_of_block (hs3.at (b := wr.heap.size) (List.mem_of_getElem? (i := 0) rfl)) rfl
        have x2 : w3.cell? ⟨wr.heap.size, 2, none⟩ = some (.int .i64 s) := cell_of_block (hs3.at (b := wr.heap.size) (List.mem_of_getElem? (i := 0) rfl)) rfl
        have hm0 : Mid w3 0 31 6 (.slice pa L.length pc) L.length (L.flatMap acCells) := hs3.mid 0 rfl
        have HMA := Lib.hid (hm0.alloc (.cells #[.int .i64 0, .int .i64 t, .int .i64 s, .int .i64 k, .int .i64 0, .int .i64 0] 31))
        have hsa := ((Sl.lit w3 31 6 1 [.int .i64 0, .int .i64 t, .int .i64 s, .int .i64 k, .int .i64 0, .int .i64 0] (by unfold maxLen; omega) rfl).src (P := Tryd.prog) Tryd.underlying22 (fun u hu => by
          simp only [List.mem_cons, List.not_mem_nil, or_false] at hu
          rcases hu with rfl | rfl | rfl | rfl | rfl | rfl <;> rfl))
        (try rw [World.size_alloc] at hsa)
        have HSA := Lib.hid hsa
        clear hm0 hsa
        clear hs3
        go_wp2_with (at_builtin; refine wpList_append_mid (v := .slice pa L.length pc) rfl _ _ 22 22 rfl ti (.agg #[.int .i64 0, .int .i64 0, .int .i64 0, .int .i64 0, .int .i64 0, .int .i64 0]) 48 Tryd.underlying22 hi hz0 hz1 hz2 rfl rfl HMA.out _ rfl 1 _ HSA.out (by unfold maxLen; omega) (by omega) (Nat.zero_le _) ?_; intro a4 c4 w4 hmo hgo hbo; have HMO := Lib.hid hmo; have HGO := Lib.hid hgo; have HBO := Lib.hid hbo; clear hmo hgo hbo)
        go_roundw
        case rel =>
          have hs4 := (HS3.out.below ((Below.refl _ _).alloc (Nat.le_refl _) (.cells #[.int .i64 0, .int .i64 t, .int .i64 s, .int .i64 k, .int .i64 0, .int .i64 0] 31))).app 0 (by simp) (aP a4 c4 (L ++ [newA (t, s) k])) HGO.out (by simpa [aP, Pc.mid, acCells, newA] using HMO.out) (by simpa [aP] using HBO.out)
          exact ⟨k + 1, L ++ [newA (t, s) k], E, a4, ea, c4, ec, _, _, _, by omega, by go_num, by simp, rfl, hs4.free, HORD.out.put HST.out.inv t s k, by simp; omega⟩
        case measure => simp [intOf]; omega
      · by_cases hd2 : d = 2
        · subst hd2
          go_wp2_with fail
          refine (begin_so HST.out hal u p).mono ?_
          rintro e w3 ⟨v3, rfl, _, hs3⟩
          have HS3 := Lib.hid hs3
          clear hs3
          go_wp2
          go_roundw
          case rel => exact ⟨k + 1, L, E, pa, ea, pc, ec, _, _, _, by omega, by go_num, rfl, rfl, HS3.out.free, HORD.out.begin HST.out.inv hal u p, by omega⟩
          case measure => simp [intOf]; omega
        · by_cases hd3 : d = 3
          · subst hd3
            go_wp2_with fail
            refine (end_so HST.out hal u).mono ?_
            rintro e w3 ⟨v3, rfl, hv, hs3⟩
            by_cases ho : endO ws bs u = .ok
            · rw [ho] at hv
              obtain rfl : v3 = .nilIface := hv
              obtain ⟨K, hK⟩ : ∃ K, K = endK ws bs u := ⟨_, rfl⟩
              obtain ⟨jj, hjj⟩ : ∃ jj, jj = endJ rows ws bs u := ⟨_, rfl⟩
              have hord' := HORD.out.ends HST.out.inv u ho
              rw [← hK, ← hjj] at hord' ⊢
              have HORD' := Lib.hid hord'
              obtain ⟨kt, ks⟩ := K
              have hs5 := hs3.guard (b := w3.heap.size) (ob := (.cells #[.int .i64 kt, .int .i64 ks] 29)) ((Below.refl _ _).alloc (Nat.le_refl _) _) (Nat.le_refl _) (heap_alloc_new w3 _)
              have HS5 := Lib.hid hs5
              simp only
              have hm0 : Mid (w3.alloc (.cells #[.int .i64 kt, .int .i64 ks] 29)) 0 31 6 (.slice ea E.length ec) E.length (E.flatMap acCells) := hs5.mid 1 rfl
              have HMA := Lib.hid (hm0.alloc (.cells #[.int .i64 0, .int .i64 kt, .int .i64 ks, .int .i64 jj, .int .i64 0, .int .i64 0] 31))
              have hsa := ((Sl.lit (w3.alloc (.cells #[.int .i64 kt, .int .i64 ks] 29)) 31 6 1 [.int .i64 0, .int .i64 kt, .int .i64 ks, .int .i64 jj, .int .i64 0, .int .i64 0] (by unfold maxLen; omega) rfl).src (P := Tryd.prog) Tryd.underlying22 (fun u hu => by
                simp only [List.mem_cons, List.not_mem_nil, or_false] at hu
                rcases hu with rfl | rfl | rfl | rfl | rfl | rfl <;> rfl))
              (try rw [World.size_alloc] at hsa)
              have HSA := Lib.hid hsa
              clear hm0 hsa
              clear hs3 hs5 hK hjj hord'
              go_wp2_with (at_builtin; refine wpList_append_mid (v := .slice ea E.length ec) rfl _ _ 22 22 rfl ti (.agg #[.int .i64 0, .int .i64 0, .int .i64 0, .int .i64 0, .int .i64 0, .int .i64 0]) 48 Tryd.underlying22 hi hz0 hz1 hz2 rfl rfl HMA.out _ rfl 1 _ HSA.out (by unfold maxLen; omega) (by omega) (Nat.zero_le _) ?_; intro a4 c4 w4 hmo hgo hbo; have HMO := Lib.hid hmo; have HGO := Lib.hid hgo; have HBO := Lib.hid hbo; clear hmo hgo hbo)
              go_roundw
              case rel =>
                have hs4 := (HS5.out.below ((Below.refl _ _).alloc (Nat.le_refl _) (.cells #[.int .i64 0, .int .i64 kt, .int .i64 ks, .int .i64 jj, .int .i64 0, .int .i64 0] 31))).app 1 (by simp) (aP a4 c4 (E ++ [newA (kt, ks) jj])) HGO.out (by simpa [aP, Pc.mid, acCells, newA] using HMO.out) (by simpa [aP] using HBO.out)
                exact ⟨k + 1, L, E ++ [newA (kt, ks) jj], pa, a4, pc, c4, _, _, _, by omega, by go_num, rfl, by simp, hs4.free, HORD'.out, by omega⟩
              case measure => simp [intOf]; omega
            · obtain ⟨et, ex, rfl⟩ := hv.not ho
              have HS3 := Lib.hid hs3
              have HO := Lib.hid ho
              generalize endK ws bs u = K at *
              generalize endJ rows ws bs u = jj at *
              clear hs3 hv ho
              go_wp2
              go_roundw
              case rel => exact ⟨k + 1, L, E, pa, ea, pc, ec, _, _, _, by omega, by go_num, rfl, rfl, (HS3.out.below ((Below.refl _ _).alloc (Nat.le_refl _) _)).free, HORD.out.stay u HO.out, by omega⟩
              case measure => simp [intOf]; omega
          · have b1 : (d == 1) = false := beq_eq_false_iff_ne.2 hd1
            have b2 : (d == 2) = false := beq_eq_false_iff_ne.2 hd2
            have b3 : (d == 3) = false := beq_eq_false_iff_ne.2 hd3
            clear hd1 hd2 hd3
            go_wp2
            go_roundw
            case rel => exact ⟨k + 1, L, E, pa, ea, pc, ec, _, _, _, by omega, by go_num, rfl, rfl, HST.out.free, HORD.out, by omega⟩
            case measure => simp [intOf]; omega
    · skip
      have hst2 := hst
      have HST := Lib.hid hst
      have HORD := Lib.hid hord
      have HP := Lib.hid (show Sl wr 6 (.slice pa L.length pc) L.length (L.flatMap acCells) from Sl.ofMid (hst.mid 0 rfl))
      have HE := Lib.hid (show Sl wr 6 (.slice ea E.length ec) E.length (E.flatMap acCells) from Sl.ofMid (hst.mid 1 rfl))
      have hlE := HE.out.lenI
      have hal : allR rows ≤ 4398046511104 := by omega
      have hEL : E.length ≤ 4398046511104 := by omega
      have hlL : L.length ≤ 9223372036854775807 := HP.out.lenI.1
      clear hst hst2 hord
      go_wp2_with fail
      obtain ⟨w9, rfl⟩ : ∃ w9 : World, w9 = wr := ⟨_, rfl⟩
      go_loopw [14] (fun iv wr => ChkRel w9 E.length iv wr) (fun iv _ => E.length - (intOf iv).toNat)
      case atStart => exact ⟨0, Nat.zero_le _, rfl, Below.refl _ _⟩
      case round =>
        obtain ⟨i, hi2, rfl, hb9⟩ := hrel
        by_cases hlt2 : i < E.length
        · have HB9 := Lib.hid hb9
          have hNTH := HORD.out.nth i hlt2
          obtain ⟨eb, eo, e5, y0, y1, y2, y3, y4, y5⟩ := acs_get HE.out hb9 i hlt2
          cases e5
          have i0 : (0 : Int) ≤ (i : Int) := by omega
          have i1 : (i : Int) < (E.length : Int) := by omega
          obtain ⟨Y, hY⟩ : ∃ Y, Y = E[i] := ⟨_, rfl⟩
          rw [← hY] at hNTH y0 y1 y2 y3 y4 y5
          have HY := Lib.hid hY
          obtain ⟨dy, ty, sy, jy, uy, py⟩ := Y
          simp only at y0 y1 y2 y3 y4 y5
          have HNTH := Lib.hid hNTH
          clear hb9 hNTH hY y0 y1 y2 y3 y4 y5
          go_wp2_with fail
          obtain ⟨w8, rfl⟩ : ∃ w8 : World, w8 = wr := ⟨_, rfl⟩
          go_loopw [15, 16] (fun nv kv wr => CntRel w9 E i (ty, sy) nv kv wr) (fun _ kv _ => i - (intOf kv).toNat)
          case atStart => exact ⟨0, Nat.zero_le _, rfl, by simp [cntK, ofK], HB9.out⟩
          case round =>
            obtain ⟨q, hq, rfl, rfl, hb8⟩ := hrel
            have HB8 := Lib.hid hb8
            obtain ⟨eb', eo', e5, y0, y1, y2, y3, y4, y5⟩ := acs_get HE.out hb8 i hlt2
            cases e5
            rw [← HY.out] at y0 y1 y2 y3 y4 y5
            simp only at y0 y1 y2 y3 y4 y5
            by_cases hqi : q < i
            · obtain ⟨eb', eo', e5, z0, z1, z2, z3, z4, z5⟩ := acs_get HE.out hb8 q (by omega)
              cases e5
              have hct := cntK_take E (ty, sy) q (by omega)
              have hcl := cntK_le (E.take q) (ty, sy)
              rw [List.length_take] at hcl
              generalize hC : cntK (E.take q) (ty, sy) = C at *
              clear hC
              obtain ⟨Z, hZ⟩ : ∃ Z, Z = E[q]'(by omega) := ⟨_, rfl⟩
              rw [← hZ] at hct z0 z1 z2 z3 z4 z5
              obtain ⟨dz, tz, sz, jz, uz, pz⟩ := Z
              simp only at z0 z1 z2 z3 z4 z5
              have HCT := Lib.hid hct
              have j0 : (0 : Int) ≤ (q : Int) := by omega
              have j1 : (q : Int) < (E.length : Int) := by omega
              have j2 : (q : Int) < (i : Int) := by omega
              clear hct hb8 hZ y0 y3 y4 y5 z0 z3 z4 z5
              by_cases hkey : tz = ty ∧ sz = sy
              · obtain ⟨rfl, rfl⟩ := hkey
                have b1 : (tz == tz) = true := by simp
                have b2 : (sz == sz) = true := by simp
                go_wp2_with fail
                go_quiet (fail)
                go_wp2
                go_roundw
                case rel => exact ⟨q + 1, by omega, by go_num, by rw [HCT.out, if_pos (show keyA ⟨dz, tz, sz, jz, uz, pz⟩ = (tz, sz) from rfl)]; go_num, Below.dr HB8.out⟩
                case measure => simp [intOf]; omega
              · by_cases ht : tz = ty
                · have b1 : (sz == sy) = false := beq_eq_false_iff_ne.2 fun e => hkey ⟨ht, e⟩
                  have b2 : (tz == ty) = true := by rw [ht]; simp
                  have HKEY := Lib.hid (show ¬ keyA ⟨dz, tz, sz, jz, uz, pz⟩ = (ty, sy) from fun e => hkey ⟨congrArg Prod.fst e, congrArg Prod.snd e⟩)
                  clear hkey
                  go_wp2_with fail
                  go_quiet (fail)
                  go_wp2
                  go_roundw
                  case rel => exact ⟨q + 1, by omega, by go_num, by rw [HCT.out, if_neg HKEY.out]; rfl, Below.dr HB8.out⟩
                  case measure => simp [intOf]; omega
                · have b1 : (tz == ty) = false := beq_eq_false_iff_ne.2 ht
                  have HKEY := Lib.hid (show ¬ keyA ⟨dz, tz, sz, jz, uz, pz⟩ = (ty, sy) from fun e => hkey ⟨congrArg Prod.fst e, congrArg Prod.snd e⟩)
                  clear hkey
                  go_wp2_with fail
                  go_quiet (fail)
                  go_wp2
                  go_roundw
                  case rel => exact ⟨q + 1, by omega, by go_num, by rw [HCT.out, if_neg HKEY.out]; rfl, Below.dr HB8.out⟩
                  case measure => simp [intOf]; omega
            · obtain rfl : q = i := by omega
              have hcl := cntK_le (E.take q) (ty, sy)
              rw [List.length_take] at hcl
              have HNT := Lib.hid (nth_any pa pc L dy ty sy jy uy py (cntK (E.take q) (ty, sy)) wr (HP.out.below hb8) (by omega))
              generalize hC : cntK (E.take q) (ty, sy) = C at *
              clear hb8
              go_wp2_with fail
              refine HNT.out.mono ?_
              rintro e w10 ⟨rfl, hb10⟩
              have HB10 := Lib.hid (HB8.out.trans (hb10.mono HB8.out.size))
              have hv : nthV L (ty, sy) jy C = true := by rw [← hC]; exact HNTH.out
              rw [hv]
              clear hb10 hv hC y0 y1 y2 y3 y4 y5
              go_wp2
              go_roundw
              case rel => exact ⟨q + 1, by omega, by go_num, HB10.out⟩
              case measure => simp [intOf]; omega
        · have hst9 := HST.out.below hb9
          have HST9 := Lib.hid hst9
          clear hb9 hst9
          go_wp2_with fail
          refine (all_so HST9.out hal).mono ?_
          rintro e w10 ⟨rfl, hs10⟩
          have HS10 := Lib.hid hs10
          have hae : (allR rows : Int) = (L.length : Int) - (E.length : Int) := by omega
          rw [hae]
          clear hs10 hae
          go_wp2
          go_ret
          exact ⟨by simp, HS10.out.world⟩
theorem queueOrder_any (n : Int) (v : Value) (xs : List Ac) (w : World) (hg : Hg w) (h0 : 0 ≤ n) (h1 : n ≤ 255) (hx : Acts w v xs) (hsz : xs.length * 48 ≤ 140737488351232) : Calls Tryd.prog 3 #[.int .u8 n, v] w (Yes w) := by
  obtain ⟨a1, c1, rfl, _⟩ := Sl.len hx.1
  exact queueOrder_slices n a1 c1 xs w hg h0 h1 hx hsz
end Go.Proofs.YtkbopcgijaejjaaDoor
