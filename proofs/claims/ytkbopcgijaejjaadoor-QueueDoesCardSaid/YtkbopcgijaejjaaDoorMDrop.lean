/-
  drop of actuarylaw30's model by contract: a row goes; the conditions: the model's cells, and how many rows there are.
  Printed by a program of this repository (wip/qu19.py).
-/
import Derived.Test.YtkbopcgijaejjaaDoorMUpd
namespace Go.Proofs.YtkbopcgijaejjaaDoor
open Go.RowKit Go.Extern.Stop Go.Stop Go.Extern

/-- All rows but one. -/
def butF (I : Nat) (RS : List (Rw × Value)) (k : Nat) : List (Rw × Value) := (RS.take k).eraseIdx I
theorem butF_step (I : Nat) (RS : List (Rw × Value)) (k : Nat) (h : k < RS.length) : butF I RS (k + 1) = butF I RS k ++ if k = I then [] else [RS[k]] := by
  unfold butF
  rw [List.take_succ_eq_append_getElem h]
  have hl : (RS.take k).length = k := by rw [List.length_take]; omega
  rcases Nat.lt_or_ge I k with hlt | hge
  · rw [List.eraseIdx_append_of_lt_length (by omega), if_neg (by omega)]
  · rw [List.eraseIdx_append_of_length_le (by omega), List.eraseIdx_of_length_le (l := RS.take k) (by omega), hl]
    by_cases he : k = I
    · subst he; simp
    · rw [if_neg he, List.eraseIdx_of_length_le (by simp; omega)]
theorem butF_len (I : Nat) (RS : List (Rw × Value)) (k : Nat) : (butF I RS k).length ≤ k := by
  unfold butF
  have := List.length_eraseIdx_le (RS.take k) I
  rw [List.length_take] at this
  omega
def P3 (kv jv tv : Value) (L : List (Rw × Value)) : List Pc := [⟨kv, 29, 2, L.length, L.flatMap keyCells⟩, ⟨jv, 50, 1, L.length, L.map fun p => p.2⟩, ⟨tv, 4, 1, L.length, L.map fun p => Value.bool p.1.busy⟩]
/-- The loop over the rows. -/
def DropRel (w : World) (I : Nat) (RS : List (Rw × Value)) (kv jv tv iv : Value) (wr : World) : Prop :=
  ∃ (k : Nat) (ka ja ta : Option Addr) (kc jc tc : Nat), k ≤ RS.length ∧ iv = .int .i64 k ∧ kv = .slice ka (butF I RS k).length kc ∧ jv = .slice ja (butF I RS k).length jc ∧ tv = .slice ta (butF I RS k).length tc ∧
    Own wr (P3 kv jv tv (butF I RS k)) ∧ (∀ x, Foot (P3 kv jv tv (butF I RS k)) x → w.heap.size ≤ x) ∧ Below w.heap.size w wr
/-- One of some slices of the call's own is appended to. -/
theorem Own.app {w0 w w' : World} {ps : List Pc} (h : Own w ps) (hf : ∀ x, Foot ps x → w0.heap.size ≤ x) (hb : Below w0.heap.size w0 w) (i : Nat) (hi : i < ps.length) (p' : Pc) (hg : w.grownBy w' ps[i].v.ownBlock) (hm : p'.mid w') (ho : p'.v.ownBlock = ps[i].v.ownBlock ∨ p'.v.ownBlock = some w.heap.size) :
    Own w' (ps.set i p') ∧ (∀ x, Foot (ps.set i p') x → w0.heap.size ≤ x) ∧ Below w0.heap.size w0 w' := by
  have hk := Keeps.of_grown hg (S := fun k => ps[i].v.ownBlock = some k) fun b h => h
  have hb' : ∀ k, p'.v.ownBlock = some k → ps[i].v.ownBlock = some k ∨ w.heap.size ≤ k := fun k hk => by
    rcases ho with e | e
    · exact .inl (e ▸ hk)
    · rw [e] at hk; cases hk; exact .inr (Nat.le_refl _)
  have hz := hb.size
  refine ⟨h.set i hi p' hk hm hb', fun x hx => ?_, hb.trans (hk.below hz fun b h => hf b (foot_at hi h))⟩
  rcases foot_set hx with h | h
  · exact hf x h
  · rcases hb' x h with h | h
    · exact hf x (foot_at hi h)
    · omega
theorem drop_world {w wr wx : World} {mb : Nat} {G : Nat → Prop} {RS : List (Rw × Value)} {ws : List (Int × Int)} {bs : List Bool} (h : MS w mb G RS ws bs) (I : Nat) (hI : I < RS.length) {ka ja ta : Option Addr} {kc jc tc : Nat}
    (ho : Own wr (P3 (.slice ka (butF I RS RS.length).length kc) (.slice ja (butF I RS RS.length).length jc) (.slice ta (butF I RS RS.length).length tc) (butF I RS RS.length)))
    (hf : ∀ x, Foot (P3 (.slice ka (butF I RS RS.length).length kc) (.slice ja (butF I RS RS.length).length jc) (.slice ta (butF I RS RS.length).length tc) (butF I RS RS.length)) x → w.heap.size ≤ x) (hb : Below w.heap.size w wr)
    (hwx : wx = ((wr.setCell ⟨mb, 0, none⟩ (.slice ka (butF I RS RS.length).length kc)).setCell ⟨mb, 1, none⟩ (.slice ja (butF I RS RS.length).length jc)).setCell ⟨mb, 2, none⟩ (.slice ta (butF I RS RS.length).length tc)) :
    MA w mb G (RS.eraseIdx I) ws bs wx := by
  have e0 : butF I RS RS.length = RS.eraseIdx I := by unfold butF; rw [List.take_length]
  rw [e0] at ho hf hwx
  obtain ⟨ka0, ja0, ta0, ha, ba, kc0, jc0, tc0, hc, bc, hbox⟩ := h
  have hbr := hbox.below hb
  have hlt := hbox.lt
  have hz := hb.size
  -- the new slices take the elder ones' places
  have hown : Own wr (⟨.slice ka (RS.eraseIdx I).length kc, 29, 2, (RS.eraseIdx I).length, (RS.eraseIdx I).flatMap keyCells⟩ :: ⟨.slice ja (RS.eraseIdx I).length jc, 50, 1, (RS.eraseIdx I).length, (RS.eraseIdx I).map fun p => p.2⟩ :: ⟨.slice ta (RS.eraseIdx I).length tc, 4, 1, (RS.eraseIdx I).length, (RS.eraseIdx I).map fun p => Value.bool p.1.busy⟩ ::
      ⟨.slice ha ws.length hc, 29, 2, ws.length, ws.flatMap kyCells⟩ :: ⟨.slice ba bs.length bc, 4, 1, bs.length, bs.map Value.bool⟩ :: (RS.eraseIdx I).map jp) := by
    have hsub : ∀ p, p ∈ (⟨.slice ha ws.length hc, 29, 2, ws.length, ws.flatMap kyCells⟩ : Pc) :: ⟨.slice ba bs.length bc, 4, 1, bs.length, bs.map Value.bool⟩ :: (RS.eraseIdx I).map jp → p ∈ (mPs (.slice ka0 RS.length kc0) (.slice ja0 RS.length jc0) (.slice ta0 RS.length tc0) (.slice ha ws.length hc) (.slice ba bs.length bc) RS ws bs) := fun p hp => by
      simp only [mPs, List.mem_cons, List.mem_map] at hp ⊢
      rcases hp with h | h | ⟨q, hq, h⟩
      · exact .inr (.inr (.inr (.inl h)))
      · exact .inr (.inr (.inr (.inr (.inl h))))
      · exact .inr (.inr (.inr (.inr (.inr ⟨q, List.mem_of_mem_eraseIdx hq, h⟩))))
    have hlo : ∀ p, p ∈ (⟨.slice ha ws.length hc, 29, 2, ws.length, ws.flatMap kyCells⟩ : Pc) :: ⟨.slice ba bs.length bc, 4, 1, bs.length, bs.map Value.bool⟩ :: (RS.eraseIdx I).map jp → ∀ k, p.v.ownBlock = some k → k < w.heap.size := fun p hp k hk => hlt k (hbox.2.2.2.1 k ⟨p, hsub p hp, hk⟩).1
    have hold : ((⟨.slice ha ws.length hc, 29, 2, ws.length, ws.flatMap kyCells⟩ : Pc) :: ⟨.slice ba bs.length bc, 4, 1, bs.length, bs.map Value.bool⟩ :: (RS.eraseIdx I).map jp).Pairwise Apart := by
      have hp := hbox.2.1.2
      simp only [mPs] at hp
      have hp2 := (List.pairwise_cons.1 (List.pairwise_cons.1 (List.pairwise_cons.1 hp).2).2).2
      refine hp2.sublist (.cons_cons _ (.cons_cons _ ?_))
      exact (List.eraseIdx_sublist _ _).map _
    have hnew := ho.2
    have e3 : (⟨.slice ka (RS.eraseIdx I).length kc, 29, 2, (RS.eraseIdx I).length, (RS.eraseIdx I).flatMap keyCells⟩ : Pc) :: ⟨.slice ja (RS.eraseIdx I).length jc, 50, 1, (RS.eraseIdx I).length, (RS.eraseIdx I).map fun p => p.2⟩ :: ⟨.slice ta (RS.eraseIdx I).length tc, 4, 1, (RS.eraseIdx I).length, (RS.eraseIdx I).map fun p => Value.bool p.1.busy⟩ ::
      ⟨.slice ha ws.length hc, 29, 2, ws.length, ws.flatMap kyCells⟩ :: ⟨.slice ba bs.length bc, 4, 1, bs.length, bs.map Value.bool⟩ :: (RS.eraseIdx I).map jp = P3 (.slice ka (RS.eraseIdx I).length kc) (.slice ja (RS.eraseIdx I).length jc) (.slice ta (RS.eraseIdx I).length tc) (RS.eraseIdx I) ++ ((⟨.slice ha ws.length hc, 29, 2, ws.length, ws.flatMap kyCells⟩ : Pc) :: ⟨.slice ba bs.length bc, 4, 1, bs.length, bs.map Value.bool⟩ :: (RS.eraseIdx I).map jp) := rfl
    rw [e3]
    refine ⟨fun p hp => ?_, List.pairwise_append.2 ⟨hnew, hold, fun p hp q hq k h1 h2 => ?_⟩⟩
    · rcases List.mem_append.1 hp with h | h
      · exact ho.1 p h
      · exact hbr.2.1.1 p (hsub p h)
    · have := hf k ⟨p, hp, h1⟩
      have := hlo q hq k h2
      omega
  have hG : Box wr mb 62 (fun k => k < wr.heap.size ∧ (G k ∨ w.heap.size ≤ k)) [.slice ka0 RS.length kc0, .slice ja0 RS.length jc0, .slice ta0 RS.length tc0, .slice ha ws.length hc, .slice ba bs.length bc] (⟨.slice ka (RS.eraseIdx I).length kc, 29, 2, (RS.eraseIdx I).length, (RS.eraseIdx I).flatMap keyCells⟩ :: ⟨.slice ja (RS.eraseIdx I).length jc, 50, 1, (RS.eraseIdx I).length, (RS.eraseIdx I).map fun p => p.2⟩ :: ⟨.slice ta (RS.eraseIdx I).length tc, 4, 1, (RS.eraseIdx I).length, (RS.eraseIdx I).map fun p => Value.bool p.1.busy⟩ ::
      ⟨.slice ha ws.length hc, 29, 2, ws.length, ws.flatMap kyCells⟩ :: ⟨.slice ba bs.length bc, 4, 1, bs.length, bs.map Value.bool⟩ :: (RS.eraseIdx I).map jp) := by
    have hmb := hlt mb hbox.2.2.1
    refine ⟨hbr.1, hown, ⟨by omega, .inl hbox.2.2.1⟩, fun k hk => ?_, fun k h => h.1⟩
    have hkl := hown.lt k hk
    obtain ⟨p, hp, hpk⟩ := hk
    have hcase : p ∈ P3 (.slice ka (RS.eraseIdx I).length kc) (.slice ja (RS.eraseIdx I).length jc) (.slice ta (RS.eraseIdx I).length tc) (RS.eraseIdx I) ∨ p ∈ (mPs (.slice ka0 RS.length kc0) (.slice ja0 RS.length jc0) (.slice ta0 RS.length tc0) (.slice ha ws.length hc) (.slice ba bs.length bc) RS ws bs) := by
      simp only [mPs, P3, List.mem_cons, List.mem_map, List.not_mem_nil, or_false] at hp ⊢
      rcases hp with h | h | h | h | h | ⟨q, hq, h⟩
      · exact .inl (.inl h)
      · exact .inl (.inr (.inl h))
      · exact .inl (.inr (.inr h))
      · exact .inr (.inr (.inr (.inr (.inl h))))
      · exact .inr (.inr (.inr (.inr (.inr (.inl h)))))
      · exact .inr (.inr (.inr (.inr (.inr (.inr ⟨q, List.mem_of_mem_eraseIdx hq, h⟩)))))
    rcases hcase with h | h
    · have := hf k ⟨p, h, hpk⟩
      exact ⟨⟨hkl, .inr this⟩, by omega⟩
    · have := hbox.2.2.2.1 k ⟨p, h, hpk⟩
      exact ⟨⟨hkl, .inl this.1⟩, this.2⟩
  have b1 := (hG.head 0 (.slice ka (RS.eraseIdx I).length kc)).trans fun G1 h1 => (h1.head 1 (.slice ja (RS.eraseIdx I).length jc)).trans fun G2 h2 => h2.head 2 (.slice ta (RS.eraseIdx I).length tc)
  rw [← hwx] at b1
  obtain ⟨G3, g1, g2, g3⟩ := b1
  refine ⟨G3, ⟨ka, ja, ta, ha, ba, kc, jc, tc, hc, bc, g1⟩, fun k hk => ?_, (Keeps.of_below hb (S := G) fun b h1 h2 => absurd h1 (by omega)).trans g3 fun b hb' h => ?_⟩
  · rcases g2 k hk with h | h
    · exact h.2
    · exact .inr (by omega)
  · exact h.2.resolve_right (by omega)
set_option maxRecDepth 100000 in
set_option maxHeartbeats 8000000 in
theorem drop_any (mb : Nat) (G : Nat → Prop) (RS : List (Rw × Value)) (ws : List (Int × Int)) (bs : List Bool) (I : Nat) (w : World) (h : MS w mb G RS ws bs) (hI : I < RS.length) (hn : RS.length ≤ 4398046511104) :
    Calls Tryd.prog 42 #[.pointer (some ⟨mb, 0, none⟩), .int .i64 I] w fun e w' => (∃ v, e = .returned v) ∧ MA w mb G (RS.eraseIdx I) ws bs w' := by
  have HM := Lib.hid h
  obtain ⟨tk, hik, hk0, hk1, hk2⟩ := info_parts Tryd.infoK
  obtain ⟨tis, his, hs0, hs1, hs2⟩ := info_parts Tryd.infoIS
  obtain ⟨tb, hib, hb0, hb1, hb2⟩ := info_parts Tryd.infoBo
  have hmlt : mb < w.heap.size := by obtain ⟨_, _, _, _, _, _, _, _, _, _, hbox⟩ := h; exact hbox.lt mb hbox.2.2.1
  clear h
  go_enter Tryd.func42, Tryd.ntmps42
  go_wp2
  go_loopw [4, 5, 6, 7] (fun kv jv tv iv wr => DropRel w I RS kv jv tv iv wr) (fun _ _ _ iv _ => RS.length - (intOf iv).toNat)
  case atStart =>
    have e0 : butF I RS 0 = [] := by simp [butF]
    refine ⟨0, none, none, none, 0, 0, 0, Nat.zero_le _, rfl, by rw [e0]; rfl, by rw [e0]; rfl, by rw [e0]; rfl, ?_, ?_, Below.refl _ _⟩
    · rw [e0]
      refine ⟨fun p hp => ?_, ?_⟩
      · simp only [P3, List.mem_cons, List.not_mem_nil, or_false] at hp
        rcases hp with rfl | rfl | rfl <;> exact Mid.nil _ _ _ _
      · exact List.pairwise_cons.2 ⟨fun p hp k hk => (by cases hk), List.pairwise_cons.2 ⟨fun p hp k hk => (by cases hk), List.pairwise_singleton _ _⟩⟩
    · rintro x ⟨p, hp, hx⟩
      simp only [P3, List.mem_cons, List.not_mem_nil, or_false] at hp
      rcases hp with rfl | rfl | rfl <;> cases hx
  case round =>
    obtain ⟨k, ka, ja, ta, kc, jc, tc, hk, rfl, rfl, rfl, rfl, hown, hfoot, hb⟩ := hrel
    have hm := HM.out.below hb
    by_cases hlt : k < RS.length
    · obtain ⟨xkb, xko, xkc, xjb, xjo, xjc, xtb, xto, xtc, R⟩ := hm.row k hlt
      have c0 := R.c0
      have c1 := R.c1
      have c2 := R.c2
      have k0 := R.k0 hlt
      have k1 := R.k1 hlt
      have j0 := R.j hlt
      have t0 := R.t hlt
      have hln := R.len
      have i0 : (0 : Int) ≤ (k : Int) := by omega
      have i1 : (k : Int) < (RS.length : Int) := by omega
      have hbs := butF_step I RS k hlt
      have hbl := butF_len I RS k
      have HB := Lib.hid hb
      have HOWN := Lib.hid hown
      have HFT := Lib.hid hfoot
      clear hm hb hown hfoot
      by_cases he : k = I
      · rw [if_pos he, List.append_nil] at hbs
        have hne : ((k : Int) != (I : Int)) = false := by rw [he]; simp
        have hei : (k : Int) = (I : Int) := by rw [he]
        have HBS := Lib.hid hbs
        clear hbs he R
        go_wp2
        go_roundw
        case rel => exact ⟨k + 1, ka, ja, ta, kc, jc, tc, by omega, by go_num, by rw [HBS.out], by rw [HBS.out], by rw [HBS.out], by rw [HBS.out]; exact HOWN.out, by rw [HBS.out]; exact HFT.out, HB.out⟩
        case measure => simp [intOf]; omega
      · rw [if_neg he] at hbs
        have hne : ((k : Int) != (I : Int)) = true := bne_iff_ne.2 (by omega)
        have hei : (k : Int) ≠ (I : Int) := by omega
        have HBS0 := Lib.hid hbs
        clear hbs he
        obtain ⟨X, hX⟩ : ∃ X, X = RS[k] := ⟨_, rfl⟩
        have hjm := R.jobs hlt
        rw [← hX] at k0 k1 j0 t0 hjm
        have HBS := Lib.hid (show butF I RS (k + 1) = butF I RS k ++ [X] by rw [hX]; exact HBS0.out)
        have HX := Lib.hid hX
        obtain ⟨⟨t', s', js, z⟩, jv⟩ := X
        simp only at k0 k1 j0 t0 hjm
        obtain ⟨va, vc, hv⟩ := hjm.slice
        obtain ⟨vl, hvl⟩ : ∃ vl, vl = js.length := ⟨_, rfl⟩
        rw [← hvl] at hv
        subst hv
        clear hX hjm hvl R c1 c2 j0 t0
        have H0 := Lib.hid ((show Mid wr 0 29 2 (.slice ka (butF I RS k).length kc) (butF I RS k).length ((butF I RS k).flatMap keyCells) from HOWN.out.1 _ (List.mem_of_getElem? (i := 0) rfl)).alloc (.cells #[.int .i64 t', .int .i64 s'] 29))
        have S0 := Lib.hid ((Sl.lit wr 29 2 1 [.int .i64 t', .int .i64 s'] (by unfold maxLen; omega) rfl).src (P := Tryd.prog) Tryd.underlying44 (fun u hu => by
          simp only [List.mem_cons, List.not_mem_nil, or_false] at hu
          (first | (rcases hu with rfl | rfl <;> rfl) | (rw [hu]; rfl))))
        go_wp2_with (first
          | (at_builtin
             refine wpList_append_mid (v := .slice ka (butF I RS k).length kc) rfl _ _ 44 44 rfl tk (.agg #[.int .i64 0, .int .i64 0]) 16 Tryd.underlying44 hik hk0 hk1 hk2 rfl rfl H0.out _ rfl 1 _ S0.out (by unfold maxLen; omega) (by omega) (Nat.zero_le _) ?_
             intro k1a k1c w1 hmo hgo hbo
             obtain ⟨own1, ft0, bb0⟩ := Own.app (w0 := w) ((HOWN.out).below ((Below.refl _ _).alloc (Nat.le_refl _) (.cells #[.int .i64 t', .int .i64 s'] 29))) HFT.out ((HB.out).alloc (HB.out).size _) 0 (by simp [P3]) ⟨.slice k1a ((butF I RS k).length + 1) k1c, 29, 2, (butF I RS k).length + 1, ((butF I RS k).flatMap keyCells ++ [Value.int .i64 t', Value.int .i64 s'])⟩ hgo hmo hbo
             have OWN0 := Lib.hid own1
             have FT0 := Lib.hid ft0
             have BB0 := Lib.hid bb0
             clear hmo hgo hbo
             obtain ⟨ykb, yko, ykc, yjb, yjo, yjc, ytb, yto, ytc, Y⟩ := (HM.out.below bb0).row k hlt
             have yc1 := Y.c1
             have yj := Y.j hlt
             rw [← HX.out] at yj
             simp only at yj
             clear Y
             have H1 := Lib.hid ((show Mid w1 0 50 1 (.slice ja (butF I RS k).length jc) (butF I RS k).length ((butF I RS k).map fun (p : Rw × Value) => p.2) from own1.1 _ (List.mem_of_getElem? (i := 1) rfl)).alloc (.cells #[.slice va vl vc] 50))
             have S1 := Lib.hid ((Sl.lit w1 50 1 1 [.slice va vl vc] (by unfold maxLen; omega) rfl).src (P := Tryd.prog) Tryd.underlying60 (fun u hu => by
               simp only [List.mem_cons, List.not_mem_nil, or_false] at hu
               (first | (rcases hu with rfl | rfl <;> rfl) | (rw [hu]; rfl))))
             clear own1 ft0 bb0)
          | (at_builtin
             refine wpList_append_mid (v := .slice ja (butF I RS k).length jc) rfl _ _ 60 60 rfl tis (.slice none 0 0) 24 Tryd.underlying60 his hs0 hs1 hs2 rfl rfl H1.out _ rfl 1 _ S1.out (by unfold maxLen; omega) (by omega) (Nat.zero_le _) ?_
             intro j1a j1c w2 hmo hgo hbo
             obtain ⟨own2, ft1, bb1⟩ := Own.app (w0 := w) ((OWN0.out).below ((Below.refl _ _).alloc (Nat.le_refl _) (.cells #[.slice va vl vc] 50))) FT0.out ((BB0.out).alloc (BB0.out).size _) 1 (by simp [P3]) ⟨.slice j1a ((butF I RS k).length + 1) j1c, 50, 1, (butF I RS k).length + 1, (((butF I RS k).map fun (p : Rw × Value) => p.2) ++ [Value.slice va vl vc])⟩ hgo hmo hbo
             have OWN1 := Lib.hid own2
             have FT1 := Lib.hid ft1
             have BB1 := Lib.hid bb1
             clear hmo hgo hbo
             obtain ⟨ykb, yko, ykc, yjb, yjo, yjc, ytb, yto, ytc, Y⟩ := (HM.out.below bb1).row k hlt
             have yc2 := Y.c2
             have yt := Y.t hlt
             rw [← HX.out] at yt
             simp only at yt
             clear Y
             have H2 := Lib.hid ((show Mid w2 0 4 1 (.slice ta (butF I RS k).length tc) (butF I RS k).length ((butF I RS k).map fun (p : Rw × Value) => Value.bool p.1.busy) from own2.1 _ (List.mem_of_getElem? (i := 2) rfl)).alloc (.cells #[.bool z] 4))
             have S2 := Lib.hid ((Sl.lit w2 4 1 1 [.bool z] (by unfold maxLen; omega) rfl).src (P := Tryd.prog) Tryd.underlying59 (fun u hu => by
               simp only [List.mem_cons, List.not_mem_nil, or_false] at hu
               (first | (rcases hu with rfl | rfl <;> rfl) | (rw [hu]; rfl))))
             clear own2 ft1 bb1)
          | (at_builtin
             refine wpList_append_mid (v := .slice ta (butF I RS k).length tc) rfl _ _ 59 59 rfl tb (.bool false) 1 Tryd.underlying59 hib hb0 hb1 hb2 rfl rfl H2.out _ rfl 1 _ S2.out (by unfold maxLen; omega) (by omega) (Nat.zero_le _) ?_
             intro t1a t1c w3 hmo hgo hbo
             obtain ⟨own3, ft2, bb2⟩ := Own.app (w0 := w) ((OWN1.out).below ((Below.refl _ _).alloc (Nat.le_refl _) (.cells #[.bool z] 4))) FT1.out ((BB1.out).alloc (BB1.out).size _) 2 (by simp [P3]) ⟨.slice t1a ((butF I RS k).length + 1) t1c, 4, 1, (butF I RS k).length + 1, (((butF I RS k).map fun (p : Rw × Value) => Value.bool p.1.busy) ++ [Value.bool z])⟩ hgo hmo hbo
             have OWN2 := Lib.hid own3
             have FT2 := Lib.hid ft2
             have BB2 := Lib.hid bb2
             clear hmo hgo hbo
             clear own3 ft2 bb2))
        go_roundw
        case rel =>
          refine ⟨k + 1, k1a, j1a, t1a, k1c, j1c, t1c, by omega, by go_num, ?_, ?_, ?_, ?_, ?_, BB2.out⟩
          · rw [HBS.out]; simp
          · rw [HBS.out]; simp
          · rw [HBS.out]; simp
          · rw [HBS.out]; simpa [P3, keyCells] using OWN2.out
          · rw [HBS.out]; simpa [P3, keyCells] using FT2.out
        case measure => simp [intOf]; omega
    · obtain rfl : k = RS.length := by omega
      obtain ⟨hb_, hbh⟩ : ∃ b : Bool, b = true := ⟨true, rfl⟩
      obtain ⟨xka, xja, xta, xha, xba, xkc, xjc, xtc, xhc, xbc, hbox⟩ := hm
      have r := hbox.mr
      have c0 := r.c0
      have c1 := r.c1
      have c2 := r.c2
      have f0 := hbox.free 0
      have f1 := hbox.free 1
      have f2 := hbox.free 2
      have hln := r.keys.lenI.1
      have hge : ¬ (RS.length : Int) < (RS.length : Int) := by omega
      have HB := Lib.hid hb
      have HOWN := Lib.hid hown
      have HFT := Lib.hid hfoot
      clear hbox r hb hown hfoot hbh
      go_wp2
      go_end0
      exact ⟨⟨_, rfl⟩, drop_world HM.out I hI HOWN.out HFT.out HB.out rfl⟩
end Go.Proofs.YtkbopcgijaejjaaDoor
