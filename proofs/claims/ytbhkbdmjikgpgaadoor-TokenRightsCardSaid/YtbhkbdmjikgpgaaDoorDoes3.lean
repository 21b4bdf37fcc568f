/-
  does of actuarylaw28 by contract where the book changes; the conditions: what errors.errorType holds, how many tokens there are, and that an act's numbers are ints.
  Printed by a program of this repository (wip/tok8.py).
-/
import Derived.Test.YtbhkbdmjikgpgaaDoorDoes2
namespace Go.Proofs.YtbhkbdmjikgpgaaDoor
open Go.RowKit Go.Extern.Stop Go.Stop Go.Extern

theorem Tryd.info_LG : (Tryd.prog.info? 56).map (fun i => (i.zero, i.size, i.bytes)) = some (some (.agg #[.string ⟨#[]⟩, .int .i64 0, .int .i64 0]), 3, 32) := by kernel_rfl
set_option maxRecDepth 100000 in
set_option maxHeartbeats 4000000 in
theorem does_new (w0 : World) (jb : Nat) (G : Nat → Prop) (l : List Gr) (a : Option Addr) (c : Nat) (u r : Int) (t : ByteArray) (w : World) (h : St w0 jb G l a c w) (h8 : t.size = 8) (h1 : 0 ≤ u) (h2 : 0 ≤ r) (h3 : r ≤ 15) (hh : hit l t = none) (hn : l.length ≤ 7036874417560) :
    Calls Tryd.prog 10 #[.pointer (some ⟨jb, 0, none⟩), .slice a l.length c, .agg #[.int .i64 1, .int .i64 u, .int .i64 r, .string t]] w (DoesR w0 jb G w (l ++ [⟨t, u, r⟩])) := by
  obtain ⟨F, hbk, hF, hml, hnl, hbw, hok, hFG, hlG, hGlt⟩ := id h
  have HFG := Lib.hid hFG
  have HLG := Lib.hid hlG
  have HGLT := Lib.hid hGlt
  clear hFG hlG hGlt
  have hFlt : ∀ k, F k → k < w.heap.size := by
    obtain ⟨_, _, _, _, _, _, h5, _⟩ := id hbk
    exact h5
  have hb : Below w.heap.size w (w.alloc (.cells #[.int .i64 1, .int .i64 u, .int .i64 r, .string t] 35)) := (Below.refl _ _).alloc (Nat.le_refl _) _
  have HS := Lib.hid (h.below hb)
  have HB := Lib.hid hb
  have HH := Lib.hid h
  have HF2 := Lib.hid (lfind_none a c l t _ HS.out.grs hh)
  clear hb h
  have HM := Lib.hid (mint_new jb F l t u r _ (hbk.below HB.out) h8 h1 h2 h3 hh hn)
  have HPUSH := Lib.hid (hok.push ⟨t, u, r⟩ h8 hh)
  have HF := Lib.hid hF
  have HML := Lib.hid hml
  have HNL := Lib.hid hnl
  have HBW := Lib.hid hbw
  have HFLT := Lib.hid hFlt
  have e8 : ((t.size : Int) != 8) = false := by rw [h8]; rfl
  have hm : t.size ≤ 9223372036854775807 := by omega
  obtain ⟨ti, hi, hz0, hz1, hz2⟩ := info_parts Tryd.info_LG
  clear hbk hh h8 hF hml hnl hbw hok hFlt
  go_enter Tryd.func10, Tryd.ntmps10
  go_wp2_with fail
  refine HF2.out.mono ?_
  rintro e w1 ⟨rfl, rfl⟩
  go_wp2_with fail
  refine HM.out.mono ?_
  rintro e w2 ⟨rfl, F', hbk2, hF2, hk2⟩
  have hxF : ¬ F w.heap.size := fun h => by have := HFLT.out _ h; omega
  have c0 : w2.cell? ⟨w.heap.size, 0, none⟩ = some (.int .i64 1) := (hk2.cell (a := ⟨w.heap.size, 0, none⟩) (by simp) hxF).trans (by simp)
  have c1 : w2.cell? ⟨w.heap.size, 1, none⟩ = some (.int .i64 u) := (hk2.cell (a := ⟨w.heap.size, 1, none⟩) (by simp) hxF).trans (by simp)
  have c2 : w2.cell? ⟨w.heap.size, 2, none⟩ = some (.int .i64 r) := (hk2.cell (a := ⟨w.heap.size, 2, none⟩) (by simp) hxF).trans (by simp)
  have c3 : w2.cell? ⟨w.heap.size, 3, none⟩ = some (.string t) := (hk2.cell (a := ⟨w.heap.size, 3, none⟩) (by simp) hxF).trans (by simp)
  have hz2' := hk2.size
  simp only [World.size_alloc] at hz2'
  have hml2 : Mid w2 w0.heap.size 56 3 (.slice a l.length c) l.length (grFlat l) := (HML.out.alloc _).keeps hk2 fun k hk => HNL.out k hk
  have HM2 := Lib.hid ((Mid.drew hml2).alloc (.cells #[.string t, .int .i64 u, .int .i64 r] 56))
  have HS2 := Lib.hid (show Src Tryd.prog 3 31 (.slice (some ⟨w2.drew.heap.size, 0, none⟩) 1 1) 1 (grFlat [⟨t, u, r⟩]) (w2.drew.alloc (.cells #[.string t, .int .i64 u, .int .i64 r] 56)) from (Sl.lit w2.drew 56 3 1 (grFlat [⟨t, u, r⟩]) (by unfold maxLen; omega) rfl).src (P := Tryd.prog) Tryd.underlying31 (grOne _))
  have hw2 : w0.heap.size ≤ w2.heap.size + 1 := by have := HBW.out.size; omega
  have HW2 := Lib.hid (show w0.heap.size ≤ (w2.drew.alloc (.cells #[.string t, .int .i64 u, .int .i64 r] 56)).heap.size by simpa using hw2)
  have HLX := Lib.hid (show w.heap.size < w2.drew.heap.size by show w.heap.size < w2.heap.size; omega)
  have HNX := Lib.hid (show (Value.slice a l.length c).ownBlock ≠ some w.heap.size from fun e => by have := (HML.out.lt _ e).2; omega)
  have hS : (fun W => W.cell? ⟨w.heap.size, 3, none⟩ = some (.string t) ∧ W.cell? ⟨w.heap.size, 1, none⟩ = some (.int .i64 u) ∧ W.cell? ⟨w.heap.size, 2, none⟩ = some (.int .i64 r)) w2 := ⟨c3, c1, c2⟩
  have HBK2 := Lib.hid hbk2
  have HF2' := Lib.hid hF2
  have HK2 := Lib.hid hk2
  clear hbk2 hF2 hk2 hml2 hw2 hz2' hxF
  go_wp2_with fail
  refine wp_region_held_drew (S := fun W => W.cell? ⟨w.heap.size, 3, none⟩ = some (.string t) ∧ W.cell? ⟨w.heap.size, 1, none⟩ = some (.int .i64 u) ∧ W.cell? ⟨w.heap.size, 2, none⟩ = some (.int .i64 r)) (by kernel_rfl) (hS) (fun hHeld => ?_)
  refine takeH (i := 0) (d := (some 58)) (v := ?_) rfl rfl (by kernel_rfl) (by kernel_rfl) (by kernel_rfl) (fun _ _ _ h => h) (Or.inl ⟨by rfl, ?_⟩) (by assumption) ?_
  rotate_left
  · (intro w hSw; (try dsimp only at hSw); go_simp; (try with_reducible rfl))
  simp only [Act.put, List.setIfInBounds_toArray, List.set_cons_zero, List.set_cons_succ]
  refine takeH (i := 1) (d := (some 59)) (v := ?_) rfl rfl (by kernel_rfl) (by kernel_rfl) (by kernel_rfl) (fun _ _ _ h => h) (Or.inl ⟨by rfl, ?_⟩) (by assumption) ?_
  rotate_left
  · (intro w hSw; (try dsimp only at hSw); go_simp; (try with_reducible rfl))
  simp only [Act.put, List.setIfInBounds_toArray, List.set_cons_zero, List.set_cons_succ]
  refine takeH (i := 2) (d := (some 60)) (v := ?_) rfl rfl (by kernel_rfl) (by kernel_rfl) (by kernel_rfl) (fun _ _ _ h => h) (Or.inl ⟨by rfl, ?_⟩) (by assumption) ?_
  rotate_left
  · (intro w hSw; (try dsimp only at hSw); go_simp; (try with_reducible rfl))
  simp only [Act.put, List.setIfInBounds_toArray, List.set_cons_zero, List.set_cons_succ]
  refine takeH (i := 3) (d := (some 61)) (v := ?_) rfl rfl (by kernel_rfl) (by kernel_rfl) (by kernel_rfl) (fun _ _ _ h => h) (Or.inl ⟨by rfl, ?_⟩) (by assumption) ?_
  rotate_left
  · (intro w hSw; (try dsimp only at hSw); go_simp; (try with_reducible rfl))
  simp only [Act.put, List.setIfInBounds_toArray, List.set_cons_zero, List.set_cons_succ]
  refine takeH (i := 4) (d := (some 62)) (v := ?_) rfl rfl (by kernel_rfl) (by kernel_rfl) (by kernel_rfl) (fun _ _ _ h => h) (Or.inl ⟨by rfl, ?_⟩) (by assumption) ?_
  rotate_left
  · (intro w hSw; (try dsimp only at hSw); go_simp; (try with_reducible rfl))
  simp only [Act.put, List.setIfInBounds_toArray, List.set_cons_zero, List.set_cons_succ]
  refine takeH (i := 5) (d := (some 63)) (v := ?_) rfl rfl (by kernel_rfl) (by kernel_rfl) (by kernel_rfl) (fun _ _ _ h => h) (Or.inl ⟨by rfl, ?_⟩) (by assumption) ?_
  rotate_left
  · (intro w hSw; (try dsimp only at hSw); go_simp; (try with_reducible rfl))
  simp only [Act.put, List.setIfInBounds_toArray, List.set_cons_zero, List.set_cons_succ]
  refine takeH (i := 6) (d := (some 64)) (v := ?_) rfl rfl (by kernel_rfl) (by kernel_rfl) (by kernel_rfl) (fun _ _ _ h => h) (Or.inl ⟨by rfl, ?_⟩) (by assumption) ?_
  rotate_left
  · (intro w hSw; (try dsimp only at hSw); go_simp; (try with_reducible rfl))
  simp only [Act.put, List.setIfInBounds_toArray, List.set_cons_zero, List.set_cons_succ]
  refine takeH (i := 7) (d := (some 65)) (v := ?_) rfl rfl (by kernel_rfl) (by kernel_rfl) (by kernel_rfl) (fun _ _ _ h => h) (Or.inl ⟨by rfl, ?_⟩) (by assumption) ?_
  rotate_left
  · (intro w hSw; (try dsimp only at hSw); go_simp; (try with_reducible rfl))
  simp only [Act.put, List.setIfInBounds_toArray, List.set_cons_zero, List.set_cons_succ]
  refine takeH (i := 10) (d := (some 68)) (v := ?_) rfl rfl (by kernel_rfl) (by kernel_rfl) (by kernel_rfl) (fun _ _ _ h => h) (Or.inl ⟨by rfl, ?_⟩) (by assumption) ?_
  rotate_left
  · (intro w hSw; (try dsimp only at hSw); go_simp; (try with_reducible rfl))
  simp only [Act.put, List.setIfInBounds_toArray, List.set_cons_zero, List.set_cons_succ]
  refine takeH (i := 11) (d := (some 69)) (v := ?_) rfl rfl (by kernel_rfl) (by kernel_rfl) (by kernel_rfl) (fun _ _ _ h => h) (Or.inl ⟨by rfl, ?_⟩) (by assumption) ?_
  rotate_left
  · (intro w hSw; (try dsimp only at hSw); go_simp; (try with_reducible rfl))
  simp only [Act.put, List.setIfInBounds_toArray, List.set_cons_zero, List.set_cons_succ]
  refine wpAnyH_ready (rs := [8]) (by kernel_rfl) (by simp) ?_
  refine AllReadyH.cons rfl (fun K hK => ?_) AllReadyH.nil
  go_simp
  refine hK.out _ _ (⟨(World.cell?_alloc_lt _ _ ⟨w.heap.size, 3, none⟩ HLX.out).trans hHeld.1, (World.cell?_alloc_lt _ _ ⟨w.heap.size, 1, none⟩ HLX.out).trans hHeld.2.1, (World.cell?_alloc_lt _ _ ⟨w.heap.size, 2, none⟩ HLX.out).trans hHeld.2.2⟩) (fun hHeld2 => ?_)
  clear hK K hHeld
  rename _ => hHeld
  refine wpAnyH_ready (rs := [9]) (by kernel_rfl) (by simp) ?_
  refine AllReadyH.cons rfl (fun K hK => ?_) AllReadyH.nil
  refine step_append_mid (v := .slice a l.length c) (by rfl) _ _ 31 31 (by rfl) ti (.agg #[.string ⟨#[]⟩, .int .i64 0, .int .i64 0]) 32 Tryd.underlying31 hi hz0 hz1 hz2 rfl (by rfl) HM2.out _ (by rfl) 1 _ HS2.out (by unfold maxLen; omega) (by omega) HW2.out ?_
  intro a4 c4 w4 hmo hgo hbo
  have HMO := Lib.hid hmo
  have HGO := Lib.hid hgo
  have HBO := Lib.hid hbo
  simp only [List.getElem_toArray, List.getElem_cons_succ, List.getElem_cons_zero, Act.put, List.setIfInBounds_toArray, List.set_cons_zero, List.set_cons_succ]
  refine hK.out _ _ (⟨(World.cell?_of_block (a := ⟨w.heap.size, 3, none⟩) (hgo.block w.heap.size (by have := HLX.out; simp at this ⊢; omega) (fun e => HNX.out e.symm))).trans hHeld.1, (World.cell?_of_block (a := ⟨w.heap.size, 1, none⟩) (hgo.block w.heap.size (by have := HLX.out; simp at this ⊢; omega) (fun e => HNX.out e.symm))).trans hHeld.2.1, (World.cell?_of_block (a := ⟨w.heap.size, 2, none⟩) (hgo.block w.heap.size (by have := HLX.out; simp at this ⊢; omega) (fun e => HNX.out e.symm))).trans hHeld.2.2⟩) (fun hHeld2 => ?_)
  clear hK K hHeld
  rename _ => hHeld
  refine takeH (i := 12) (d := (some 6)) (v := ?_) rfl rfl (by kernel_rfl) (by kernel_rfl) (by kernel_rfl) (fun _ _ _ h => h) (Or.inl ⟨by rfl, ?_⟩) (by assumption) ?_
  rotate_left
  · (intro w hSw; (try dsimp only at hSw); go_simp; (try with_reducible rfl))
  simp only [Act.put, List.setIfInBounds_toArray, List.set_cons_zero, List.set_cons_succ]
  refine takeH (i := 13) (d := (some 7)) (v := ?_) rfl rfl (by kernel_rfl) (by kernel_rfl) (by kernel_rfl) (fun _ _ _ h => h) (Or.inl ⟨by rfl, ?_⟩) (by assumption) ?_
  rotate_left
  · (intro w hSw; (try dsimp only at hSw); go_simp; (try with_reducible rfl))
  simp only [Act.put, List.setIfInBounds_toArray, List.set_cons_zero, List.set_cons_succ]
  refine wpAnyH_done (by kernel_rfl) ?_ _
  go_wp2
  go_ret2
  have hz2 := HK2.out.size
  have hw0 := HBW.out.size
  have hgz := HGO.out.size
  simp only [World.size_alloc, World.size_drew] at hz2 hgz
  have hF5 : ∀ k, F' k → k < w2.heap.size := by
    obtain ⟨_, _, _, _, _, _, h5, _⟩ := HBK2.out
    exact h5
  have hown : ∀ k, (Value.slice a4 (l.length + 1) c4).ownBlock = some k → ¬ F' k := fun k hk hFk => by
    rcases HBO.out with e | e
    · rw [e] at hk
      have hkl := (HML.out.lt k hk).2
      rcases HF2'.out k hFk with h | h
      · exact HNL.out k hk h
      · simp at h; omega
    · rw [e] at hk
      cases hk
      have := hF5 _ hFk
      simp at this; omega
  have hb24 : Keeps w2 w4 (fun k => (Value.slice a l.length c).ownBlock = some k) :=
    ((Keeps.alloc w2 _ (fun k => (Value.slice a l.length c).ownBlock = some k)).trans (Keeps.drew _ (fun _ => False)) (fun _ _ h => h.elim)).trans (Keeps.of_grown HGO.out (S := fun k => (Value.slice a l.length c).ownBlock = some k) fun b hb => hb) (fun _ _ h => h)
  have hk1 : Keeps w w2 G := ((Keeps.alloc w _ G).trans HK2.out fun b _ h => HFG.out b h)
  refine ⟨a4, c4, fun k => k < w4.heap.size ∧ (G k ∨ w.heap.size ≤ k), by rw [List.length_append]; rfl, ⟨F', ?_, fun k hk => ?_, ?_, ?_, ?_, HPUSH.out, fun k hk => ?_, fun k hk => ?_, fun k hk => hk.1⟩, fun k hk => hk.2, hk1.trans hb24 fun b _ h => HLG.out b h⟩
  · refine HBK2.out.keeps hb24 fun k hFk hk => ?_
    have hkl := (HML.out.lt k hk).2
    rcases HF2'.out k hFk with h | h
    · exact HNL.out k hk h
    · simp at h; omega
  · rcases HF2'.out k hk with h | h
    · exact HF.out k h
    · simp at h; omega
  · rw [List.length_append, grFlat_append]; exact HMO.out
  · rw [List.length_append]; exact hown
  · exact ((HBW.out.trans (HB.out.mono hw0)).trans (HK2.out.below (by simp; omega) fun b h => HF.out b h)).trans (hb24.below (by omega) fun b h => (HML.out.lt b h).1)
  · have := hF5 k hk
    refine ⟨by omega, ?_⟩
    rcases HF2'.out k hk with h | h
    · exact .inl (HFG.out k h)
    · right; simp at h; omega
  · rw [List.length_append] at hk
    replace hk : (Value.slice a4 (l.length + 1) c4).ownBlock = some k := hk
    have := (HMO.out.lt k hk).2
    refine ⟨this, ?_⟩
    rcases HBO.out with e | e
    · rw [e] at hk; exact .inl (HLG.out k hk)
    · rw [e] at hk; cases hk; right; simp; omega
/-- The loop that takes the others over. -/
def LessRel (w2 : World) (l : List Gr) (t : ByteArray) (ov kv : Value) (wr : World) : Prop :=
  ∃ (k : Nat) (oa : Option Addr) (oc : Nat), k ≤ l.length ∧ kv = .int .i64 k ∧ ov = .slice oa (less (l.take k) t).length oc ∧ Mid wr w2.heap.size 56 3 (.slice oa (less (l.take k) t).length oc) (less (l.take k) t).length (grFlat (less (l.take k) t)) ∧ Below w2.heap.size w2 wr
set_option maxRecDepth 100000 in
set_option maxHeartbeats 4000000 in
theorem does_gone (w0 : World) (jb : Nat) (G : Nat → Prop) (l : List Gr) (a : Option Addr) (c : Nat) (u r : Int) (t : ByteArray) (g : Gr) (w : World) (h : St w0 jb G l a c w) (hm : t.size ≤ maxLen) (hh : hit l t = some g) (hu : g.who = u) (hn : l.length ≤ 7036874417560) :
    Calls Tryd.prog 10 #[.pointer (some ⟨jb, 0, none⟩), .slice a l.length c, .agg #[.int .i64 2, .int .i64 u, .int .i64 r, .string t]] w (DoesR w0 jb G w (less l t)) := by
  obtain ⟨F, hbk, hF, hml, hnl, hbw, hok0, hFG, hlG, hGlt⟩ := id h
  have HFG := Lib.hid hFG
  have HLG := Lib.hid hlG
  have HGLT := Lib.hid hGlt
  clear hFG hlG hGlt
  have hFlt : ∀ k, F k → k < w.heap.size := by
    obtain ⟨_, _, _, _, _, _, h5, _⟩ := id hbk
    exact h5
  have hb : Below w.heap.size w (w.alloc (.cells #[.int .i64 2, .int .i64 u, .int .i64 r, .string t] 35)) := (Below.refl _ _).alloc (Nat.le_refl _) _
  have HS := Lib.hid (h.below hb)
  have HB := Lib.hid hb
  have HH := Lib.hid h
  have hok := h.okl
  obtain ⟨i, hi, q1, q2, q0, qa⟩ := hok.first hh
  have HF2 := Lib.hid (lfind_hit a c l t i _ HS.out.grs hi (by rw [q1]; exact q2) q0)
  have Q1 := Lib.hid q1
  have QA := Lib.hid qa
  have Q0 := Lib.hid q0
  have HOK := Lib.hid hok
  clear q1 q0 qa hok
  clear hb h
  have HM := Lib.hid (revoke_yes jb F l t u g _ (hbk.below HB.out) hm hh hu)
  have HLESS := Lib.hid (HOK.out.less t)
  have hne : (g.who != u) = false := by rw [hu]; simp
  have htk : l[i].tok = t := by rw [Q1.out]; exact q2
  have HTK := Lib.hid htk
  have HF := Lib.hid hF
  have HML := Lib.hid hml
  have HNL := Lib.hid hnl
  have HBW := Lib.hid hbw
  have HFLT := Lib.hid hFlt
  have i0 : (0 : Int) ≤ (i : Int) := by omega
  have i1 : (i : Int) < (l.length : Int) := by omega
  obtain ⟨ti, hi', hz0, hz1, hz2⟩ := info_parts Tryd.info_LG
  clear hbk hh hu hF hml hnl hbw hok0 hFlt hm htk q2
  go_enter Tryd.func10, Tryd.ntmps10
  go_wp2_with fail
  refine HF2.out.mono ?_
  rintro e w1 ⟨rfl, rfl⟩
  go_wp2_with fail
  refine HM.out.mono ?_
  rintro e w2 ⟨rfl, F', hbk2, hF2, hk2⟩
  have hxF : ¬ F w.heap.size := fun h => by have := HFLT.out _ h; omega
  have c0 : w2.cell? ⟨w.heap.size, 0, none⟩ = some (.int .i64 2) := (hk2.cell (a := ⟨w.heap.size, 0, none⟩) (by simp) hxF).trans (by simp)
  have c1 : w2.cell? ⟨w.heap.size, 1, none⟩ = some (.int .i64 u) := (hk2.cell (a := ⟨w.heap.size, 1, none⟩) (by simp) hxF).trans (by simp)
  have hml2 : Mid w2 w0.heap.size 56 3 (.slice a l.length c) l.length (grFlat l) := (HML.out.alloc _).keeps hk2 fun k hk => HNL.out k hk
  have hgr : Grs w2 (.slice a l.length c) l := ⟨Sl.ofMid hml2, fun g hg => by rw [HOK.out.1 g hg]; unfold maxLen; omega⟩
  obtain ⟨b, ob, rfl, _, _, _, k1, _, _⟩ := hgr.get i hi
  rw [Q1.out] at k1
  have HBK2 := Lib.hid hbk2
  have HF2' := Lib.hid hF2
  have HK2 := Lib.hid hk2
  have HGR := Lib.hid hgr
  clear hbk2 hF2 hk2 hml2 hxF hgr
  go_wp2_with fail
  go_quiet (fail)
  go_wp2_with fail
  go_loopw [11, 12] (fun ov kv wr => LessRel w2 l t ov kv wr) (fun _ kv _ => l.length - (intOf kv).toNat)
  case atStart => exact ⟨0, none, 0, Nat.zero_le _, rfl, rfl, Mid.nil _ _ _ _, Below.drawn _ _⟩
  case round =>
    obtain ⟨k, oa, oc, hk, rfl, rfl, hmo, hbr⟩ := hrel
    have HMO := Lib.hid hmo
    have HBR := Lib.hid hbr
    clear hmo hbr
    have hll : (less (l.take k) t).length ≤ l.length := Nat.le_trans (less_le _ _) (by rw [List.length_take]; omega)
    by_cases hlt : k < l.length
    · have hlt' := less_take l k hlt t
      obtain ⟨b', o', e', _, hbl, d0, d1, d2, _⟩ := (HGR.out.below HBR.out).get k hlt
      obtain ⟨rfl, rfl⟩ : b = b' ∧ ob = o' := by cases e'; exact ⟨rfl, rfl⟩
      clear e'
      have j0 : (0 : Int) ≤ (k : Int) := by omega
      have j1 : (k : Int) < (l.length : Int) := by omega
      by_cases he : k = i
      · subst he
        rw [if_pos HTK.out] at hlt'
        have HLT := Lib.hid hlt'
        clear hlt' d0 d1 d2 k1
        have hb2 : ((k : Int) != (k : Int)) = false := by simp
        go_wp2
        go_roundw
        case rel => exact ⟨k + 1, oa, oc, by omega, by go_num, by rw [HLT.out], by rw [HLT.out]; exact HMO.out, HBR.out⟩
        case measure => simp [intOf]; omega
      · rw [if_neg (QA.out k hlt he)] at hlt'
        have HLT := Lib.hid hlt'
        have hb2 : ((k : Int) != (i : Int)) = true := bne_iff_ne.2 (by omega)
        clear hlt' k1
        generalize hD : l[k] = D at *
        clear hD
        obtain ⟨s', u', r'⟩ := D
        simp only at d0 d1 d2
        generalize less (l.take k) t = L at *
        have HM3 := Lib.hid (HMO.out.alloc (.cells #[.string s', .int .i64 u', .int .i64 r'] 56))
        have HS3 := Lib.hid (show Src Tryd.prog 3 31 (.slice (some ⟨wr.heap.size, 0, none⟩) 1 1) 1 (grFlat [⟨s', u', r'⟩]) (wr.alloc (.cells #[.string s', .int .i64 u', .int .i64 r'] 56)) from (Sl.lit wr 56 3 1 (grFlat [⟨s', u', r'⟩]) (by unfold maxLen; omega) rfl).src (P := Tryd.prog) Tryd.underlying31 (grOne _))
        have HW3 := Lib.hid (show w2.heap.size ≤ (wr.alloc (.cells #[.string s', .int .i64 u', .int .i64 r'] 56)).heap.size by have := HBR.out.size; simp; omega)
        go_wp2_with (at_builtin; refine wpList_append_mid (v := .slice oa L.length oc) rfl _ _ 31 31 rfl ti (.agg #[.string ⟨#[]⟩, .int .i64 0, .int .i64 0]) 32 Tryd.underlying31 hi' hz0 hz1 hz2 rfl rfl HM3.out _ rfl 1 _ HS3.out (by unfold maxLen; omega) (by omega) HW3.out ?_; intro a4 c4 w4 hmo hgo hbo; have HMO4 := Lib.hid hmo; have HGO4 := Lib.hid hgo; clear hmo hgo hbo)
        go_roundw
        case rel =>
          refine ⟨k + 1, a4, c4, by omega, by go_num, by rw [HLT.out, List.length_append]; rfl, ?_, ?_⟩
          · rw [HLT.out, List.length_append, grFlat_append]; exact HMO4.out
          · exact (HBR.out.alloc HBR.out.size _).grown HGO4.out HW3.out fun q hq => (HMO.out.lt q hq).1
        case measure => simp [intOf]; omega
    · obtain rfl : k = l.length := by omega
      rw [List.take_length] at *
      have HM5 := Lib.hid HMO.out
      clear HMO k1
      go_wp2_with fail
      go_quiet (fail)
      go_wp2
      go_ret2
      have hw0 := HBW.out.size
      have hz2 := HK2.out.size
      simp only [World.size_alloc] at hz2
      have hF5 : ∀ k, F' k → k < w2.heap.size := by
        obtain ⟨_, _, _, _, _, _, h5, _⟩ := HBK2.out
        exact h5
      have hbz := HBR.out.size
      have hk1 : Keeps w w2 G := ((Keeps.alloc w _ G).trans HK2.out fun b _ h => HFG.out b h)
      refine ⟨oa, oc, fun k => k < wr.heap.size ∧ (G k ∨ w.heap.size ≤ k), rfl, ⟨F', (HBK2.out.below HBR.out).below (Below.drawn _ _), fun k hk => ?_, (HM5.out.mono (by omega)).drewN _, fun k hk hFk => ?_, ?_, HLESS.out, fun k hk => ?_, fun k hk => ?_, fun k hk => hk.1⟩, fun k hk => hk.2, (hk1.trans (Keeps.of_below HBR.out (S := fun _ => False) fun b h1 h2 => by omega) fun _ _ h => h.elim).trans (Keeps.drewN _ _ (fun _ => False)) fun _ _ h => h.elim⟩
      · rcases HF2'.out k hk with h | h
        · exact HF.out k h
        · simp at h; omega
      · have := (HM5.out.lt k hk).1; have := hF5 k hFk; omega
      · exact (((HBW.out.trans (HB.out.mono hw0)).trans (HK2.out.below (by simp; omega) fun b h => HF.out b h)).trans (HBR.out.mono (by omega))).trans ⟨rfl, rfl, rfl, Nat.le_refl _, fun _ _ => rfl⟩
      · have := hF5 k hk
        refine ⟨by omega, ?_⟩
        rcases HF2'.out k hk with h | h
        · exact .inl (HFG.out k h)
        · right; simp at h; omega
      · have := HM5.out.lt k hk
        exact ⟨this.2, .inr (by omega)⟩

set_option maxHeartbeats 1000000 in
theorem copy_any (jb : Nat) (F : Nat → Prop) (l : List Gr) (w : World) (h : Bk w jb F l) (hn : l.length * 32 ≤ 140737488355328) : Calls Tryd.prog 13 #[.pointer (some ⟨jb, 0, none⟩)] w (CopyR w l) := by
  obtain ⟨a, c, h1, h2, h3, h4, h5, h6⟩ := h
  have c0 := cell_of_block (j := 0) h1 rfl
  have HC := Lib.hid (cloneG _ l.length (grFlat l) w (Sl.ofMid h2) (grOne l) hn)
  have H6 := Lib.hid h6
  clear h1 h2 h3 h4 h5 h6
  go_enter Tryd.func13, Tryd.ntmps13
  go_wp2_with fail
  refine HC.out.mono ?_
  rintro e w1 ⟨a', c', rfl, hm, hb⟩
  have HM := Lib.hid hm
  have HB := Lib.hid hb
  clear hm hb
  go_wp2
  go_ret
  have hz := HB.out.size
  refine ⟨w1.heap.size, fun k => w.heap.size ≤ k ∧ k ≤ w1.heap.size, rfl, ⟨a', c', heap_alloc_new w1 _, (HM.out.mono (Nat.zero_le _)).alloc _, ⟨hz, Nat.le_refl _⟩, fun k hk => ?_, fun k hk => by simp; omega, H6.out⟩, fun k h => h.1, HB.out.alloc hz _⟩
  have := HM.out.lt k hk
  exact ⟨⟨this.1, by omega⟩, by omega⟩
end Go.Proofs.YtbhkbdmjikgpgaaDoor
