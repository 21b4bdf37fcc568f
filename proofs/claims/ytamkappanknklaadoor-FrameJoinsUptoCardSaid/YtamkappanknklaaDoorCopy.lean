/-
  Copy of a Joiner by contract: a Joiner of its own that reads alike; the condition: how long is what waits.
  Printed by a program of this repository (wip/frame11.py).
-/
import Derived.Test.YtamkappanknklaaDoorStep
import Derived.Deep.RegionHeld3
namespace Go.Proofs.YtamkappanknklaaDoor
open Go.RowKit Go.Extern.Stop Go.Stop Go.Extern

/-- An operation that yields its value in every world that meets S is taken first; where its value goes is named. -/
theorem takeC {P : Program} {md : Region.Mode} {ops : Array Oper} {Q : Exit → Act → World → Prop} {S : World → Prop} {i : Nat} {oi : Oper} {d : Option Tmp} {v : Value} {fuel : Nat} {listed : Array Bool} {a : Act} {w : World} (hi : ops[i]? = some oi) (hd : oi.dst = d)
    (hs : Region.noSelect ops = true) (hf : Region.free md ops listed i = true) (hr : (Region.ready md ops listed).contains i = true)
    (hQ : ∀ c a w, Q (.panic c) (a.put d v) w → Q (.panic c) a w) (hy : YieldsIf P ops S oi v a) (hS : S w)
    (h : wpAnyH P md ops Q S fuel (listed.setIfInBounds i true) (a.put d v) w) : wpAnyH P md ops Q S (fuel + 1) listed a w := by
  subst hd
  exact wpAnyH_take hi hs hf hr hQ hy hS h
/-- The condition on the world may be turned into a stronger one on the way. -/
theorem takeC_switch {P : Program} {md : Region.Mode} {ops : Array Oper} {Q : Exit → Act → World → Prop} {S S' : World → Prop} (hm : ∀ w, S' w → S w) :
    ∀ (fuel : Nat) (listed : Array Bool) (a : Act) (w : World), wpAnyH P md ops Q S' fuel listed a w → wpAnyH P md ops Q S fuel listed a w
  | 0, _, _, _, h => h
  | fuel + 1, _, _, _, h => ⟨h.1, fun i hi => wpOp_mono (fun _ _ ⟨h1, h2⟩ => ⟨hm _ h1, takeC_switch hm fuel _ _ _ h2⟩) (h.2 i hi)⟩

set_option maxHeartbeats 1000000 in
theorem copy_any (jb : Nat) (F : Nat → Prop) (rest : List Int) (d : Bool) (w : World) (h : J w jb F rest d) (hl : rest.length ≤ 8388608) : Calls Tryd.prog 15 #[.pointer (some ⟨jb, 0, none⟩)] w fun e w' =>
    ∃ (cb : Nat) (F2 : Nat → Prop), e = .returned (.pointer (some ⟨cb, 0, none⟩)) ∧ J w' cb F2 rest d ∧ (∀ k, F2 k → w.heap.size ≤ k) ∧ Below w.heap.size w w' := by
  obtain ⟨v, h1, h2, h3, h4, h5⟩ := h
  have hlt : jb < w.drew.heap.size := (Array.getElem?_eq_some_iff.1 h1).1
  have kc0 := cell_of_block (j := 0) h1 rfl
  have kc1 := cell_of_block (j := 1) h1 rfl
  have HS := Lib.hid (show Bytes w.drew v rest from Sl.ofMid (Mid.drew h2))
  have hS : (fun W => W.cell? ⟨jb, 0, none⟩ = some v ∧ W.cell? ⟨jb, 1, none⟩ = some (.bool d)) w := ⟨kc0, kc1⟩
  clear h1 h2 h3 h5
  go_enter Tryd.func15, Tryd.ntmps15
  go_wp2_with fail
  refine wp_region_held_drew (S := fun W => W.cell? ⟨jb, 0, none⟩ = some v ∧ W.cell? ⟨jb, 1, none⟩ = some (.bool d)) (by kernel_rfl) (hS) (fun hHeld => ?_)
  refine takeC (i := 0) (d := (some 3)) (v := ?_) rfl rfl (by kernel_rfl) (by kernel_rfl) (by kernel_rfl) (fun _ _ _ h => h) (Or.inl ⟨by rfl, ?_⟩) (by assumption) ?_
  rotate_left
  · (intro w hSw; (try dsimp only at hSw); go_simp; (try with_reducible rfl))
  simp only [Act.put, List.setIfInBounds_toArray, List.set_cons_zero, List.set_cons_succ]
  refine takeC (i := 1) (d := (some 4)) (v := ?_) rfl rfl (by kernel_rfl) (by kernel_rfl) (by kernel_rfl) (fun _ _ _ h => h) (Or.inl ⟨by rfl, ?_⟩) (by assumption) ?_
  rotate_left
  · (intro w hSw; (try dsimp only at hSw); go_simp; (try with_reducible rfl))
  simp only [Act.put, List.setIfInBounds_toArray, List.set_cons_zero, List.set_cons_succ]
  refine takeC (i := 2) (d := (some 5)) (v := ?_) rfl rfl (by kernel_rfl) (by kernel_rfl) (by kernel_rfl) (fun _ _ _ h => h) (Or.inl ⟨by rfl, ?_⟩) (by assumption) ?_
  rotate_left
  · (intro w hSw; (try dsimp only at hSw); go_simp; (try with_reducible rfl))
  simp only [Act.put, List.setIfInBounds_toArray, List.set_cons_zero, List.set_cons_succ]
  refine takeC (i := 3) (d := (some 6)) (v := ?_) rfl rfl (by kernel_rfl) (by kernel_rfl) (by kernel_rfl) (fun _ _ _ h => h) (Or.inl ⟨by rfl, ?_⟩) (by assumption) ?_
  rotate_left
  · (intro w hSw; (try dsimp only at hSw); go_simp; (try with_reducible rfl))
  simp only [Act.put, List.setIfInBounds_toArray, List.set_cons_zero, List.set_cons_succ]
  refine takeC (i := 5) (d := (some 8)) (v := ?_) rfl rfl (by kernel_rfl) (by kernel_rfl) (by kernel_rfl) (fun _ _ _ h => h) (Or.inl ⟨by rfl, ?_⟩) (by assumption) ?_
  rotate_left
  · (intro w hSw; (try dsimp only at hSw); go_simp; (try with_reducible rfl))
  simp only [Act.put, List.setIfInBounds_toArray, List.set_cons_zero, List.set_cons_succ]
  refine takeC (i := 6) (d := (some 9)) (v := ?_) rfl rfl (by kernel_rfl) (by kernel_rfl) (by kernel_rfl) (fun _ _ _ h => h) (Or.inl ⟨by rfl, ?_⟩) (by assumption) ?_
  rotate_left
  · (intro w hSw; (try dsimp only at hSw); go_simp; (try with_reducible rfl))
  simp only [Act.put, List.setIfInBounds_toArray, List.set_cons_zero, List.set_cons_succ]
  refine takeC (i := 7) (d := (some 10)) (v := ?_) rfl rfl (by kernel_rfl) (by kernel_rfl) (by kernel_rfl) (fun _ _ _ h => h) (Or.inl ⟨by rfl, ?_⟩) (by assumption) ?_
  rotate_left
  · (intro w hSw; (try dsimp only at hSw); go_simp; (try with_reducible rfl))
  simp only [Act.put, List.setIfInBounds_toArray, List.set_cons_zero, List.set_cons_succ]
  refine takeC (i := 8) (d := (some 11)) (v := ?_) rfl rfl (by kernel_rfl) (by kernel_rfl) (by kernel_rfl) (fun _ _ _ h => h) (Or.inl ⟨by rfl, ?_⟩) (by assumption) ?_
  rotate_left
  · (intro w hSw; (try dsimp only at hSw); go_simp; (try with_reducible rfl))
  simp only [Act.put, List.setIfInBounds_toArray, List.set_cons_zero, List.set_cons_succ]
  refine wpAnyH_ready (rs := [4]) (by kernel_rfl) (by simp) ?_
  refine AllReadyH.cons rfl (fun K hK => ?_) AllReadyH.nil
  go_simp
  refine (clone_any v rest _ (HS.out) (by omega)).mono ?_
  rintro e w3 ⟨ca, cc, rfl, hcm, hb⟩
  have HCM := Lib.hid hcm
  have HB3 := Lib.hid hb
  dsimp only
  refine hK.out _ _ (⟨(hb.cell (p := ⟨jb, 0, none⟩) hlt).trans hHeld.1, (hb.cell (p := ⟨jb, 1, none⟩) hlt).trans hHeld.2⟩) (fun hHeld2 => ?_)
  clear hK K hHeld
  rename _ => hHeld
  refine takeC (i := 9) (d := (some 12)) (v := ?_) rfl rfl (by kernel_rfl) (by kernel_rfl) (by kernel_rfl) (fun _ _ _ h => h) (Or.inl ⟨by rfl, ?_⟩) (by assumption) ?_
  rotate_left
  · (intro w hSw; (try dsimp only at hSw); go_simp; (try with_reducible rfl))
  simp only [Act.put, List.setIfInBounds_toArray, List.set_cons_zero, List.set_cons_succ]
  refine wpAnyH_ready (rs := [10]) (by kernel_rfl) (by simp) ?_
  refine AllReadyH.cons rfl (fun K hK => ?_) AllReadyH.nil
  go_simp
  refine hK.out _ _ (⟨(World.cell?_alloc_lt _ _ ⟨jb, 0, none⟩ (World.block_lt_of_cell? _ _ hHeld.1)).trans hHeld.1, (World.cell?_alloc_lt _ _ ⟨jb, 1, none⟩ (World.block_lt_of_cell? _ _ hHeld.2)).trans hHeld.2⟩) (fun hHeld2 => ?_)
  clear hK K hHeld
  rename _ => hHeld
  refine takeC (i := 11) (d := (some 2)) (v := ?_) rfl rfl (by kernel_rfl) (by kernel_rfl) (by kernel_rfl) (fun _ _ _ h => h) (Or.inl ⟨by rfl, ?_⟩) (by assumption) ?_
  rotate_left
  · (intro w hSw; (try dsimp only at hSw); go_simp; (try with_reducible rfl))
  simp only [Act.put, List.setIfInBounds_toArray, List.set_cons_zero, List.set_cons_succ]
  refine wpAnyH_done (by kernel_rfl) ?_ _
  go_wp2
  go_ret
  have hb := HB3.out
  have hz := hb.size
  have hm := HCM.out
  refine ⟨w3.heap.size, fun k => w.heap.size ≤ k, rfl, ⟨_, heap_alloc_new w3 _, (hm.mono (Nat.zero_le _)).alloc _, hz, h4, fun k hk => ⟨(hm.lt k hk).1, fun e => by have := (hm.lt k hk).2; omega⟩⟩, fun k h => h, ?_⟩
  exact (show Below w.heap.size w w3 from (Below.trans (b := w.drew) ⟨rfl, rfl, rfl, Nat.le_refl _, fun _ _ => rfl⟩ hb)).alloc hz _
end Go.Proofs.YtamkappanknklaaDoor
