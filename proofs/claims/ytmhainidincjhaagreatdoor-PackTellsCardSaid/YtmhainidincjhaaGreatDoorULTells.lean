/-
  The walk of the law PackTells: what the functions answer, handed over.
  Printed by a program of this repository (wip/rf19.py).
-/
import Derived.Test.YtmhainidincjhaaGreatDoorUQ
set_option linter.unusedVariables false
set_option linter.unusedSimpArgs false
set_option maxRecDepth 100000
set_option maxHeartbeats 16000000
namespace Go.Proofs.YtmhainidincjhaaGreatDoor
open Go.RowKit Go.Extern.Stop Go.Stop Go.Extern
structure QW (w : World) (a : Option Addr) (n c : Nat) (b : Option Addr) (m d x y : Nat) : Prop where
  num : RD w a n c x
  den : RD w b m d y
theorem QW.lt {w : World} {a b : Option Addr} {n c m d x y : Nat} (_ : QW w a n c b m d x y) : True := trivial
theorem QW.below {w w' : World} {a b : Option Addr} {n c m d x y : Nat} (h : QW w a n c b m d x y) (hb : Below w.heap.size w w') (_ : True := trivial) : QW w' a n c b m d x y := ⟨h.num.below hb, h.den.below hb⟩
theorem QW.set {w W : World} {bs : List Bk} {ns : List Nm} {a b : Option Addr} {n c m d x y : Nat} (h : QW W a n c b m d x y) (hb : BS w bs ns W) (i j : Nat) (u : Value) {k : Bk} {c0 : Value} (hi : bs[i]? = some k) (hj : k.cs[j]? = some c0) (hn : ∀ s, c0 ≠ .int .i64 s) : QW (W.setCell ⟨k.p, j, none⟩ u) a n c b m d x y :=
  ⟨h.num.set hb i j u hi hj hn, h.den.set hb i j u hi hj hn⟩
def EP (r : Except Flt (List Nat)) (w : World) (v : Value) : Prop := match r with
  | .ok _ => v = .nilIface
  | .error f => ErrW w v f
theorem EP.lt {r : Except Flt (List Nat)} {w : World} {v : Value} (_ : EP r w v) : True := trivial
theorem EP.below {r : Except Flt (List Nat)} {w w' : World} {v : Value} (h : EP r w v) (hb : Below w.heap.size w w') (_ : True := trivial) : EP r w' v := by
  cases r with
  | ok l => exact h
  | error f => exact ErrW.below h hb
theorem tells_walk (sg : Bool) (a b : Option Addr) (n c m d : Nat) (w : World) (qs rs : Bool) (qn qd rn rd z : Nat) (l : List Nat) (r : Except Flt (List Nat)) (fe fk : Int) (fs u tq : ByteArray) (hn : n ≤ 40) (hm : m ≤ 40)
    (HAW : Hid (∀ W, Below w.heap.size w W → Calls Tryz.prog 25 #[] W (fun e w' => e = .returned (.bool true) ∧ Below W.heap.size W w')))
    (HMK : Hid (∀ W, Below w.heap.size w W → Calls Tryz.prog 26 #[.agg #[.bool sg, .slice a n c, .slice b m d]] W (fun e w' => ∃ a8 c8 b9 d9, e = .returned (.agg #[.bool qs, .slice a8 (lenW qn) c8, .slice b9 (lenW qd) d9]) ∧ NatW w' a8 c8 qn ∧ NatW w' b9 d9 qd ∧ Below W.heap.size W w')))
    (HRF : Hid (∀ W, Below w.heap.size w W → Calls Tryz.prog 27 #[.agg #[.bool sg, .slice a n c, .slice b m d]] W fun e w' => ∃ a5 n5 c5 b6 m6 d6, e = .returned (.agg #[.bool rs, .slice a5 n5 c5, .slice b6 m6 d6]) ∧ QW w' a5 n5 c5 b6 m6 d6 rn rd ∧ Below W.heap.size W w'))
    (HEN : Hid (∀ a8 c8 b9 d9 W, NatW W a8 c8 qn → NatW W b9 d9 qd → Calls Tryz.prog 28 #[.agg #[.bool qs, .slice a8 (lenW qn) c8, .slice b9 (lenW qd) d9]] W fun e w' => ∃ a2 c2 v, e = .returned (.tuple #[.slice a2 z c2, v]) ∧ SB w' a2 z c2 l ∧ EP r w' v ∧ Below W.heap.size W w'))
    (HEF : Hid (∀ a5 n5 c5 b6 m6 d6 W, QW W a5 n5 c5 b6 m6 d6 rn rd → Calls Tryz.prog 29 #[.agg #[.bool rs, .slice a5 n5 c5, .slice b6 m6 d6]] W fun e w' => ∃ a2 c2, e = .returned (.tuple #[.slice a2 z c2, .agg #[.int .i64 fe, .string fs, .int .i64 fk]]) ∧ SB w' a2 z c2 l ∧ Below W.heap.size W w'))
    (HCV : Hid (∀ a c W, SB W a z c l → (convert 32 9 (.slice a z c)).run Tryz.prog W = .ok (.string u) W))
    (HLK : Hid (∀ v W, Below w.heap.size w W → EP r W v → Calls Tryz.prog 30 #[v, .agg #[.int .i64 fe, .string fs, .int .i64 fk]] W (fun e w' => e = .returned (.bool true) ∧ Below W.heap.size W w')))
    (HTX : Hid (∀ a8 c8 b9 d9 W, NatW W a8 c8 qn → NatW W b9 d9 qd → Calls Tryz.prog 31 #[.agg #[.bool qs, .slice a8 (lenW qn) c8, .slice b9 (lenW qd) d9]] W fun e w' => e = .returned (.string tq) ∧ Below W.heap.size W w'))
    (HTF : Hid (∀ a5 n5 c5 b6 m6 d6 W, QW W a5 n5 c5 b6 m6 d6 rn rd → Calls Tryz.prog 32 #[.agg #[.bool rs, .slice a5 n5 c5, .slice b6 m6 d6]] W fun e w' => e = .returned (.string tq) ∧ Below W.heap.size W w')) :
    Calls Tryz.prog 5 #[.agg #[.bool sg, .slice a n c, .slice b m d]] w fun e w' => e = .returned (.bool true) ∧ Below w.heap.size w w' := by
  obtain ⟨W0, hW0⟩ : ∃ W0, W0 = (w.alloc (.cells #[.bool sg, .slice a n c, .slice b m d] 26)) := ⟨_, rfl⟩
  have hbs : BS w [⟨w.heap.size, 26, [.bool sg, .slice a n c, .slice b m d]⟩] [] (w.alloc (.cells #[.bool sg, .slice a n c, .slice b m d] 26)) :=
      ((BS.start w).alloc (p := w.heap.size) rfl 26 [.bool sg, .slice a n c, .slice b m d] rfl)
  rw [← hW0] at hbs
  have HW0 := Lib.hid hW0
  have HN := Lib.hid hbs
  clear hW0 hbs
  go_enter Tryz.func5, Tryz.ntmps5
  go_wp2_with fail
  rw [← HW0.out]
  refine (HAW.out _ HN.out.bel).mono ?_
  rintro e w1 ⟨rfl, hb⟩
  replace HN := Lib.hid (HN.out.call hb)
  clear hb 
  have k00 := HN.out.cell 0 0 rfl rfl
  have f00 := HN.out.free 0 0 rfl
  have k01 := HN.out.cell 0 1 rfl rfl
  have f01 := HN.out.free 0 1 rfl
  have k02 := HN.out.cell 0 2 rfl rfl
  have f02 := HN.out.free 0 2 rfl
  go_upto_region 5 with fail
  clear k00 f00 k01 f01 k02 f02
  go_cut [3, 4] (fun v3 v4 wx => ∃ p3 p4 a8 c8 b9 d9 a5 n5 c5 b6 m6 d6, v3 = .pointer (some ⟨p3, 0, none⟩) ∧ v4 = .pointer (some ⟨p4, 0, none⟩) ∧ QW wx a5 n5 c5 b6 m6 d6 rn rd ∧ BS w [⟨w.heap.size, 26, [.bool sg, .slice a n c, .slice b m d]⟩, ⟨p3, 45, [.bool qs, .slice a8 (lenW qn) c8, .slice b9 (lenW qd) d9]⟩, ⟨p4, 60, [.bool rs, .slice a5 n5 c5, .slice b6 m6 d6]⟩] [⟨a8, c8, qn⟩, ⟨b9, d9, qd⟩] wx)
  case first =>
    replace HN := Lib.hid HN.out.drew
    refine wp_region_held_drew (S := fun W => W.cell? ⟨w.heap.size, 0, none⟩ = some (.bool sg) ∧ W.cell? ⟨w.heap.size, 1, none⟩ = some (.slice a n c) ∧ W.cell? ⟨w.heap.size, 2, none⟩ = some (.slice b m d)) (by kernel_rfl) (⟨HN.out.cell 0 0 rfl rfl, HN.out.cell 0 1 rfl rfl, HN.out.cell 0 2 rfl rfl⟩) (fun hHeld => ?_)
    generalize w1.drew = wd at HN hHeld ⊢
    refine tk 0 (some 22) (v := ?_) rfl rfl ?_ ?_
    rotate_left
    · (intro w hSw; (try dsimp only at hSw); go_simp; (try with_reducible rfl))
    simp only [Act.put, stB, stZ, stS]
    refine tk 2 (some 24) (v := ?_) rfl rfl ?_ ?_
    rotate_left
    · (intro w hSw; (try dsimp only at hSw); go_simp; (try with_reducible rfl))
    simp only [Act.put, stB, stZ, stS]
    have tg := Mk.mk (v := 0) (d := 0)
    iterate 6
      all_goals first
      | have _ : Mk _ 0 := tg
        refine wpAnyH_ready (rs := [1, 4, 5]) (by kernel_rfl) (by simp) (AllReadyH.cons rfl (fun K hK => cT 0 1 fun tg => ?_) (AllReadyH.cons rfl (fun K hK => cT 1 2 fun tg => ?_) (AllReadyH.cons rfl (fun K hK => cT 2 3 fun tg => ?_) AllReadyH.nil)))
      | have _ : Mk _ 1 := tg
        refine wpAnyH_ready (rs := [3, 4, 5]) (by kernel_rfl) (by simp) (AllReadyH.cons rfl (fun K hK => cT 3 4 fun tg => ?_) (AllReadyH.cons rfl (fun K hK => cT 1 5 fun tg => ?_) (AllReadyH.cons rfl (fun K hK => cT 2 6 fun tg => ?_) AllReadyH.nil)))
      | have _ : Mk _ 2 := tg
        refine wpAnyH_ready (rs := [1, 5]) (by kernel_rfl) (by simp) (AllReadyH.cons rfl (fun K hK => cT 0 5 fun tg => ?_) (AllReadyH.cons rfl (fun K hK => cT 2 7 fun tg => ?_) AllReadyH.nil))
      | have _ : Mk _ 3 := tg
        refine wpAnyH_ready (rs := [1, 4]) (by kernel_rfl) (by simp) (AllReadyH.cons rfl (fun K hK => cT 0 6 fun tg => ?_) (AllReadyH.cons rfl (fun K hK => cT 4 7 fun tg => ?_) AllReadyH.nil))
      | have _ : Mk _ 4 := tg
        refine wpAnyH_ready (rs := [4, 5]) (by kernel_rfl) (by simp) (AllReadyH.cons rfl (fun K hK => cT 5 8 fun tg => ?_) (AllReadyH.cons rfl (fun K hK => cT 6 9 fun tg => ?_) AllReadyH.nil))
      | have _ : Mk _ 5 := tg
        refine wpAnyH_ready (rs := [3, 5]) (by kernel_rfl) (by simp) (AllReadyH.cons rfl (fun K hK => cT 3 8 fun tg => ?_) (AllReadyH.cons rfl (fun K hK => cT 2 10 fun tg => ?_) AllReadyH.nil))
      | have _ : Mk _ 6 := tg
        refine wpAnyH_ready (rs := [3, 4]) (by kernel_rfl) (by simp) (AllReadyH.cons rfl (fun K hK => cT 3 9 fun tg => ?_) (AllReadyH.cons rfl (fun K hK => cT 4 10 fun tg => ?_) AllReadyH.nil))
      | have _ : Mk _ 7 := tg
        refine wpAnyH_ready (rs := [1]) (by kernel_rfl) (by simp) (AllReadyH.cons rfl (fun K hK => cT 0 10 fun tg => ?_) AllReadyH.nil)
      | have _ : Mk _ 8 := tg
        refine wpAnyH_ready (rs := [5]) (by kernel_rfl) (by simp) (AllReadyH.cons rfl (fun K hK => cT 6 11 fun tg => ?_) AllReadyH.nil)
      | have _ : Mk _ 9 := tg
        refine wpAnyH_ready (rs := [4]) (by kernel_rfl) (by simp) (AllReadyH.cons rfl (fun K hK => cT 7 11 fun tg => ?_) AllReadyH.nil)
      | have _ : Mk _ 10 := tg
        refine wpAnyH_ready (rs := [3]) (by kernel_rfl) (by simp) (AllReadyH.cons rfl (fun K hK => cT 3 11 fun tg => ?_) AllReadyH.nil)
      | have _ : Mk _ 11 := tg
        refine wpAnyH_ready (rs := [6]) (by kernel_rfl) (by simp) (AllReadyH.cons rfl (fun K hK => cT 8 12 fun tg => ?_) AllReadyH.nil)
      | have _ : Mk _ 12 := tg
        refine wpAnyH_ready (rs := [7]) (by kernel_rfl) (by simp) (AllReadyH.cons rfl (fun K hK => cT 9 13 fun tg => ?_) AllReadyH.nil)
      all_goals first
      | have _ : Mk 0 _ := tg
        go_simp
        refine (HMK.out _ HN.out.bel).mono ?_
        rintro e wd ⟨a8, c8, b9, d9, rfl, hq0, hq1, hb⟩
        replace HN := Lib.hid (((HN.out.call hb).got hq0).got hq1)
        clear hb hq0 hq1
        go_wp2_with fail
        refine hK.out _ _ (⟨HN.out.cell 0 0 rfl rfl, HN.out.cell 0 1 rfl rfl, HN.out.cell 0 2 rfl rfl⟩) (fun hHeld2 => ?_)
        clear hK K hHeld
        rename _ => hHeld
        try simp only [Act.put, stB, stZ, stS]
      | have _ : Mk 1 _ := tg
        go_simp
        replace HN := Lib.hid (HN.out.alloc (p := wd.heap.size) rfl 45 [.bool false, .slice none 0 0, .slice none 0 0] rfl)
        generalize wd.heap.size = p4_ at HN ⊢
        generalize wd.alloc (.cells #[.bool false, .slice none 0 0, .slice none 0 0] 45) = wd at HN  ⊢
        refine hK.out _ _ (⟨HN.out.cell 0 0 rfl rfl, HN.out.cell 0 1 rfl rfl, HN.out.cell 0 2 rfl rfl⟩) (fun hHeld2 => ?_)
        clear hK K hHeld
        rename _ => hHeld
        try simp only [Act.put, stB, stZ, stS]
      | have _ : Mk 2 _ := tg
        go_simp
        replace HN := Lib.hid (HN.out.alloc (p := wd.heap.size) rfl 60 [.bool false, .slice none 0 0, .slice none 0 0] rfl)
        generalize wd.heap.size = p5_ at HN ⊢
        generalize wd.alloc (.cells #[.bool false, .slice none 0 0, .slice none 0 0] 60) = wd at HN  ⊢
        refine hK.out _ _ (⟨HN.out.cell 0 0 rfl rfl, HN.out.cell 0 1 rfl rfl, HN.out.cell 0 2 rfl rfl⟩) (fun hHeld2 => ?_)
        clear hK K hHeld
        rename _ => hHeld
        try simp only [Act.put, stB, stZ, stS]
      | have _ : Mk 3 _ := tg
        go_simp
        refine (HRF.out _ HN.out.bel).mono ?_
        rintro e wd ⟨a5, n5, c5, b6, m6, d6, rfl, hf, hb⟩
        replace HN := Lib.hid (HN.out.call hb)
        have HQ := Lib.hid hf
        clear hf
        clear hb 
        go_wp2_with fail
        refine hK.out _ _ (⟨HN.out.cell 0 0 rfl rfl, HN.out.cell 0 1 rfl rfl, HN.out.cell 0 2 rfl rfl⟩) (fun hHeld2 => ?_)
        clear hK K hHeld
        rename _ => hHeld
        try simp only [Act.put, stB, stZ, stS]
      | have _ : Mk 4 _ := tg
        go_simp
        replace HN := Lib.hid ((HN.out.alloc (p := wd.heap.size) rfl 45 [.bool false, .slice none 0 0, .slice none 0 0] rfl).ins 1)
        generalize wd.heap.size = p4_ at HN ⊢
        generalize wd.alloc (.cells #[.bool false, .slice none 0 0, .slice none 0 0] 45) = wd at HN  ⊢
        refine hK.out _ _ (⟨HN.out.cell 0 0 rfl rfl, HN.out.cell 0 1 rfl rfl, HN.out.cell 0 2 rfl rfl⟩) (fun hHeld2 => ?_)
        clear hK K hHeld
        rename _ => hHeld
        try simp only [Act.put, stB, stZ, stS]
      | have _ : Mk 5 _ := tg
        go_simp
        replace HN := Lib.hid (HN.out.alloc (p := wd.heap.size) rfl 45 [.bool false, .slice none 0 0, .slice none 0 0] rfl)
        replace HQ := Lib.hid (show QW (wd.alloc (.cells #[.bool false, .slice none 0 0, .slice none 0 0] 45)) a5 n5 c5 b6 m6 d6 rn rd from HQ.out.below (belowBox _ _))
        generalize wd.heap.size = p4_ at HN ⊢
        generalize wd.alloc (.cells #[.bool false, .slice none 0 0, .slice none 0 0] 45) = wd at HN HQ ⊢
        refine hK.out _ _ (⟨HN.out.cell 0 0 rfl rfl, HN.out.cell 0 1 rfl rfl, HN.out.cell 0 2 rfl rfl⟩) (fun hHeld2 => ?_)
        clear hK K hHeld
        rename _ => hHeld
        try simp only [Act.put, stB, stZ, stS]
      | have _ : Mk 6 _ := tg
        go_simp
        replace HN := Lib.hid (HN.out.alloc (p := wd.heap.size) rfl 60 [.bool false, .slice none 0 0, .slice none 0 0] rfl)
        replace HQ := Lib.hid (show QW (wd.alloc (.cells #[.bool false, .slice none 0 0, .slice none 0 0] 60)) a5 n5 c5 b6 m6 d6 rn rd from HQ.out.below (belowBox _ _))
        generalize wd.heap.size = p5_ at HN ⊢
        generalize wd.alloc (.cells #[.bool false, .slice none 0 0, .slice none 0 0] 60) = wd at HN HQ ⊢
        refine hK.out _ _ (⟨HN.out.cell 0 0 rfl rfl, HN.out.cell 0 1 rfl rfl, HN.out.cell 0 2 rfl rfl⟩) (fun hHeld2 => ?_)
        clear hK K hHeld
        rename _ => hHeld
        try simp only [Act.put, stB, stZ, stS]
      | have _ : Mk 7 _ := tg
        go_simp
        replace HN := Lib.hid ((HN.out.alloc (p := wd.heap.size) rfl 45 [.bool false, .slice none 0 0, .slice none 0 0] rfl).ins 1)
        replace HQ := Lib.hid (show QW (wd.alloc (.cells #[.bool false, .slice none 0 0, .slice none 0 0] 45)) a5 n5 c5 b6 m6 d6 rn rd from HQ.out.below (belowBox _ _))
        generalize wd.heap.size = p4_ at HN ⊢
        generalize wd.alloc (.cells #[.bool false, .slice none 0 0, .slice none 0 0] 45) = wd at HN HQ ⊢
        refine hK.out _ _ (⟨HN.out.cell 0 0 rfl rfl, HN.out.cell 0 1 rfl rfl, HN.out.cell 0 2 rfl rfl⟩) (fun hHeld2 => ?_)
        clear hK K hHeld
        rename _ => hHeld
        try simp only [Act.put, stB, stZ, stS]
      | have _ : Mk 8 _ := tg
        have hc0 := HN.out.cell 1 0 rfl rfl
        have hf0 := HN.out.free 1 0 rfl
        have hc1 := HN.out.cell 1 1 rfl rfl
        have hf1 := HN.out.free 1 1 rfl
        have hc2 := HN.out.cell 1 2 rfl rfl
        have hf2 := HN.out.free 1 2 rfl
        go_simp
        clear hc0 hf0 hc1 hf1 hc2 hf2
        replace HQ := Lib.hid (QW.set (QW.set (QW.set HQ.out HN.out 1 0 (.bool qs) rfl rfl (fun _ => by simp)) (HN.out.set 1 0 rfl rfl (fun _ => by simp) (.bool qs)) 1 1 (.slice a8 (lenW qn) c8) rfl rfl (fun _ => by simp)) ((HN.out.set 1 0 rfl rfl (fun _ => by simp) (.bool qs)).set 1 1 rfl rfl (fun _ => by simp) (.slice a8 (lenW qn) c8)) 1 2 (.slice b9 (lenW qd) d9) rfl rfl (fun _ => by simp))
        replace HN := Lib.hid ((((HN.out).set 1 0 rfl rfl (fun _ => by simp) (.bool qs)).set 1 1 rfl rfl (fun _ => by simp) (.slice a8 (lenW qn) c8)).set 1 2 rfl rfl (fun _ => by simp) (.slice b9 (lenW qd) d9))
        generalize (((wd.setCell ⟨p4_, 0, none⟩ (.bool qs)).setCell ⟨p4_, 1, none⟩ (.slice a8 (lenW qn) c8)).setCell ⟨p4_, 2, none⟩ (.slice b9 (lenW qd) d9)) = wd at HN HQ ⊢
        refine hK.out _ _ (⟨HN.out.cell 0 0 rfl rfl, HN.out.cell 0 1 rfl rfl, HN.out.cell 0 2 rfl rfl⟩) (fun hHeld2 => ?_)
        clear hK K hHeld
        rename _ => hHeld
        try simp only [Act.put, stB, stZ, stS]
      | have _ : Mk 9 _ := tg
        have hc0 := HN.out.cell 2 0 rfl rfl
        have hf0 := HN.out.free 2 0 rfl
        have hc1 := HN.out.cell 2 1 rfl rfl
        have hf1 := HN.out.free 2 1 rfl
        have hc2 := HN.out.cell 2 2 rfl rfl
        have hf2 := HN.out.free 2 2 rfl
        go_simp
        clear hc0 hf0 hc1 hf1 hc2 hf2
        replace HQ := Lib.hid (QW.set (QW.set (QW.set HQ.out HN.out 2 0 (.bool rs) rfl rfl (fun _ => by simp)) (HN.out.set 2 0 rfl rfl (fun _ => by simp) (.bool rs)) 2 1 (.slice a5 n5 c5) rfl rfl (fun _ => by simp)) ((HN.out.set 2 0 rfl rfl (fun _ => by simp) (.bool rs)).set 2 1 rfl rfl (fun _ => by simp) (.slice a5 n5 c5)) 2 2 (.slice b6 m6 d6) rfl rfl (fun _ => by simp))
        replace HN := Lib.hid ((((HN.out).set 2 0 rfl rfl (fun _ => by simp) (.bool rs)).set 2 1 rfl rfl (fun _ => by simp) (.slice a5 n5 c5)).set 2 2 rfl rfl (fun _ => by simp) (.slice b6 m6 d6))
        generalize (((wd.setCell ⟨p5_, 0, none⟩ (.bool rs)).setCell ⟨p5_, 1, none⟩ (.slice a5 n5 c5)).setCell ⟨p5_, 2, none⟩ (.slice b6 m6 d6)) = wd at HN HQ ⊢
        refine hK.out _ _ (⟨HN.out.cell 0 0 rfl rfl, HN.out.cell 0 1 rfl rfl, HN.out.cell 0 2 rfl rfl⟩) (fun hHeld2 => ?_)
        clear hK K hHeld
        rename _ => hHeld
        try simp only [Act.put, stB, stZ, stS]
    all_goals (refine wpAnyH_done (by kernel_rfl) ?_ _)
    all_goals
      go_wp2_with fail
      go_meet
      exact ⟨_, _, _, _, _, _, _, _, _, _, _, _, rfl, rfl, HQ.out, HN.out⟩
  case rest =>
    obtain ⟨w2, rfl⟩ : ∃ w2 : World, w2 = wc := ⟨_, rfl⟩
    obtain ⟨p3, p4, a8, c8, b9, d9, a5, n5, c5, b6, m6, d6, rfl, rfl, hq8, hn0⟩ := hcut
    have HN := Lib.hid hn0
    clear hn0
    have HQ := Lib.hid hq8
    clear hq8
    have k00 := HN.out.cell 0 0 rfl rfl
    have f00 := HN.out.free 0 0 rfl
    have k01 := HN.out.cell 0 1 rfl rfl
    have f01 := HN.out.free 0 1 rfl
    have k02 := HN.out.cell 0 2 rfl rfl
    have f02 := HN.out.free 0 2 rfl
    have k10 := HN.out.cell 1 0 rfl rfl
    have f10 := HN.out.free 1 0 rfl
    have k11 := HN.out.cell 1 1 rfl rfl
    have f11 := HN.out.free 1 1 rfl
    have k12 := HN.out.cell 1 2 rfl rfl
    have f12 := HN.out.free 1 2 rfl
    have k20 := HN.out.cell 2 0 rfl rfl
    have f20 := HN.out.free 2 0 rfl
    have k21 := HN.out.cell 2 1 rfl rfl
    have f21 := HN.out.free 2 1 rfl
    have k22 := HN.out.cell 2 2 rfl rfl
    have f22 := HN.out.free 2 2 rfl
    go_wp2_with fail
    clear k00 f00 k01 f01 k02 f02 k10 f10 k11 f11 k12 f12 k20 f20 k21 f21 k22 f22
    refine (HEN.out _ _ _ _ _ (HN.out.nat 0 rfl) (HN.out.nat 1 rfl)).mono ?_
    rintro e w3 ⟨a2, c2, v2, rfl, hr0, hr1, hb⟩
    replace HQ := Lib.hid (show QW w3 a5 n5 c5 b6 m6 d6 rn rd from HQ.out.below hb HQ.out.lt)
    have HB2 := Lib.hid hr0
    have HEP := Lib.hid hr1
    replace HN := Lib.hid (HN.out.call hb)
    clear hb hr0 hr1
    have k00 := HN.out.cell 0 0 rfl rfl
    have f00 := HN.out.free 0 0 rfl
    have k01 := HN.out.cell 0 1 rfl rfl
    have f01 := HN.out.free 0 1 rfl
    have k02 := HN.out.cell 0 2 rfl rfl
    have f02 := HN.out.free 0 2 rfl
    have k10 := HN.out.cell 1 0 rfl rfl
    have f10 := HN.out.free 1 0 rfl
    have k11 := HN.out.cell 1 1 rfl rfl
    have f11 := HN.out.free 1 1 rfl
    have k12 := HN.out.cell 1 2 rfl rfl
    have f12 := HN.out.free 1 2 rfl
    have k20 := HN.out.cell 2 0 rfl rfl
    have f20 := HN.out.free 2 0 rfl
    have k21 := HN.out.cell 2 1 rfl rfl
    have f21 := HN.out.free 2 1 rfl
    have k22 := HN.out.cell 2 2 rfl rfl
    have f22 := HN.out.free 2 2 rfl
    go_wp2_with fail
    clear k00 f00 k01 f01 k02 f02 k10 f10 k11 f11 k12 f12 k20 f20 k21 f21 k22 f22
    refine (HEF.out _ _ _ _ _ _ _ HQ.out).mono ?_
    rintro e w4 ⟨a3, c3, rfl, hr0, hb⟩
    replace HQ := Lib.hid (show QW w4 a5 n5 c5 b6 m6 d6 rn rd from HQ.out.below hb HQ.out.lt)
    replace HB2 := Lib.hid (show SB w4 a2 z c2 l from HB2.out.below hb HB2.out.lt)
    replace HEP := Lib.hid (show EP r w4 v2 from HEP.out.below hb HEP.out.lt)
    have HB3 := Lib.hid hr0
    replace HN := Lib.hid (HN.out.call hb)
    clear hb hr0
    have k00 := HN.out.cell 0 0 rfl rfl
    have f00 := HN.out.free 0 0 rfl
    have k01 := HN.out.cell 0 1 rfl rfl
    have f01 := HN.out.free 0 1 rfl
    have k02 := HN.out.cell 0 2 rfl rfl
    have f02 := HN.out.free 0 2 rfl
    have l0 := HN.out.lt 0 rfl
    have k10 := HN.out.cell 1 0 rfl rfl
    have f10 := HN.out.free 1 0 rfl
    have k11 := HN.out.cell 1 1 rfl rfl
    have f11 := HN.out.free 1 1 rfl
    have k12 := HN.out.cell 1 2 rfl rfl
    have f12 := HN.out.free 1 2 rfl
    have l1 := HN.out.lt 1 rfl
    have k20 := HN.out.cell 2 0 rfl rfl
    have f20 := HN.out.free 2 0 rfl
    have k21 := HN.out.cell 2 1 rfl rfl
    have f21 := HN.out.free 2 1 rfl
    have k22 := HN.out.cell 2 2 rfl rfl
    have f22 := HN.out.free 2 2 rfl
    have l2 := HN.out.lt 2 rfl
    have HP := Lib.hid (HN.out.alloc (p := w4.heap.size) rfl 74 [.int .i64 fe, .string fs, .int .i64 fk] rfl)
    have k00p := HP.out.cell 0 0 rfl rfl
    have f00p := HP.out.free 0 0 rfl
    have k01p := HP.out.cell 0 1 rfl rfl
    have f01p := HP.out.free 0 1 rfl
    have k02p := HP.out.cell 0 2 rfl rfl
    have f02p := HP.out.free 0 2 rfl
    have k10p := HP.out.cell 1 0 rfl rfl
    have f10p := HP.out.free 1 0 rfl
    have k11p := HP.out.cell 1 1 rfl rfl
    have f11p := HP.out.free 1 1 rfl
    have k12p := HP.out.cell 1 2 rfl rfl
    have f12p := HP.out.free 1 2 rfl
    have k20p := HP.out.cell 2 0 rfl rfl
    have f20p := HP.out.free 2 0 rfl
    have k21p := HP.out.cell 2 1 rfl rfl
    have f21p := HP.out.free 2 1 rfl
    have k22p := HP.out.cell 2 2 rfl rfl
    have f22p := HP.out.free 2 2 rfl
    have k30p := HP.out.cell 3 0 rfl rfl
    have f30p := HP.out.free 3 0 rfl
    have k31p := HP.out.cell 3 1 rfl rfl
    have f31p := HP.out.free 3 1 rfl
    have k32p := HP.out.cell 3 2 rfl rfl
    have f32p := HP.out.free 3 2 rfl
    go_upto_region 8 with fail
    clear k00 f00 k01 f01 k02 f02 l0 k10 f10 k11 f11 k12 f12 l1 k20 f20 k21 f21 k22 f22 l2 k00p f00p k01p f01p k02p f02p k10p f10p k11p f11p k12p f12p k20p f20p k21p f21p k22p f22p k30p f30p k31p f31p k32p f32p HN
    have HN := HP
    clear HP
    replace HQ := Lib.hid (show QW (w4.alloc (.cells #[.int .i64 fe, .string fs, .int .i64 fk] 74)) a5 n5 c5 b6 m6 d6 rn rd from HQ.out.below (belowBox _ _) HQ.out.lt)
    replace HB2 := Lib.hid (show SB (w4.alloc (.cells #[.int .i64 fe, .string fs, .int .i64 fk] 74)) a2 z c2 l from HB2.out.below (belowBox _ _) HB2.out.lt)
    replace HEP := Lib.hid (show EP r (w4.alloc (.cells #[.int .i64 fe, .string fs, .int .i64 fk] 74)) v2 from HEP.out.below (belowBox _ _) HEP.out.lt)
    replace HB3 := Lib.hid (show SB (w4.alloc (.cells #[.int .i64 fe, .string fs, .int .i64 fk] 74)) a3 z c3 l from HB3.out.below (belowBox _ _) HB3.out.lt)
    generalize (w4.alloc (.cells #[.int .i64 fe, .string fs, .int .i64 fk] 74)) = wa5 at HN HQ HB2 HEP HB3 ⊢
    go_cut [2] (fun v2 wx => v2 = .bool true ∧ Below w.heap.size w wx)
    case first =>
      replace HQ := Lib.hid (show QW wa5.drew a5 n5 c5 b6 m6 d6 rn rd from HQ.out.below (Below.refl _ _).drew HQ.out.lt)
      replace HB2 := Lib.hid (show SB wa5.drew a2 z c2 l from HB2.out.below (Below.refl _ _).drew HB2.out.lt)
      replace HEP := Lib.hid (show EP r wa5.drew v2 from HEP.out.below (Below.refl _ _).drew HEP.out.lt)
      replace HB3 := Lib.hid (show SB wa5.drew a3 z c3 l from HB3.out.below (Below.refl _ _).drew HB3.out.lt)
      replace HN := Lib.hid HN.out.drew
      refine wp_region_held_drew (S := fun W => W.cell? ⟨p3, 0, none⟩ = some (.bool qs) ∧ W.cell? ⟨p3, 1, none⟩ = some (.slice a8 (lenW qn) c8) ∧ W.cell? ⟨p3, 2, none⟩ = some (.slice b9 (lenW qd) d9) ∧ W.cell? ⟨p4, 0, none⟩ = some (.bool rs) ∧ W.cell? ⟨p4, 1, none⟩ = some (.slice a5 n5 c5) ∧ W.cell? ⟨p4, 2, none⟩ = some (.slice b6 m6 d6) ∧ W.cell? ⟨w4.heap.size, 0, none⟩ = some (.int .i64 fe) ∧ W.cell? ⟨w4.heap.size, 1, none⟩ = some (.string fs) ∧ W.cell? ⟨w4.heap.size, 2, none⟩ = some (.int .i64 fk) ∧ (convert 32 9 (.slice a2 z c2)).run Tryz.prog W = .ok (.string u) W ∧ (convert 32 9 (.slice a3 z c3)).run Tryz.prog W = .ok (.string u) W) (by kernel_rfl) (⟨HN.out.cell 1 0 rfl rfl, HN.out.cell 1 1 rfl rfl, HN.out.cell 1 2 rfl rfl, HN.out.cell 2 0 rfl rfl, HN.out.cell 2 1 rfl rfl, HN.out.cell 2 2 rfl rfl, HN.out.cell 3 0 rfl rfl, HN.out.cell 3 1 rfl rfl, HN.out.cell 3 2 rfl rfl, HCV.out _ _ _ HB2.out, HCV.out _ _ _ HB3.out⟩) (fun hHeld => ?_)
      generalize wa5.drew = wd at HN HQ HB2 HEP HB3 hHeld ⊢
      refine tk 0 (some 36) (v := ?_) rfl rfl ?_ ?_
      rotate_left
      · (intro w _; go_simp; (try with_reducible rfl))
      simp only [Act.put, stB, stZ, stS]
      refine tk 1 (some 37) (v := ?_) rfl rfl ?_ ?_
      rotate_left
      · (intro w hSw; (try dsimp only at hSw); go_simp; (try with_reducible rfl))
      simp only [Act.put, stB, stZ, stS]
      refine tk 2 (some 38) (v := ?_) rfl rfl ?_ ?_
      rotate_left
      · (intro w _; go_simp; (try with_reducible rfl))
      simp only [Act.put, stB, stZ, stS]
      refine tk 3 (some 39) (v := ?_) rfl rfl ?_ ?_
      rotate_left
      · (intro w hSw; (try dsimp only at hSw); go_simp; (try with_reducible rfl))
      simp only [Act.put, stB, stZ, stS]
      refine tk 4 (some 40) (v := ?_) rfl rfl ?_ ?_
      rotate_left
      · (intro w _; go_simp; (try with_reducible rfl))
      simp only [Act.put, stB, stZ, stS]
      refine tk 5 (some 41) (v := ?_) rfl rfl ?_ ?_
      rotate_left
      · (intro w _; go_simp; (try with_reducible rfl))
      simp only [Act.put, stB, stZ, stS]
      refine tk 6 (some 42) (v := ?_) rfl rfl ?_ ?_
      rotate_left
      · (intro w _; go_simp; (try with_reducible rfl))
      simp only [Act.put, stB, stZ, stS]
      refine tk 7 (some 43) (v := ?_) rfl rfl ?_ ?_
      rotate_left
      · (intro w hSw; (try dsimp only at hSw); go_simp; (try with_reducible rfl))
      simp only [Act.put, stB, stZ, stS]
      have tg := Mk.mk (v := 0) (d := 0)
      iterate 3
        all_goals first
        | have _ : Mk _ 0 := tg
          refine wpAnyH_ready (rs := [8]) (by kernel_rfl) (by simp) (AllReadyH.cons rfl (fun K hK => cT 0 1 fun tg => ?_) AllReadyH.nil)
        | have _ : Mk _ 1 := tg
          refine wpAnyH_ready (rs := [12]) (by kernel_rfl) (by simp) (AllReadyH.cons rfl (fun K hK => cT 1 2 fun tg => ?_) AllReadyH.nil)
        | have _ : Mk _ 2 := tg
          refine wpAnyH_ready (rs := [14]) (by kernel_rfl) (by simp) (AllReadyH.cons rfl (fun K hK => cT 2 3 fun tg => ?_) AllReadyH.nil)
        all_goals first
        | have _ : Mk 0 _ := tg
          go_simp
          refine (HLK.out _ _ HN.out.bel HEP.out).mono ?_
          rintro e wd ⟨rfl, hb⟩
          replace HQ := Lib.hid (show QW wd a5 n5 c5 b6 m6 d6 rn rd from HQ.out.below hb HQ.out.lt)
          replace HB2 := Lib.hid (show SB wd a2 z c2 l from HB2.out.below hb HB2.out.lt)
          replace HEP := Lib.hid (show EP r wd v2 from HEP.out.below hb HEP.out.lt)
          replace HB3 := Lib.hid (show SB wd a3 z c3 l from HB3.out.below hb HB3.out.lt)
          replace HN := Lib.hid (HN.out.call hb)
          clear hb 
          go_wp2_with fail
          refine hK.out _ _ (⟨HN.out.cell 1 0 rfl rfl, HN.out.cell 1 1 rfl rfl, HN.out.cell 1 2 rfl rfl, HN.out.cell 2 0 rfl rfl, HN.out.cell 2 1 rfl rfl, HN.out.cell 2 2 rfl rfl, HN.out.cell 3 0 rfl rfl, HN.out.cell 3 1 rfl rfl, HN.out.cell 3 2 rfl rfl, HCV.out _ _ _ HB2.out, HCV.out _ _ _ HB3.out⟩) (fun hHeld2 => ?_)
          clear hK K hHeld
          rename _ => hHeld
          try simp only [Act.put, stB, stZ, stS]
          refine tk 9 (some 45) (v := ?_) rfl rfl ?_ ?_
          rotate_left
          · (intro w _; go_simp; (try with_reducible rfl))
          simp only [Act.put, stB, stZ, stS]
          refine tk 10 (some 46) (v := ?_) rfl rfl ?_ ?_
          rotate_left
          · (intro w _; go_simp; (try with_reducible rfl))
          simp only [Act.put, stB, stZ, stS]
          refine tk 11 (some 47) (v := ?_) rfl rfl ?_ ?_
          rotate_left
          · (intro w hSw; (try dsimp only at hSw); go_simp; (try with_reducible rfl))
          simp only [Act.put, stB, stZ, stS]
          refine tk 13 (some 49) (v := ?_) rfl rfl ?_ ?_
          rotate_left
          · (intro w hSw; (try dsimp only at hSw); go_simp; (try with_reducible rfl))
          simp only [Act.put, stB, stZ, stS]
        | have _ : Mk 1 _ := tg
          go_simp
          refine (HTX.out _ _ _ _ _ (HN.out.nat 0 rfl) (HN.out.nat 1 rfl)).mono ?_
          rintro e wd ⟨rfl, hb⟩
          replace HQ := Lib.hid (show QW wd a5 n5 c5 b6 m6 d6 rn rd from HQ.out.below hb HQ.out.lt)
          replace HB2 := Lib.hid (show SB wd a2 z c2 l from HB2.out.below hb HB2.out.lt)
          replace HEP := Lib.hid (show EP r wd v2 from HEP.out.below hb HEP.out.lt)
          replace HB3 := Lib.hid (show SB wd a3 z c3 l from HB3.out.below hb HB3.out.lt)
          replace HN := Lib.hid (HN.out.call hb)
          clear hb 
          go_wp2_with fail
          refine hK.out _ _ (⟨HN.out.cell 1 0 rfl rfl, HN.out.cell 1 1 rfl rfl, HN.out.cell 1 2 rfl rfl, HN.out.cell 2 0 rfl rfl, HN.out.cell 2 1 rfl rfl, HN.out.cell 2 2 rfl rfl, HN.out.cell 3 0 rfl rfl, HN.out.cell 3 1 rfl rfl, HN.out.cell 3 2 rfl rfl, HCV.out _ _ _ HB2.out, HCV.out _ _ _ HB3.out⟩) (fun hHeld2 => ?_)
          clear hK K hHeld
          rename _ => hHeld
          try simp only [Act.put, stB, stZ, stS]
        | have _ : Mk 2 _ := tg
          go_simp
          refine (HTF.out _ _ _ _ _ _ _ HQ.out).mono ?_
          rintro e wd ⟨rfl, hb⟩
          replace HQ := Lib.hid (show QW wd a5 n5 c5 b6 m6 d6 rn rd from HQ.out.below hb HQ.out.lt)
          replace HB2 := Lib.hid (show SB wd a2 z c2 l from HB2.out.below hb HB2.out.lt)
          replace HEP := Lib.hid (show EP r wd v2 from HEP.out.below hb HEP.out.lt)
          replace HB3 := Lib.hid (show SB wd a3 z c3 l from HB3.out.below hb HB3.out.lt)
          replace HN := Lib.hid (HN.out.call hb)
          clear hb 
          go_wp2_with fail
          refine hK.out _ _ (⟨HN.out.cell 1 0 rfl rfl, HN.out.cell 1 1 rfl rfl, HN.out.cell 1 2 rfl rfl, HN.out.cell 2 0 rfl rfl, HN.out.cell 2 1 rfl rfl, HN.out.cell 2 2 rfl rfl, HN.out.cell 3 0 rfl rfl, HN.out.cell 3 1 rfl rfl, HN.out.cell 3 2 rfl rfl, HCV.out _ _ _ HB2.out, HCV.out _ _ _ HB3.out⟩) (fun hHeld2 => ?_)
          clear hK K hHeld
          rename _ => hHeld
          try simp only [Act.put, stB, stZ, stS]
          refine tk 15 (some 51) (v := ?_) rfl rfl ?_ ?_
          rotate_left
          · (intro w _; go_simp; (try with_reducible rfl))
          simp only [Act.put, stB, stZ, stS]
          refine tk 16 (some 52) (v := ?_) rfl rfl ?_ ?_
          rotate_left
          · (intro w _; go_simp; (try with_reducible rfl))
          simp only [Act.put, stB, stZ, stS]
          refine tk 17 (some 2) (v := ?_) rfl rfl ?_ ?_
          rotate_left
          · (intro w _; go_simp; (try with_reducible rfl))
          simp only [Act.put, stB, stZ, stS]
      all_goals (refine wpAnyH_done (by kernel_rfl) ?_ _)
      all_goals
        go_wp2_with fail
        go_meet
        exact ⟨rfl, HN.out.bel⟩
    case rest =>
      obtain ⟨rfl, hb⟩ := hcut
      have HB := Lib.hid hb
      clear hb
      go_wp2_with fail
      go_ret
      exact ⟨rfl, HB.out⟩
theorem tells_long (sg : Bool) (a b : Option Addr) (n c m d : Nat) (w : World) (hn : 40 < n)
    (HAW : Hid (∀ W, Below w.heap.size w W → Calls Tryz.prog 25 #[] W (fun e w' => e = .returned (.bool true) ∧ Below W.heap.size W w'))) :
    Calls Tryz.prog 5 #[.agg #[.bool sg, .slice a n c, .slice b m d]] w fun e w' => e = .returned (.bool true) ∧ Below w.heap.size w w' := by
  obtain ⟨W0, hW0⟩ : ∃ W0, W0 = (w.alloc (.cells #[.bool sg, .slice a n c, .slice b m d] 26)) := ⟨_, rfl⟩
  have hbs : BS w [⟨w.heap.size, 26, [.bool sg, .slice a n c, .slice b m d]⟩] [] (w.alloc (.cells #[.bool sg, .slice a n c, .slice b m d] 26)) :=
      ((BS.start w).alloc (p := w.heap.size) rfl 26 [.bool sg, .slice a n c, .slice b m d] rfl)
  rw [← hW0] at hbs
  have HW0 := Lib.hid hW0
  have HN := Lib.hid hbs
  clear hW0 hbs
  go_enter Tryz.func5, Tryz.ntmps5
  go_wp2_with fail
  rw [← HW0.out]
  refine (HAW.out _ HN.out.bel).mono ?_
  rintro e w1 ⟨rfl, hb⟩
  replace HN := Lib.hid (HN.out.call hb)
  clear hb 
  have k00 := HN.out.cell 0 0 rfl rfl
  have f00 := HN.out.free 0 0 rfl
  have k01 := HN.out.cell 0 1 rfl rfl
  have f01 := HN.out.free 0 1 rfl
  have k02 := HN.out.cell 0 2 rfl rfl
  have f02 := HN.out.free 0 2 rfl
  have HE := Lib.hid (HN.out)
  go_wp2_with fail
  refine bodyPost_ret (v := .bool true) (by simp [results, Tryz.results5, go_sem, k00, k01, k02]) rfl ?_
  exact ⟨rfl, HE.out.bel⟩
theorem tells_long2 (sg : Bool) (a b : Option Addr) (n c m d : Nat) (w : World) (hn : n ≤ 40) (hm : 40 < m)
    (HAW : Hid (∀ W, Below w.heap.size w W → Calls Tryz.prog 25 #[] W (fun e w' => e = .returned (.bool true) ∧ Below W.heap.size W w'))) :
    Calls Tryz.prog 5 #[.agg #[.bool sg, .slice a n c, .slice b m d]] w fun e w' => e = .returned (.bool true) ∧ Below w.heap.size w w' := by
  obtain ⟨W0, hW0⟩ : ∃ W0, W0 = (w.alloc (.cells #[.bool sg, .slice a n c, .slice b m d] 26)) := ⟨_, rfl⟩
  have hbs : BS w [⟨w.heap.size, 26, [.bool sg, .slice a n c, .slice b m d]⟩] [] (w.alloc (.cells #[.bool sg, .slice a n c, .slice b m d] 26)) :=
      ((BS.start w).alloc (p := w.heap.size) rfl 26 [.bool sg, .slice a n c, .slice b m d] rfl)
  rw [← hW0] at hbs
  have HW0 := Lib.hid hW0
  have HN := Lib.hid hbs
  clear hW0 hbs
  go_enter Tryz.func5, Tryz.ntmps5
  go_wp2_with fail
  rw [← HW0.out]
  refine (HAW.out _ HN.out.bel).mono ?_
  rintro e w1 ⟨rfl, hb⟩
  replace HN := Lib.hid (HN.out.call hb)
  clear hb 
  have k00 := HN.out.cell 0 0 rfl rfl
  have f00 := HN.out.free 0 0 rfl
  have k01 := HN.out.cell 0 1 rfl rfl
  have f01 := HN.out.free 0 1 rfl
  have k02 := HN.out.cell 0 2 rfl rfl
  have f02 := HN.out.free 0 2 rfl
  have HE := Lib.hid (HN.out)
  go_wp2_with fail
  refine bodyPost_ret (v := .bool true) (by simp [results, Tryz.results5, go_sem, k00, k01, k02]) rfl ?_
  exact ⟨rfl, HE.out.bel⟩
end Go.Proofs.YtmhainidincjhaaGreatDoor
