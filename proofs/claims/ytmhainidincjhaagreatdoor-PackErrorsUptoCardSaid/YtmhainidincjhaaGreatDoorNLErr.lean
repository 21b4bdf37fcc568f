/-
  The walk of the law PackErrors: what the four functions answer, handed over.
  Printed by a program of this repository (wip/dg25.py).
-/
import Derived.Test.YtmhainidincjhaaGreatDoorNX
set_option linter.unusedVariables false
set_option linter.unusedSimpArgs false
namespace Go.Proofs.YtmhainidincjhaaGreatDoor
open Go.RowKit Go.Extern.Stop Go.Stop Go.Extern
theorem ErrW.lt {w : World} {v : Value} {f : Flt} (_ : ErrW w v f) : True := trivial
theorem ErrW.below' {w w' : World} {v : Value} {f : Flt} (h : ErrW w v f) (hb : Below w.heap.size w w') (_ : True) : ErrW w' v f := h.below hb
theorem ErrW.if2 {w : World} {v : Value} {f : Flt} (h : ErrW w v f) : ∃ T u, v = .iface T u := by
  obtain ⟨n, x⟩ := f
  cases x with
  | none => exact ⟨_, _, h⟩
  | some x => obtain ⟨b, hv, _⟩ := h; exact ⟨_, _, hv⟩
set_option maxRecDepth 100000 in
set_option maxHeartbeats 4000000 in
theorem perr_ok_ok (a : Option Addr) (n c : Nat) (t : ByteArray) (w : World) (qs : Bool) (qn qd l : Nat) (ss : Bool) (sn sd : Nat)
    (HAW : Hid (∀ W, Below w.heap.size w W → Calls Tryz.prog 25 #[] W (fun e w' => e = .returned (.bool true) ∧ Below W.heap.size W w')))
    (HDE : Hid (∀ W, Below w.heap.size w W → Calls Tryz.prog 33 #[.slice a n c] W fun e w' => ∃ a8 c8 b9 d9, e = .returned (.tuple #[.agg #[.bool qs, .slice a8 (lenW qn) c8, .slice b9 (lenW qd) d9], .int .i64 l, .nilIface]) ∧ NatW w' a8 c8 qn ∧ NatW w' b9 d9 qd ∧ Below W.heap.size W w'))
    (HRE : Hid (∀ W, Calls Tryz.prog 35 #[.string t] W fun e w' => ∃ e8 f8 e9 f9, e = .returned (.tuple #[.agg #[.bool ss, .slice e8 (lenW sn) f8, .slice e9 (lenW sd) f9], .nilIface]) ∧ NatW w' e8 f8 sn ∧ NatW w' e9 f9 sd ∧ Below W.heap.size W w')) :
    Calls Tryz.prog 12 #[.slice a n c, .string t] w fun e w' => e = .returned (.bool true) ∧ Below w.heap.size w w' := by
  have HN := Lib.hid (BS.start w)
  go_enter Tryz.func12, Tryz.ntmps12
  go_wp2_with fail
  refine (HAW.out _ HN.out.bel).mono ?_
  rintro e w1 ⟨rfl, hb⟩
  replace HN := Lib.hid (HN.out.call hb)
  clear hb 
  go_wp2_with fail
  refine (HDE.out _ HN.out.bel).mono ?_
  rintro e w2 ⟨a8, c8, b9, d9, rfl, hq0, hq1, hb⟩
  replace HN := Lib.hid (((HN.out.call hb).got hq0).got hq1)
  clear hb hq0 hq1
  have HP := Lib.hid (HN.out.alloc (p := w2.heap.size) rfl 45 [.bool qs, .slice a8 (lenW qn) c8, .slice b9 (lenW qd) d9] rfl)
  have k00p := HP.out.cell 0 0 rfl rfl
  have f00p := HP.out.free 0 0 rfl
  have k01p := HP.out.cell 0 1 rfl rfl
  have f01p := HP.out.free 0 1 rfl
  have k02p := HP.out.cell 0 2 rfl rfl
  have f02p := HP.out.free 0 2 rfl
  go_wp2_with fail
  clear k00p f00p k01p f01p k02p f02p HN
  have HN := HP
  clear HP
  generalize (w2.alloc (.cells #[.bool qs, .slice a8 (lenW qn) c8, .slice b9 (lenW qd) d9] 45)) = wa3 at HN  ⊢
  refine (HRE.out _).mono ?_
  rintro e w4 ⟨e8, f8, e9, f9, rfl, hq0, hq1, hb⟩
  replace HN := Lib.hid (((HN.out.call hb).got hq0).got hq1)
  clear hb hq0 hq1
  have k00 := HN.out.cell 0 0 rfl rfl
  have f00 := HN.out.free 0 0 rfl
  have k01 := HN.out.cell 0 1 rfl rfl
  have f01 := HN.out.free 0 1 rfl
  have k02 := HN.out.cell 0 2 rfl rfl
  have f02 := HN.out.free 0 2 rfl
  have l0 := HN.out.lt 0 rfl
  have HP := Lib.hid (HN.out.alloc (p := w4.heap.size) rfl 45 [.bool ss, .slice e8 (lenW sn) f8, .slice e9 (lenW sd) f9] rfl)
  have k00p := HP.out.cell 0 0 rfl rfl
  have f00p := HP.out.free 0 0 rfl
  have k01p := HP.out.cell 0 1 rfl rfl
  have f01p := HP.out.free 0 1 rfl
  have k02p := HP.out.cell 0 2 rfl rfl
  have f02p := HP.out.free 0 2 rfl
  have k10p := HP.out.cell 1 0 rfl rfl
  have f10p := HP.out.free 1 0 rfl
  have k11p := HP.out.cell 1 1 rfl rfl
  have f11p := HP.out.free 1 1 rfl
  have k12p := HP.out.cell 1 2 rfl rfl
  have f12p := HP.out.free 1 2 rfl
  have HE := Lib.hid (HP.out)
  go_wp2_with fail
  refine bodyPost_ret (v := .bool true) (by simp [results, Tryz.results12, go_sem, k00, k01, k02, k00p, k01p, k02p, k10p, k11p, k12p]) rfl ?_
  exact ⟨rfl, HE.out.bel⟩
set_option maxRecDepth 100000 in
set_option maxHeartbeats 4000000 in
theorem perr_ok_e (a : Option Addr) (n c : Nat) (t : ByteArray) (w : World) (qs : Bool) (qn qd l : Nat) (at2 : Option (List Nat × Int))
    (HAW : Hid (∀ W, Below w.heap.size w W → Calls Tryz.prog 25 #[] W (fun e w' => e = .returned (.bool true) ∧ Below W.heap.size W w')))
    (HDE : Hid (∀ W, Below w.heap.size w W → Calls Tryz.prog 33 #[.slice a n c] W fun e w' => ∃ a8 c8 b9 d9, e = .returned (.tuple #[.agg #[.bool qs, .slice a8 (lenW qn) c8, .slice b9 (lenW qd) d9], .int .i64 l, .nilIface]) ∧ NatW w' a8 c8 qn ∧ NatW w' b9 d9 qd ∧ Below W.heap.size W w'))
    (HRE : Hid (∀ W, Calls Tryz.prog 35 #[.string t] W fun e w' => ∃ T u, e = .returned (.tuple #[.agg #[.bool false, .slice none 0 0, .slice none 0 0], .iface T u]) ∧ ErrW w' (.iface T u) ⟨91, at2⟩ ∧ Below W.heap.size W w'))
    (HZ : Hid (∀ W, Calls Tryz.prog 44 #[.agg #[.bool false, .slice none 0 0, .slice none 0 0]] W (fun e w' => e = .returned (.bool true) ∧ Below W.heap.size W w')))
    (HI2 : Hid (∀ T u W, ErrW W (.iface T u) ⟨91, at2⟩ → Calls Tryz.prog 39 #[.iface T u, .iface 52 (.int .i64 91)] W (fun e w' => e = .returned (.bool true) ∧ Below W.heap.size W w'))) :
    Calls Tryz.prog 12 #[.slice a n c, .string t] w fun e w' => e = .returned (.bool true) ∧ Below w.heap.size w w' := by
  have HN := Lib.hid (BS.start w)
  go_enter Tryz.func12, Tryz.ntmps12
  go_wp2_with fail
  refine (HAW.out _ HN.out.bel).mono ?_
  rintro e w1 ⟨rfl, hb⟩
  replace HN := Lib.hid (HN.out.call hb)
  clear hb 
  go_wp2_with fail
  refine (HDE.out _ HN.out.bel).mono ?_
  rintro e w2 ⟨a8, c8, b9, d9, rfl, hq0, hq1, hb⟩
  replace HN := Lib.hid (((HN.out.call hb).got hq0).got hq1)
  clear hb hq0 hq1
  have HP := Lib.hid (HN.out.alloc (p := w2.heap.size) rfl 45 [.bool qs, .slice a8 (lenW qn) c8, .slice b9 (lenW qd) d9] rfl)
  have k00p := HP.out.cell 0 0 rfl rfl
  have f00p := HP.out.free 0 0 rfl
  have k01p := HP.out.cell 0 1 rfl rfl
  have f01p := HP.out.free 0 1 rfl
  have k02p := HP.out.cell 0 2 rfl rfl
  have f02p := HP.out.free 0 2 rfl
  go_wp2_with fail
  clear k00p f00p k01p f01p k02p f02p HN
  have HN := HP
  clear HP
  generalize (w2.alloc (.cells #[.bool qs, .slice a8 (lenW qn) c8, .slice b9 (lenW qd) d9] 45)) = wa3 at HN  ⊢
  refine (HRE.out _).mono ?_
  rintro e w4 ⟨T2, u2, rfl, hf, hb⟩
  replace HN := Lib.hid (HN.out.call hb)
  have HF2 := Lib.hid hf
  clear hb hf
  have k00 := HN.out.cell 0 0 rfl rfl
  have f00 := HN.out.free 0 0 rfl
  have k01 := HN.out.cell 0 1 rfl rfl
  have f01 := HN.out.free 0 1 rfl
  have k02 := HN.out.cell 0 2 rfl rfl
  have f02 := HN.out.free 0 2 rfl
  have l0 := HN.out.lt 0 rfl
  have HP := Lib.hid (HN.out.alloc (p := w4.heap.size) rfl 45 [.bool false, .slice none 0 0, .slice none 0 0] rfl)
  have k00p := HP.out.cell 0 0 rfl rfl
  have f00p := HP.out.free 0 0 rfl
  have k01p := HP.out.cell 0 1 rfl rfl
  have f01p := HP.out.free 0 1 rfl
  have k02p := HP.out.cell 0 2 rfl rfl
  have f02p := HP.out.free 0 2 rfl
  have k10p := HP.out.cell 1 0 rfl rfl
  have f10p := HP.out.free 1 0 rfl
  have k11p := HP.out.cell 1 1 rfl rfl
  have f11p := HP.out.free 1 1 rfl
  have k12p := HP.out.cell 1 2 rfl rfl
  have f12p := HP.out.free 1 2 rfl
  go_wp2_with fail
  clear k00 f00 k01 f01 k02 f02 l0 k00p f00p k01p f01p k02p f02p k10p f10p k11p f11p k12p f12p HN
  have HN := HP
  clear HP
  replace HF2 := Lib.hid (show ErrW (w4.alloc (.cells #[.bool false, .slice none 0 0, .slice none 0 0] 45)) (.iface T2 u2) ⟨91, at2⟩ from HF2.out.below' (belowBox _ _) HF2.out.lt)
  generalize (w4.alloc (.cells #[.bool false, .slice none 0 0, .slice none 0 0] 45)) = wa5 at HN HF2 ⊢
  refine (HZ.out _).mono ?_
  rintro e w6 ⟨rfl, hb⟩
  replace HF2 := Lib.hid (show ErrW w6 (.iface T2 u2) ⟨91, at2⟩ from HF2.out.below' hb HF2.out.lt)
  replace HN := Lib.hid (HN.out.call hb)
  clear hb 
  have k00 := HN.out.cell 0 0 rfl rfl
  have f00 := HN.out.free 0 0 rfl
  have k01 := HN.out.cell 0 1 rfl rfl
  have f01 := HN.out.free 0 1 rfl
  have k02 := HN.out.cell 0 2 rfl rfl
  have f02 := HN.out.free 0 2 rfl
  have k10 := HN.out.cell 1 0 rfl rfl
  have f10 := HN.out.free 1 0 rfl
  have k11 := HN.out.cell 1 1 rfl rfl
  have f11 := HN.out.free 1 1 rfl
  have k12 := HN.out.cell 1 2 rfl rfl
  have f12 := HN.out.free 1 2 rfl
  go_wp2_with fail
  clear k00 f00 k01 f01 k02 f02 k10 f10 k11 f11 k12 f12
  refine (HI2.out _ _ _ HF2.out).mono ?_
  rintro e w7 ⟨rfl, hb⟩
  replace HF2 := Lib.hid (show ErrW w7 (.iface T2 u2) ⟨91, at2⟩ from HF2.out.below' hb HF2.out.lt)
  replace HN := Lib.hid (HN.out.call hb)
  clear hb 
  have k00 := HN.out.cell 0 0 rfl rfl
  have f00 := HN.out.free 0 0 rfl
  have k01 := HN.out.cell 0 1 rfl rfl
  have f01 := HN.out.free 0 1 rfl
  have k02 := HN.out.cell 0 2 rfl rfl
  have f02 := HN.out.free 0 2 rfl
  have k10 := HN.out.cell 1 0 rfl rfl
  have f10 := HN.out.free 1 0 rfl
  have k11 := HN.out.cell 1 1 rfl rfl
  have f11 := HN.out.free 1 1 rfl
  have k12 := HN.out.cell 1 2 rfl rfl
  have f12 := HN.out.free 1 2 rfl
  have HE := Lib.hid (HN.out)
  go_wp2_with fail
  refine bodyPost_ret (v := .bool true) (by simp [results, Tryz.results12, go_sem, k00, k01, k02, k10, k11, k12]) rfl ?_
  exact ⟨rfl, HE.out.bel⟩
set_option maxRecDepth 100000 in
set_option maxHeartbeats 4000000 in
theorem perr_90_ok (a : Option Addr) (n c : Nat) (t : ByteArray) (w : World) (at1 : Option (List Nat × Int)) (ss : Bool) (sn sd : Nat)
    (HAW : Hid (∀ W, Below w.heap.size w W → Calls Tryz.prog 25 #[] W (fun e w' => e = .returned (.bool true) ∧ Below W.heap.size W w')))
    (HDE : Hid (∀ W, Below w.heap.size w W → Calls Tryz.prog 33 #[.slice a n c] W fun e w' => ∃ T u, e = .returned (.tuple #[.agg #[.bool false, .slice none 0 0, .slice none 0 0], .int .i64 0, .iface T u]) ∧ ErrW w' (.iface T u) ⟨90, at1⟩ ∧ Below W.heap.size W w'))
    (HRE : Hid (∀ W, Calls Tryz.prog 35 #[.string t] W fun e w' => ∃ e8 f8 e9 f9, e = .returned (.tuple #[.agg #[.bool ss, .slice e8 (lenW sn) f8, .slice e9 (lenW sd) f9], .nilIface]) ∧ NatW w' e8 f8 sn ∧ NatW w' e9 f9 sd ∧ Below W.heap.size W w'))
    (HZ : Hid (∀ W, Calls Tryz.prog 44 #[.agg #[.bool false, .slice none 0 0, .slice none 0 0]] W (fun e w' => e = .returned (.bool true) ∧ Below W.heap.size W w')))
    (HI0 : Hid (∀ T u W, ErrW W (.iface T u) ⟨90, at1⟩ → Calls Tryz.prog 39 #[.iface T u, .iface 52 (.int .i64 90)] W (fun e w' => e = .returned (.bool true) ∧ Below W.heap.size W w'))) :
    Calls Tryz.prog 12 #[.slice a n c, .string t] w fun e w' => e = .returned (.bool true) ∧ Below w.heap.size w w' := by
  have HN := Lib.hid (BS.start w)
  go_enter Tryz.func12, Tryz.ntmps12
  go_wp2_with fail
  refine (HAW.out _ HN.out.bel).mono ?_
  rintro e w1 ⟨rfl, hb⟩
  replace HN := Lib.hid (HN.out.call hb)
  clear hb 
  go_wp2_with fail
  refine (HDE.out _ HN.out.bel).mono ?_
  rintro e w2 ⟨T1, u1, rfl, hf, hb⟩
  replace HN := Lib.hid (HN.out.call hb)
  have HF1 := Lib.hid hf
  clear hb hf
  have HP := Lib.hid (HN.out.alloc (p := w2.heap.size) rfl 45 [.bool false, .slice none 0 0, .slice none 0 0] rfl)
  have k00p := HP.out.cell 0 0 rfl rfl
  have f00p := HP.out.free 0 0 rfl
  have k01p := HP.out.cell 0 1 rfl rfl
  have f01p := HP.out.free 0 1 rfl
  have k02p := HP.out.cell 0 2 rfl rfl
  have f02p := HP.out.free 0 2 rfl
  go_wp2_with fail
  clear k00p f00p k01p f01p k02p f02p HN
  have HN := HP
  clear HP
  replace HF1 := Lib.hid (show ErrW (w2.alloc (.cells #[.bool false, .slice none 0 0, .slice none 0 0] 45)) (.iface T1 u1) ⟨90, at1⟩ from HF1.out.below' (belowBox _ _) HF1.out.lt)
  generalize (w2.alloc (.cells #[.bool false, .slice none 0 0, .slice none 0 0] 45)) = wa3 at HN HF1 ⊢
  refine (HRE.out _).mono ?_
  rintro e w4 ⟨e8, f8, e9, f9, rfl, hq0, hq1, hb⟩
  replace HF1 := Lib.hid (show ErrW w4 (.iface T1 u1) ⟨90, at1⟩ from HF1.out.below' hb HF1.out.lt)
  replace HN := Lib.hid (((HN.out.call hb).got hq0).got hq1)
  clear hb hq0 hq1
  have k00 := HN.out.cell 0 0 rfl rfl
  have f00 := HN.out.free 0 0 rfl
  have k01 := HN.out.cell 0 1 rfl rfl
  have f01 := HN.out.free 0 1 rfl
  have k02 := HN.out.cell 0 2 rfl rfl
  have f02 := HN.out.free 0 2 rfl
  have l0 := HN.out.lt 0 rfl
  have HP := Lib.hid (HN.out.alloc (p := w4.heap.size) rfl 45 [.bool ss, .slice e8 (lenW sn) f8, .slice e9 (lenW sd) f9] rfl)
  have k00p := HP.out.cell 0 0 rfl rfl
  have f00p := HP.out.free 0 0 rfl
  have k01p := HP.out.cell 0 1 rfl rfl
  have f01p := HP.out.free 0 1 rfl
  have k02p := HP.out.cell 0 2 rfl rfl
  have f02p := HP.out.free 0 2 rfl
  have k10p := HP.out.cell 1 0 rfl rfl
  have f10p := HP.out.free 1 0 rfl
  have k11p := HP.out.cell 1 1 rfl rfl
  have f11p := HP.out.free 1 1 rfl
  have k12p := HP.out.cell 1 2 rfl rfl
  have f12p := HP.out.free 1 2 rfl
  go_wp2_with fail
  clear k00 f00 k01 f01 k02 f02 l0 k00p f00p k01p f01p k02p f02p k10p f10p k11p f11p k12p f12p HN
  have HN := HP
  clear HP
  replace HF1 := Lib.hid (show ErrW (w4.alloc (.cells #[.bool ss, .slice e8 (lenW sn) f8, .slice e9 (lenW sd) f9] 45)) (.iface T1 u1) ⟨90, at1⟩ from HF1.out.below' (belowBox _ _) HF1.out.lt)
  generalize (w4.alloc (.cells #[.bool ss, .slice e8 (lenW sn) f8, .slice e9 (lenW sd) f9] 45)) = wa5 at HN HF1 ⊢
  refine (HZ.out _).mono ?_
  rintro e w6 ⟨rfl, hb⟩
  replace HF1 := Lib.hid (show ErrW w6 (.iface T1 u1) ⟨90, at1⟩ from HF1.out.below' hb HF1.out.lt)
  replace HN := Lib.hid (HN.out.call hb)
  clear hb 
  have k00 := HN.out.cell 0 0 rfl rfl
  have f00 := HN.out.free 0 0 rfl
  have k01 := HN.out.cell 0 1 rfl rfl
  have f01 := HN.out.free 0 1 rfl
  have k02 := HN.out.cell 0 2 rfl rfl
  have f02 := HN.out.free 0 2 rfl
  have k10 := HN.out.cell 1 0 rfl rfl
  have f10 := HN.out.free 1 0 rfl
  have k11 := HN.out.cell 1 1 rfl rfl
  have f11 := HN.out.free 1 1 rfl
  have k12 := HN.out.cell 1 2 rfl rfl
  have f12 := HN.out.free 1 2 rfl
  go_wp2_with fail
  clear k00 f00 k01 f01 k02 f02 k10 f10 k11 f11 k12 f12
  refine (HI0.out _ _ _ HF1.out).mono ?_
  rintro e w7 ⟨rfl, hb⟩
  replace HF1 := Lib.hid (show ErrW w7 (.iface T1 u1) ⟨90, at1⟩ from HF1.out.below' hb HF1.out.lt)
  replace HN := Lib.hid (HN.out.call hb)
  clear hb 
  have k00 := HN.out.cell 0 0 rfl rfl
  have f00 := HN.out.free 0 0 rfl
  have k01 := HN.out.cell 0 1 rfl rfl
  have f01 := HN.out.free 0 1 rfl
  have k02 := HN.out.cell 0 2 rfl rfl
  have f02 := HN.out.free 0 2 rfl
  have k10 := HN.out.cell 1 0 rfl rfl
  have f10 := HN.out.free 1 0 rfl
  have k11 := HN.out.cell 1 1 rfl rfl
  have f11 := HN.out.free 1 1 rfl
  have k12 := HN.out.cell 1 2 rfl rfl
  have f12 := HN.out.free 1 2 rfl
  have HE := Lib.hid (HN.out)
  go_wp2_with fail
  refine bodyPost_ret (v := .bool true) (by simp [results, Tryz.results12, go_sem, k00, k01, k02, k10, k11, k12]) rfl ?_
  exact ⟨rfl, HE.out.bel⟩
set_option maxRecDepth 100000 in
set_option maxHeartbeats 4000000 in
theorem perr_90_e (a : Option Addr) (n c : Nat) (t : ByteArray) (w : World) (at1 : Option (List Nat × Int)) (at2 : Option (List Nat × Int))
    (HAW : Hid (∀ W, Below w.heap.size w W → Calls Tryz.prog 25 #[] W (fun e w' => e = .returned (.bool true) ∧ Below W.heap.size W w')))
    (HDE : Hid (∀ W, Below w.heap.size w W → Calls Tryz.prog 33 #[.slice a n c] W fun e w' => ∃ T u, e = .returned (.tuple #[.agg #[.bool false, .slice none 0 0, .slice none 0 0], .int .i64 0, .iface T u]) ∧ ErrW w' (.iface T u) ⟨90, at1⟩ ∧ Below W.heap.size W w'))
    (HRE : Hid (∀ W, Calls Tryz.prog 35 #[.string t] W fun e w' => ∃ T u, e = .returned (.tuple #[.agg #[.bool false, .slice none 0 0, .slice none 0 0], .iface T u]) ∧ ErrW w' (.iface T u) ⟨91, at2⟩ ∧ Below W.heap.size W w'))
    (HZ : Hid (∀ W, Calls Tryz.prog 44 #[.agg #[.bool false, .slice none 0 0, .slice none 0 0]] W (fun e w' => e = .returned (.bool true) ∧ Below W.heap.size W w')))
    (HI0 : Hid (∀ T u W, ErrW W (.iface T u) ⟨90, at1⟩ → Calls Tryz.prog 39 #[.iface T u, .iface 52 (.int .i64 90)] W (fun e w' => e = .returned (.bool true) ∧ Below W.heap.size W w')))
    (HI2 : Hid (∀ T u W, ErrW W (.iface T u) ⟨91, at2⟩ → Calls Tryz.prog 39 #[.iface T u, .iface 52 (.int .i64 91)] W (fun e w' => e = .returned (.bool true) ∧ Below W.heap.size W w'))) :
    Calls Tryz.prog 12 #[.slice a n c, .string t] w fun e w' => e = .returned (.bool true) ∧ Below w.heap.size w w' := by
  have HN := Lib.hid (BS.start w)
  go_enter Tryz.func12, Tryz.ntmps12
  go_wp2_with fail
  refine (HAW.out _ HN.out.bel).mono ?_
  rintro e w1 ⟨rfl, hb⟩
  replace HN := Lib.hid (HN.out.call hb)
  clear hb 
  go_wp2_with fail
  refine (HDE.out _ HN.out.bel).mono ?_
  rintro e w2 ⟨T1, u1, rfl, hf, hb⟩
  replace HN := Lib.hid (HN.out.call hb)
  have HF1 := Lib.hid hf
  clear hb hf
  have HP := Lib.hid (HN.out.alloc (p := w2.heap.size) rfl 45 [.bool false, .slice none 0 0, .slice none 0 0] rfl)
  have k00p := HP.out.cell 0 0 rfl rfl
  have f00p := HP.out.free 0 0 rfl
  have k01p := HP.out.cell 0 1 rfl rfl
  have f01p := HP.out.free 0 1 rfl
  have k02p := HP.out.cell 0 2 rfl rfl
  have f02p := HP.out.free 0 2 rfl
  go_wp2_with fail
  clear k00p f00p k01p f01p k02p f02p HN
  have HN := HP
  clear HP
  replace HF1 := Lib.hid (show ErrW (w2.alloc (.cells #[.bool false, .slice none 0 0, .slice none 0 0] 45)) (.iface T1 u1) ⟨90, at1⟩ from HF1.out.below' (belowBox _ _) HF1.out.lt)
  generalize (w2.alloc (.cells #[.bool false, .slice none 0 0, .slice none 0 0] 45)) = wa3 at HN HF1 ⊢
  refine (HRE.out _).mono ?_
  rintro e w4 ⟨T2, u2, rfl, hf, hb⟩
  replace HF1 := Lib.hid (show ErrW w4 (.iface T1 u1) ⟨90, at1⟩ from HF1.out.below' hb HF1.out.lt)
  replace HN := Lib.hid (HN.out.call hb)
  have HF2 := Lib.hid hf
  clear hb hf
  have k00 := HN.out.cell 0 0 rfl rfl
  have f00 := HN.out.free 0 0 rfl
  have k01 := HN.out.cell 0 1 rfl rfl
  have f01 := HN.out.free 0 1 rfl
  have k02 := HN.out.cell 0 2 rfl rfl
  have f02 := HN.out.free 0 2 rfl
  have l0 := HN.out.lt 0 rfl
  have HP := Lib.hid (HN.out.alloc (p := w4.heap.size) rfl 45 [.bool false, .slice none 0 0, .slice none 0 0] rfl)
  have k00p := HP.out.cell 0 0 rfl rfl
  have f00p := HP.out.free 0 0 rfl
  have k01p := HP.out.cell 0 1 rfl rfl
  have f01p := HP.out.free 0 1 rfl
  have k02p := HP.out.cell 0 2 rfl rfl
  have f02p := HP.out.free 0 2 rfl
  have k10p := HP.out.cell 1 0 rfl rfl
  have f10p := HP.out.free 1 0 rfl
  have k11p := HP.out.cell 1 1 rfl rfl
  have f11p := HP.out.free 1 1 rfl
  have k12p := HP.out.cell 1 2 rfl rfl
  have f12p := HP.out.free 1 2 rfl
  go_wp2_with fail
  clear k00 f00 k01 f01 k02 f02 l0 k00p f00p k01p f01p k02p f02p k10p f10p k11p f11p k12p f12p HN
  have HN := HP
  clear HP
  replace HF1 := Lib.hid (show ErrW (w4.alloc (.cells #[.bool false, .slice none 0 0, .slice none 0 0] 45)) (.iface T1 u1) ⟨90, at1⟩ from HF1.out.below' (belowBox _ _) HF1.out.lt)
  replace HF2 := Lib.hid (show ErrW (w4.alloc (.cells #[.bool false, .slice none 0 0, .slice none 0 0] 45)) (.iface T2 u2) ⟨91, at2⟩ from HF2.out.below' (belowBox _ _) HF2.out.lt)
  generalize (w4.alloc (.cells #[.bool false, .slice none 0 0, .slice none 0 0] 45)) = wa5 at HN HF1 HF2 ⊢
  refine (HZ.out _).mono ?_
  rintro e w6 ⟨rfl, hb⟩
  replace HF1 := Lib.hid (show ErrW w6 (.iface T1 u1) ⟨90, at1⟩ from HF1.out.below' hb HF1.out.lt)
  replace HF2 := Lib.hid (show ErrW w6 (.iface T2 u2) ⟨91, at2⟩ from HF2.out.below' hb HF2.out.lt)
  replace HN := Lib.hid (HN.out.call hb)
  clear hb 
  have k00 := HN.out.cell 0 0 rfl rfl
  have f00 := HN.out.free 0 0 rfl
  have k01 := HN.out.cell 0 1 rfl rfl
  have f01 := HN.out.free 0 1 rfl
  have k02 := HN.out.cell 0 2 rfl rfl
  have f02 := HN.out.free 0 2 rfl
  have k10 := HN.out.cell 1 0 rfl rfl
  have f10 := HN.out.free 1 0 rfl
  have k11 := HN.out.cell 1 1 rfl rfl
  have f11 := HN.out.free 1 1 rfl
  have k12 := HN.out.cell 1 2 rfl rfl
  have f12 := HN.out.free 1 2 rfl
  go_wp2_with fail
  clear k00 f00 k01 f01 k02 f02 k10 f10 k11 f11 k12 f12
  refine (HI0.out _ _ _ HF1.out).mono ?_
  rintro e w7 ⟨rfl, hb⟩
  replace HF1 := Lib.hid (show ErrW w7 (.iface T1 u1) ⟨90, at1⟩ from HF1.out.below' hb HF1.out.lt)
  replace HF2 := Lib.hid (show ErrW w7 (.iface T2 u2) ⟨91, at2⟩ from HF2.out.below' hb HF2.out.lt)
  replace HN := Lib.hid (HN.out.call hb)
  clear hb 
  have k00 := HN.out.cell 0 0 rfl rfl
  have f00 := HN.out.free 0 0 rfl
  have k01 := HN.out.cell 0 1 rfl rfl
  have f01 := HN.out.free 0 1 rfl
  have k02 := HN.out.cell 0 2 rfl rfl
  have f02 := HN.out.free 0 2 rfl
  have k10 := HN.out.cell 1 0 rfl rfl
  have f10 := HN.out.free 1 0 rfl
  have k11 := HN.out.cell 1 1 rfl rfl
  have f11 := HN.out.free 1 1 rfl
  have k12 := HN.out.cell 1 2 rfl rfl
  have f12 := HN.out.free 1 2 rfl
  go_wp2_with fail
  clear k00 f00 k01 f01 k02 f02 k10 f10 k11 f11 k12 f12
  refine (HZ.out _).mono ?_
  rintro e w8 ⟨rfl, hb⟩
  replace HF1 := Lib.hid (show ErrW w8 (.iface T1 u1) ⟨90, at1⟩ from HF1.out.below' hb HF1.out.lt)
  replace HF2 := Lib.hid (show ErrW w8 (.iface T2 u2) ⟨91, at2⟩ from HF2.out.below' hb HF2.out.lt)
  replace HN := Lib.hid (HN.out.call hb)
  clear hb 
  have k00 := HN.out.cell 0 0 rfl rfl
  have f00 := HN.out.free 0 0 rfl
  have k01 := HN.out.cell 0 1 rfl rfl
  have f01 := HN.out.free 0 1 rfl
  have k02 := HN.out.cell 0 2 rfl rfl
  have f02 := HN.out.free 0 2 rfl
  have k10 := HN.out.cell 1 0 rfl rfl
  have f10 := HN.out.free 1 0 rfl
  have k11 := HN.out.cell 1 1 rfl rfl
  have f11 := HN.out.free 1 1 rfl
  have k12 := HN.out.cell 1 2 rfl rfl
  have f12 := HN.out.free 1 2 rfl
  go_wp2_with fail
  clear k00 f00 k01 f01 k02 f02 k10 f10 k11 f11 k12 f12
  refine (HI2.out _ _ _ HF2.out).mono ?_
  rintro e w9 ⟨rfl, hb⟩
  replace HF1 := Lib.hid (show ErrW w9 (.iface T1 u1) ⟨90, at1⟩ from HF1.out.below' hb HF1.out.lt)
  replace HF2 := Lib.hid (show ErrW w9 (.iface T2 u2) ⟨91, at2⟩ from HF2.out.below' hb HF2.out.lt)
  replace HN := Lib.hid (HN.out.call hb)
  clear hb 
  have k00 := HN.out.cell 0 0 rfl rfl
  have f00 := HN.out.free 0 0 rfl
  have k01 := HN.out.cell 0 1 rfl rfl
  have f01 := HN.out.free 0 1 rfl
  have k02 := HN.out.cell 0 2 rfl rfl
  have f02 := HN.out.free 0 2 rfl
  have k10 := HN.out.cell 1 0 rfl rfl
  have f10 := HN.out.free 1 0 rfl
  have k11 := HN.out.cell 1 1 rfl rfl
  have f11 := HN.out.free 1 1 rfl
  have k12 := HN.out.cell 1 2 rfl rfl
  have f12 := HN.out.free 1 2 rfl
  have HE := Lib.hid (HN.out)
  go_wp2_with fail
  refine bodyPost_ret (v := .bool true) (by simp [results, Tryz.results12, go_sem, k00, k01, k02, k10, k11, k12]) rfl ?_
  exact ⟨rfl, HE.out.bel⟩
set_option maxRecDepth 100000 in
set_option maxHeartbeats 4000000 in
theorem perr_91_ok (a : Option Addr) (n c : Nat) (t : ByteArray) (w : World) (at1 : Option (List Nat × Int)) (ss : Bool) (sn sd : Nat)
    (HAW : Hid (∀ W, Below w.heap.size w W → Calls Tryz.prog 25 #[] W (fun e w' => e = .returned (.bool true) ∧ Below W.heap.size W w')))
    (HDE : Hid (∀ W, Below w.heap.size w W → Calls Tryz.prog 33 #[.slice a n c] W fun e w' => ∃ T u, e = .returned (.tuple #[.agg #[.bool false, .slice none 0 0, .slice none 0 0], .int .i64 0, .iface T u]) ∧ ErrW w' (.iface T u) ⟨91, at1⟩ ∧ Below W.heap.size W w'))
    (HRE : Hid (∀ W, Calls Tryz.prog 35 #[.string t] W fun e w' => ∃ e8 f8 e9 f9, e = .returned (.tuple #[.agg #[.bool ss, .slice e8 (lenW sn) f8, .slice e9 (lenW sd) f9], .nilIface]) ∧ NatW w' e8 f8 sn ∧ NatW w' e9 f9 sd ∧ Below W.heap.size W w'))
    (HZ : Hid (∀ W, Calls Tryz.prog 44 #[.agg #[.bool false, .slice none 0 0, .slice none 0 0]] W (fun e w' => e = .returned (.bool true) ∧ Below W.heap.size W w')))
    (HI0 : Hid (∀ T u W, ErrW W (.iface T u) ⟨91, at1⟩ → Calls Tryz.prog 39 #[.iface T u, .iface 52 (.int .i64 90)] W (fun e w' => e = .returned (.bool false) ∧ Below W.heap.size W w')))
    (HI1 : Hid (∀ T u W, ErrW W (.iface T u) ⟨91, at1⟩ → Calls Tryz.prog 39 #[.iface T u, .iface 52 (.int .i64 91)] W (fun e w' => e = .returned (.bool true) ∧ Below W.heap.size W w'))) :
    Calls Tryz.prog 12 #[.slice a n c, .string t] w fun e w' => e = .returned (.bool true) ∧ Below w.heap.size w w' := by
  have HN := Lib.hid (BS.start w)
  go_enter Tryz.func12, Tryz.ntmps12
  go_wp2_with fail
  refine (HAW.out _ HN.out.bel).mono ?_
  rintro e w1 ⟨rfl, hb⟩
  replace HN := Lib.hid (HN.out.call hb)
  clear hb 
  go_wp2_with fail
  refine (HDE.out _ HN.out.bel).mono ?_
  rintro e w2 ⟨T1, u1, rfl, hf, hb⟩
  replace HN := Lib.hid (HN.out.call hb)
  have HF1 := Lib.hid hf
  clear hb hf
  have HP := Lib.hid (HN.out.alloc (p := w2.heap.size) rfl 45 [.bool false, .slice none 0 0, .slice none 0 0] rfl)
  have k00p := HP.out.cell 0 0 rfl rfl
  have f00p := HP.out.free 0 0 rfl
  have k01p := HP.out.cell 0 1 rfl rfl
  have f01p := HP.out.free 0 1 rfl
  have k02p := HP.out.cell 0 2 rfl rfl
  have f02p := HP.out.free 0 2 rfl
  go_wp2_with fail
  clear k00p f00p k01p f01p k02p f02p HN
  have HN := HP
  clear HP
  replace HF1 := Lib.hid (show ErrW (w2.alloc (.cells #[.bool false, .slice none 0 0, .slice none 0 0] 45)) (.iface T1 u1) ⟨91, at1⟩ from HF1.out.below' (belowBox _ _) HF1.out.lt)
  generalize (w2.alloc (.cells #[.bool false, .slice none 0 0, .slice none 0 0] 45)) = wa3 at HN HF1 ⊢
  refine (HRE.out _).mono ?_
  rintro e w4 ⟨e8, f8, e9, f9, rfl, hq0, hq1, hb⟩
  replace HF1 := Lib.hid (show ErrW w4 (.iface T1 u1) ⟨91, at1⟩ from HF1.out.below' hb HF1.out.lt)
  replace HN := Lib.hid (((HN.out.call hb).got hq0).got hq1)
  clear hb hq0 hq1
  have k00 := HN.out.cell 0 0 rfl rfl
  have f00 := HN.out.free 0 0 rfl
  have k01 := HN.out.cell 0 1 rfl rfl
  have f01 := HN.out.free 0 1 rfl
  have k02 := HN.out.cell 0 2 rfl rfl
  have f02 := HN.out.free 0 2 rfl
  have l0 := HN.out.lt 0 rfl
  have HP := Lib.hid (HN.out.alloc (p := w4.heap.size) rfl 45 [.bool ss, .slice e8 (lenW sn) f8, .slice e9 (lenW sd) f9] rfl)
  have k00p := HP.out.cell 0 0 rfl rfl
  have f00p := HP.out.free 0 0 rfl
  have k01p := HP.out.cell 0 1 rfl rfl
  have f01p := HP.out.free 0 1 rfl
  have k02p := HP.out.cell 0 2 rfl rfl
  have f02p := HP.out.free 0 2 rfl
  have k10p := HP.out.cell 1 0 rfl rfl
  have f10p := HP.out.free 1 0 rfl
  have k11p := HP.out.cell 1 1 rfl rfl
  have f11p := HP.out.free 1 1 rfl
  have k12p := HP.out.cell 1 2 rfl rfl
  have f12p := HP.out.free 1 2 rfl
  go_wp2_with fail
  clear k00 f00 k01 f01 k02 f02 l0 k00p f00p k01p f01p k02p f02p k10p f10p k11p f11p k12p f12p HN
  have HN := HP
  clear HP
  replace HF1 := Lib.hid (show ErrW (w4.alloc (.cells #[.bool ss, .slice e8 (lenW sn) f8, .slice e9 (lenW sd) f9] 45)) (.iface T1 u1) ⟨91, at1⟩ from HF1.out.below' (belowBox _ _) HF1.out.lt)
  generalize (w4.alloc (.cells #[.bool ss, .slice e8 (lenW sn) f8, .slice e9 (lenW sd) f9] 45)) = wa5 at HN HF1 ⊢
  refine (HZ.out _).mono ?_
  rintro e w6 ⟨rfl, hb⟩
  replace HF1 := Lib.hid (show ErrW w6 (.iface T1 u1) ⟨91, at1⟩ from HF1.out.below' hb HF1.out.lt)
  replace HN := Lib.hid (HN.out.call hb)
  clear hb 
  have k00 := HN.out.cell 0 0 rfl rfl
  have f00 := HN.out.free 0 0 rfl
  have k01 := HN.out.cell 0 1 rfl rfl
  have f01 := HN.out.free 0 1 rfl
  have k02 := HN.out.cell 0 2 rfl rfl
  have f02 := HN.out.free 0 2 rfl
  have k10 := HN.out.cell 1 0 rfl rfl
  have f10 := HN.out.free 1 0 rfl
  have k11 := HN.out.cell 1 1 rfl rfl
  have f11 := HN.out.free 1 1 rfl
  have k12 := HN.out.cell 1 2 rfl rfl
  have f12 := HN.out.free 1 2 rfl
  go_wp2_with fail
  clear k00 f00 k01 f01 k02 f02 k10 f10 k11 f11 k12 f12
  refine (HI0.out _ _ _ HF1.out).mono ?_
  rintro e w7 ⟨rfl, hb⟩
  replace HF1 := Lib.hid (show ErrW w7 (.iface T1 u1) ⟨91, at1⟩ from HF1.out.below' hb HF1.out.lt)
  replace HN := Lib.hid (HN.out.call hb)
  clear hb 
  have k00 := HN.out.cell 0 0 rfl rfl
  have f00 := HN.out.free 0 0 rfl
  have k01 := HN.out.cell 0 1 rfl rfl
  have f01 := HN.out.free 0 1 rfl
  have k02 := HN.out.cell 0 2 rfl rfl
  have f02 := HN.out.free 0 2 rfl
  have k10 := HN.out.cell 1 0 rfl rfl
  have f10 := HN.out.free 1 0 rfl
  have k11 := HN.out.cell 1 1 rfl rfl
  have f11 := HN.out.free 1 1 rfl
  have k12 := HN.out.cell 1 2 rfl rfl
  have f12 := HN.out.free 1 2 rfl
  go_wp2_with fail
  clear k00 f00 k01 f01 k02 f02 k10 f10 k11 f11 k12 f12
  refine (HI1.out _ _ _ HF1.out).mono ?_
  rintro e w8 ⟨rfl, hb⟩
  replace HF1 := Lib.hid (show ErrW w8 (.iface T1 u1) ⟨91, at1⟩ from HF1.out.below' hb HF1.out.lt)
  replace HN := Lib.hid (HN.out.call hb)
  clear hb 
  have k00 := HN.out.cell 0 0 rfl rfl
  have f00 := HN.out.free 0 0 rfl
  have k01 := HN.out.cell 0 1 rfl rfl
  have f01 := HN.out.free 0 1 rfl
  have k02 := HN.out.cell 0 2 rfl rfl
  have f02 := HN.out.free 0 2 rfl
  have k10 := HN.out.cell 1 0 rfl rfl
  have f10 := HN.out.free 1 0 rfl
  have k11 := HN.out.cell 1 1 rfl rfl
  have f11 := HN.out.free 1 1 rfl
  have k12 := HN.out.cell 1 2 rfl rfl
  have f12 := HN.out.free 1 2 rfl
  have HE := Lib.hid (HN.out)
  go_wp2_with fail
  refine bodyPost_ret (v := .bool true) (by simp [results, Tryz.results12, go_sem, k00, k01, k02, k10, k11, k12]) rfl ?_
  exact ⟨rfl, HE.out.bel⟩
set_option maxRecDepth 100000 in
set_option maxHeartbeats 4000000 in
theorem perr_91_e (a : Option Addr) (n c : Nat) (t : ByteArray) (w : World) (at1 : Option (List Nat × Int)) (at2 : Option (List Nat × Int))
    (HAW : Hid (∀ W, Below w.heap.size w W → Calls Tryz.prog 25 #[] W (fun e w' => e = .returned (.bool true) ∧ Below W.heap.size W w')))
    (HDE : Hid (∀ W, Below w.heap.size w W → Calls Tryz.prog 33 #[.slice a n c] W fun e w' => ∃ T u, e = .returned (.tuple #[.agg #[.bool false, .slice none 0 0, .slice none 0 0], .int .i64 0, .iface T u]) ∧ ErrW w' (.iface T u) ⟨91, at1⟩ ∧ Below W.heap.size W w'))
    (HRE : Hid (∀ W, Calls Tryz.prog 35 #[.string t] W fun e w' => ∃ T u, e = .returned (.tuple #[.agg #[.bool false, .slice none 0 0, .slice none 0 0], .iface T u]) ∧ ErrW w' (.iface T u) ⟨91, at2⟩ ∧ Below W.heap.size W w'))
    (HZ : Hid (∀ W, Calls Tryz.prog 44 #[.agg #[.bool false, .slice none 0 0, .slice none 0 0]] W (fun e w' => e = .returned (.bool true) ∧ Below W.heap.size W w')))
    (HI0 : Hid (∀ T u W, ErrW W (.iface T u) ⟨91, at1⟩ → Calls Tryz.prog 39 #[.iface T u, .iface 52 (.int .i64 90)] W (fun e w' => e = .returned (.bool false) ∧ Below W.heap.size W w')))
    (HI1 : Hid (∀ T u W, ErrW W (.iface T u) ⟨91, at1⟩ → Calls Tryz.prog 39 #[.iface T u, .iface 52 (.int .i64 91)] W (fun e w' => e = .returned (.bool true) ∧ Below W.heap.size W w')))
    (HI2 : Hid (∀ T u W, ErrW W (.iface T u) ⟨91, at2⟩ → Calls Tryz.prog 39 #[.iface T u, .iface 52 (.int .i64 91)] W (fun e w' => e = .returned (.bool true) ∧ Below W.heap.size W w'))) :
    Calls Tryz.prog 12 #[.slice a n c, .string t] w fun e w' => e = .returned (.bool true) ∧ Below w.heap.size w w' := by
  have HN := Lib.hid (BS.start w)
  go_enter Tryz.func12, Tryz.ntmps12
  go_wp2_with fail
  refine (HAW.out _ HN.out.bel).mono ?_
  rintro e w1 ⟨rfl, hb⟩
  replace HN := Lib.hid (HN.out.call hb)
  clear hb 
  go_wp2_with fail
  refine (HDE.out _ HN.out.bel).mono ?_
  rintro e w2 ⟨T1, u1, rfl, hf, hb⟩
  replace HN := Lib.hid (HN.out.call hb)
  have HF1 := Lib.hid hf
  clear hb hf
  have HP := Lib.hid (HN.out.alloc (p := w2.heap.size) rfl 45 [.bool false, .slice none 0 0, .slice none 0 0] rfl)
  have k00p := HP.out.cell 0 0 rfl rfl
  have f00p := HP.out.free 0 0 rfl
  have k01p := HP.out.cell 0 1 rfl rfl
  have f01p := HP.out.free 0 1 rfl
  have k02p := HP.out.cell 0 2 rfl rfl
  have f02p := HP.out.free 0 2 rfl
  go_wp2_with fail
  clear k00p f00p k01p f01p k02p f02p HN
  have HN := HP
  clear HP
  replace HF1 := Lib.hid (show ErrW (w2.alloc (.cells #[.bool false, .slice none 0 0, .slice none 0 0] 45)) (.iface T1 u1) ⟨91, at1⟩ from HF1.out.below' (belowBox _ _) HF1.out.lt)
  generalize (w2.alloc (.cells #[.bool false, .slice none 0 0, .slice none 0 0] 45)) = wa3 at HN HF1 ⊢
  refine (HRE.out _).mono ?_
  rintro e w4 ⟨T2, u2, rfl, hf, hb⟩
  replace HF1 := Lib.hid (show ErrW w4 (.iface T1 u1) ⟨91, at1⟩ from HF1.out.below' hb HF1.out.lt)
  replace HN := Lib.hid (HN.out.call hb)
  have HF2 := Lib.hid hf
  clear hb hf
  have k00 := HN.out.cell 0 0 rfl rfl
  have f00 := HN.out.free 0 0 rfl
  have k01 := HN.out.cell 0 1 rfl rfl
  have f01 := HN.out.free 0 1 rfl
  have k02 := HN.out.cell 0 2 rfl rfl
  have f02 := HN.out.free 0 2 rfl
  have l0 := HN.out.lt 0 rfl
  have HP := Lib.hid (HN.out.alloc (p := w4.heap.size) rfl 45 [.bool false, .slice none 0 0, .slice none 0 0] rfl)
  have k00p := HP.out.cell 0 0 rfl rfl
  have f00p := HP.out.free 0 0 rfl
  have k01p := HP.out.cell 0 1 rfl rfl
  have f01p := HP.out.free 0 1 rfl
  have k02p := HP.out.cell 0 2 rfl rfl
  have f02p := HP.out.free 0 2 rfl
  have k10p := HP.out.cell 1 0 rfl rfl
  have f10p := HP.out.free 1 0 rfl
  have k11p := HP.out.cell 1 1 rfl rfl
  have f11p := HP.out.free 1 1 rfl
  have k12p := HP.out.cell 1 2 rfl rfl
  have f12p := HP.out.free 1 2 rfl
  go_wp2_with fail
  clear k00 f00 k01 f01 k02 f02 l0 k00p f00p k01p f01p k02p f02p k10p f10p k11p f11p k12p f12p HN
  have HN := HP
  clear HP
  replace HF1 := Lib.hid (show ErrW (w4.alloc (.cells #[.bool false, .slice none 0 0, .slice none 0 0] 45)) (.iface T1 u1) ⟨91, at1⟩ from HF1.out.below' (belowBox _ _) HF1.out.lt)
  replace HF2 := Lib.hid (show ErrW (w4.alloc (.cells #[.bool false, .slice none 0 0, .slice none 0 0] 45)) (.iface T2 u2) ⟨91, at2⟩ from HF2.out.below' (belowBox _ _) HF2.out.lt)
  generalize (w4.alloc (.cells #[.bool false, .slice none 0 0, .slice none 0 0] 45)) = wa5 at HN HF1 HF2 ⊢
  refine (HZ.out _).mono ?_
  rintro e w6 ⟨rfl, hb⟩
  replace HF1 := Lib.hid (show ErrW w6 (.iface T1 u1) ⟨91, at1⟩ from HF1.out.below' hb HF1.out.lt)
  replace HF2 := Lib.hid (show ErrW w6 (.iface T2 u2) ⟨91, at2⟩ from HF2.out.below' hb HF2.out.lt)
  replace HN := Lib.hid (HN.out.call hb)
  clear hb 
  have k00 := HN.out.cell 0 0 rfl rfl
  have f00 := HN.out.free 0 0 rfl
  have k01 := HN.out.cell 0 1 rfl rfl
  have f01 := HN.out.free 0 1 rfl
  have k02 := HN.out.cell 0 2 rfl rfl
  have f02 := HN.out.free 0 2 rfl
  have k10 := HN.out.cell 1 0 rfl rfl
  have f10 := HN.out.free 1 0 rfl
  have k11 := HN.out.cell 1 1 rfl rfl
  have f11 := HN.out.free 1 1 rfl
  have k12 := HN.out.cell 1 2 rfl rfl
  have f12 := HN.out.free 1 2 rfl
  go_wp2_with fail
  clear k00 f00 k01 f01 k02 f02 k10 f10 k11 f11 k12 f12
  refine (HI0.out _ _ _ HF1.out).mono ?_
  rintro e w7 ⟨rfl, hb⟩
  replace HF1 := Lib.hid (show ErrW w7 (.iface T1 u1) ⟨91, at1⟩ from HF1.out.below' hb HF1.out.lt)
  replace HF2 := Lib.hid (show ErrW w7 (.iface T2 u2) ⟨91, at2⟩ from HF2.out.below' hb HF2.out.lt)
  replace HN := Lib.hid (HN.out.call hb)
  clear hb 
  have k00 := HN.out.cell 0 0 rfl rfl
  have f00 := HN.out.free 0 0 rfl
  have k01 := HN.out.cell 0 1 rfl rfl
  have f01 := HN.out.free 0 1 rfl
  have k02 := HN.out.cell 0 2 rfl rfl
  have f02 := HN.out.free 0 2 rfl
  have k10 := HN.out.cell 1 0 rfl rfl
  have f10 := HN.out.free 1 0 rfl
  have k11 := HN.out.cell 1 1 rfl rfl
  have f11 := HN.out.free 1 1 rfl
  have k12 := HN.out.cell 1 2 rfl rfl
  have f12 := HN.out.free 1 2 rfl
  go_wp2_with fail
  clear k00 f00 k01 f01 k02 f02 k10 f10 k11 f11 k12 f12
  refine (HI1.out _ _ _ HF1.out).mono ?_
  rintro e w8 ⟨rfl, hb⟩
  replace HF1 := Lib.hid (show ErrW w8 (.iface T1 u1) ⟨91, at1⟩ from HF1.out.below' hb HF1.out.lt)
  replace HF2 := Lib.hid (show ErrW w8 (.iface T2 u2) ⟨91, at2⟩ from HF2.out.below' hb HF2.out.lt)
  replace HN := Lib.hid (HN.out.call hb)
  clear hb 
  have k00 := HN.out.cell 0 0 rfl rfl
  have f00 := HN.out.free 0 0 rfl
  have k01 := HN.out.cell 0 1 rfl rfl
  have f01 := HN.out.free 0 1 rfl
  have k02 := HN.out.cell 0 2 rfl rfl
  have f02 := HN.out.free 0 2 rfl
  have k10 := HN.out.cell 1 0 rfl rfl
  have f10 := HN.out.free 1 0 rfl
  have k11 := HN.out.cell 1 1 rfl rfl
  have f11 := HN.out.free 1 1 rfl
  have k12 := HN.out.cell 1 2 rfl rfl
  have f12 := HN.out.free 1 2 rfl
  go_wp2_with fail
  clear k00 f00 k01 f01 k02 f02 k10 f10 k11 f11 k12 f12
  refine (HZ.out _).mono ?_
  rintro e w9 ⟨rfl, hb⟩
  replace HF1 := Lib.hid (show ErrW w9 (.iface T1 u1) ⟨91, at1⟩ from HF1.out.below' hb HF1.out.lt)
  replace HF2 := Lib.hid (show ErrW w9 (.iface T2 u2) ⟨91, at2⟩ from HF2.out.below' hb HF2.out.lt)
  replace HN := Lib.hid (HN.out.call hb)
  clear hb 
  have k00 := HN.out.cell 0 0 rfl rfl
  have f00 := HN.out.free 0 0 rfl
  have k01 := HN.out.cell 0 1 rfl rfl
  have f01 := HN.out.free 0 1 rfl
  have k02 := HN.out.cell 0 2 rfl rfl
  have f02 := HN.out.free 0 2 rfl
  have k10 := HN.out.cell 1 0 rfl rfl
  have f10 := HN.out.free 1 0 rfl
  have k11 := HN.out.cell 1 1 rfl rfl
  have f11 := HN.out.free 1 1 rfl
  have k12 := HN.out.cell 1 2 rfl rfl
  have f12 := HN.out.free 1 2 rfl
  go_wp2_with fail
  clear k00 f00 k01 f01 k02 f02 k10 f10 k11 f11 k12 f12
  refine (HI2.out _ _ _ HF2.out).mono ?_
  rintro e w10 ⟨rfl, hb⟩
  replace HF1 := Lib.hid (show ErrW w10 (.iface T1 u1) ⟨91, at1⟩ from HF1.out.below' hb HF1.out.lt)
  replace HF2 := Lib.hid (show ErrW w10 (.iface T2 u2) ⟨91, at2⟩ from HF2.out.below' hb HF2.out.lt)
  replace HN := Lib.hid (HN.out.call hb)
  clear hb 
  have k00 := HN.out.cell 0 0 rfl rfl
  have f00 := HN.out.free 0 0 rfl
  have k01 := HN.out.cell 0 1 rfl rfl
  have f01 := HN.out.free 0 1 rfl
  have k02 := HN.out.cell 0 2 rfl rfl
  have f02 := HN.out.free 0 2 rfl
  have k10 := HN.out.cell 1 0 rfl rfl
  have f10 := HN.out.free 1 0 rfl
  have k11 := HN.out.cell 1 1 rfl rfl
  have f11 := HN.out.free 1 1 rfl
  have k12 := HN.out.cell 1 2 rfl rfl
  have f12 := HN.out.free 1 2 rfl
  have HE := Lib.hid (HN.out)
  go_wp2_with fail
  refine bodyPost_ret (v := .bool true) (by simp [results, Tryz.results12, go_sem, k00, k01, k02, k10, k11, k12]) rfl ?_
  exact ⟨rfl, HE.out.bel⟩
end Go.Proofs.YtmhainidincjhaaGreatDoor
