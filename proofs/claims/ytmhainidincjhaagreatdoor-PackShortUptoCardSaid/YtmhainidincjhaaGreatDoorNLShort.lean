/-
  The walk of the law PackShort: what the functions answer, handed over.
  Printed by a program of this repository (wip/dg31.py).
-/
import Derived.Test.YtmhainidincjhaaGreatDoorNL
set_option linter.unusedVariables false
set_option linter.unusedSimpArgs false
namespace Go.Proofs.YtmhainidincjhaaGreatDoor
open Go.RowKit Go.Extern.Stop Go.Stop Go.Extern
theorem SB.caps {w : World} {a : Option Addr} {n c : Nat} {l : List Nat} (h : SB w a n c l) : n ≤ c ∧ c ≤ 9223372036854775807 := ⟨(BytesN.len h).2.1, (BytesN.len h).2.2.1⟩
set_option maxRecDepth 100000 in
set_option maxHeartbeats 4000000 in
theorem pshort_err (sg qs : Bool) (a b : Option Addr) (n c m d qn qd : Nat) (w : World) (y : Int) (s1 : ByteArray) (k1 : Int)
    (HAW : Hid (∀ W, Below w.heap.size w W → Calls Tryz.prog 25 #[] W (fun e w' => e = .returned (.bool true) ∧ Below W.heap.size W w')))
    (HMK : Hid (∀ W, Below w.heap.size w W → Calls Tryz.prog 26 #[.agg #[.bool sg, .slice a n c, .slice b m d]] W (fun e w' => ∃ a8 c8 b9 d9, e = .returned (.agg #[.bool qs, .slice a8 (lenW qn) c8, .slice b9 (lenW qd) d9]) ∧ NatW w' a8 c8 qn ∧ NatW w' b9 d9 qd ∧ Below W.heap.size W w')))
    (HEN : Hid (∀ a8 c8 b9 d9 W, NatW W a8 c8 qn → NatW W b9 d9 qd → Calls Tryz.prog 28 #[.agg #[.bool qs, .slice a8 (lenW qn) c8, .slice b9 (lenW qd) d9]] W fun e w' => ∃ pb, e = .returned (.tuple #[.slice none 0 0, .iface 211 (.pointer (some ⟨pb, 0, none⟩))]) ∧ IsF w' pb s1 k1 3 ∧ Below W.heap.size W w'))
    (HI : Hid (∀ (pb : Nat) (W : World) (s9 : ByteArray) (k9 : Int), IsF W pb s9 k9 3 → Calls Tryz.prog 39 #[.iface 211 (.pointer (some ⟨pb, 0, none⟩)), .iface 52 (.int .i64 3)] W (fun e w' => e = .returned (.bool true) ∧ Below W.heap.size W w'))) :
    Calls Tryz.prog 11 #[.agg #[.bool sg, .slice a n c, .slice b m d], .int .u16 y] w fun e w' => e = .returned (.bool true) ∧ Below w.heap.size w w' := by
  obtain ⟨W0, hW0⟩ : ∃ W0, W0 = (w.alloc (.cells #[.bool sg, .slice a n c, .slice b m d] 26)) := ⟨_, rfl⟩
  have hbs : BS w [⟨w.heap.size, 26, [.bool sg, .slice a n c, .slice b m d]⟩] [] (w.alloc (.cells #[.bool sg, .slice a n c, .slice b m d] 26)) :=
      ((BS.start w).alloc (p := w.heap.size) rfl 26 [.bool sg, .slice a n c, .slice b m d] rfl)
  rw [← hW0] at hbs
  have HW0 := Lib.hid hW0
  have HN := Lib.hid hbs
  clear hW0 hbs
  go_enter Tryz.func11, Tryz.ntmps11
  go_wp2_with fail
  rw [← HW0.out]
  refine (HAW.out _ HN.out.bel).mono ?_
  rintro e w1 ⟨rfl, hb⟩
  replace HN := Lib.hid (HN.out.call hb)
  clear hb 
  have k00 := HN.out.cell 0 0 rfl rfl
  have f00 := HN.out.free 0 0 rfl
  have k01 := HN.out.cell 0 1 rfl rfl
  have f01 := HN.out.free 0 1 rfl
  have k02 := HN.out.cell 0 2 rfl rfl
  have f02 := HN.out.free 0 2 rfl
  go_wp2_with fail
  clear k00 f00 k01 f01 k02 f02
  refine (HMK.out _ HN.out.bel).mono ?_
  rintro e w2 ⟨a8, c8, b9, d9, rfl, hq0, hq1, hb⟩
  replace HN := Lib.hid (((HN.out.call hb).got hq0).got hq1)
  clear hb hq0 hq1
  have k00 := HN.out.cell 0 0 rfl rfl
  have f00 := HN.out.free 0 0 rfl
  have k01 := HN.out.cell 0 1 rfl rfl
  have f01 := HN.out.free 0 1 rfl
  have k02 := HN.out.cell 0 2 rfl rfl
  have f02 := HN.out.free 0 2 rfl
  go_wp2_with fail
  clear k00 f00 k01 f01 k02 f02
  refine (HEN.out _ _ _ _ _ (HN.out.nat 0 rfl) (HN.out.nat 1 rfl)).mono ?_
  rintro e w3 ⟨pb, rfl, hf, hb⟩
  replace HN := Lib.hid (HN.out.call hb)
  have HF1 := Lib.hid hf
  clear hb hf
  have k00 := HN.out.cell 0 0 rfl rfl
  have f00 := HN.out.free 0 0 rfl
  have k01 := HN.out.cell 0 1 rfl rfl
  have f01 := HN.out.free 0 1 rfl
  have k02 := HN.out.cell 0 2 rfl rfl
  have f02 := HN.out.free 0 2 rfl
  go_wp2_with fail
  clear k00 f00 k01 f01 k02 f02
  refine (HI.out _ _ _ _ HF1.out).mono ?_
  rintro e w4 ⟨rfl, hb⟩
  replace HF1 := Lib.hid (show IsF w4 pb s1 k1 3 from HF1.out.below hb HF1.out.lt)
  replace HN := Lib.hid (HN.out.call hb)
  clear hb 
  have k00 := HN.out.cell 0 0 rfl rfl
  have f00 := HN.out.free 0 0 rfl
  have k01 := HN.out.cell 0 1 rfl rfl
  have f01 := HN.out.free 0 1 rfl
  have k02 := HN.out.cell 0 2 rfl rfl
  have f02 := HN.out.free 0 2 rfl
  have HE := Lib.hid (HN.out)
  go_wp2_with fail
  refine bodyPost_ret (v := .bool true) (by simp [results, Tryz.results11, go_sem, k00, k01, k02]) rfl ?_
  exact ⟨rfl, HE.out.bel⟩
set_option maxRecDepth 100000 in
set_option maxHeartbeats 4000000 in
theorem pshort_zero (sg qs : Bool) (a b : Option Addr) (n c m d qn qd : Nat) (w : World) (y : Int) (z : Nat) (l : List Nat) (hy0 : 0 ≤ y) (hy1 : y ≤ 65535) (hz0 : 0 < z) (hk : y % (z : Int) = 0)
    (HAW : Hid (∀ W, Below w.heap.size w W → Calls Tryz.prog 25 #[] W (fun e w' => e = .returned (.bool true) ∧ Below W.heap.size W w')))
    (HMK : Hid (∀ W, Below w.heap.size w W → Calls Tryz.prog 26 #[.agg #[.bool sg, .slice a n c, .slice b m d]] W (fun e w' => ∃ a8 c8 b9 d9, e = .returned (.agg #[.bool qs, .slice a8 (lenW qn) c8, .slice b9 (lenW qd) d9]) ∧ NatW w' a8 c8 qn ∧ NatW w' b9 d9 qd ∧ Below W.heap.size W w')))
    (HEN : Hid (∀ a8 c8 b9 d9 W, NatW W a8 c8 qn → NatW W b9 d9 qd → Calls Tryz.prog 28 #[.agg #[.bool qs, .slice a8 (lenW qn) c8, .slice b9 (lenW qd) d9]] W fun e w' => ∃ a2 c2, e = .returned (.tuple #[.slice a2 z c2, .nilIface]) ∧ SB w' a2 z c2 l ∧ Below W.heap.size W w'))
    (HDE : Hid (∀ a2 c2 W, SB W a2 z c2 l → Calls Tryz.prog 33 #[.slice a2 0 c2] W fun e w' => e = .returned (.tuple #[.agg #[.bool false, .slice none 0 0, .slice none 0 0], .int .i64 0, .iface 52 (.int .i64 90)]) ∧ Below W.heap.size W w'))
    (HPL : Hid (∀ W, Below w.heap.size w W → Calls Tryz.prog 43 #[.iface 52 (.int .i64 90)] W fun e w' => e = .returned (.tuple #[.string ⟨#[]⟩, .int .i64 0, .bool false]) ∧ Below W.heap.size W w'))
    (HI : Hid (∀ (W : World), Calls Tryz.prog 39 #[.iface 52 (.int .i64 90), .iface 52 (.int .i64 90)] W (fun e w' => e = .returned (.bool true) ∧ Below W.heap.size W w')))
    (HZ : Hid (∀ W, Calls Tryz.prog 44 #[.agg #[.bool false, .slice none 0 0, .slice none 0 0]] W (fun e w' => e = .returned (.bool true) ∧ Below W.heap.size W w'))) :
    Calls Tryz.prog 11 #[.agg #[.bool sg, .slice a n c, .slice b m d], .int .u16 y] w fun e w' => e = .returned (.bool true) ∧ Below w.heap.size w w' := by
  obtain ⟨W0, hW0⟩ : ∃ W0, W0 = (w.alloc (.cells #[.bool sg, .slice a n c, .slice b m d] 26)) := ⟨_, rfl⟩
  have hbs : BS w [⟨w.heap.size, 26, [.bool sg, .slice a n c, .slice b m d]⟩] [] (w.alloc (.cells #[.bool sg, .slice a n c, .slice b m d] 26)) :=
      ((BS.start w).alloc (p := w.heap.size) rfl 26 [.bool sg, .slice a n c, .slice b m d] rfl)
  rw [← hW0] at hbs
  have HW0 := Lib.hid hW0
  have HN := Lib.hid hbs
  clear hW0 hbs
  go_enter Tryz.func11, Tryz.ntmps11
  go_wp2_with fail
  rw [← HW0.out]
  refine (HAW.out _ HN.out.bel).mono ?_
  rintro e w1 ⟨rfl, hb⟩
  replace HN := Lib.hid (HN.out.call hb)
  clear hb 
  have k00 := HN.out.cell 0 0 rfl rfl
  have f00 := HN.out.free 0 0 rfl
  have k01 := HN.out.cell 0 1 rfl rfl
  have f01 := HN.out.free 0 1 rfl
  have k02 := HN.out.cell 0 2 rfl rfl
  have f02 := HN.out.free 0 2 rfl
  go_wp2_with fail
  clear k00 f00 k01 f01 k02 f02
  refine (HMK.out _ HN.out.bel).mono ?_
  rintro e w2 ⟨a8, c8, b9, d9, rfl, hq0, hq1, hb⟩
  replace HN := Lib.hid (((HN.out.call hb).got hq0).got hq1)
  clear hb hq0 hq1
  have k00 := HN.out.cell 0 0 rfl rfl
  have f00 := HN.out.free 0 0 rfl
  have k01 := HN.out.cell 0 1 rfl rfl
  have f01 := HN.out.free 0 1 rfl
  have k02 := HN.out.cell 0 2 rfl rfl
  have f02 := HN.out.free 0 2 rfl
  go_wp2_with fail
  clear k00 f00 k01 f01 k02 f02
  refine (HEN.out _ _ _ _ _ (HN.out.nat 0 rfl) (HN.out.nat 1 rfl)).mono ?_
  rintro e w3 ⟨a2, c2, rfl, hf, hb⟩
  replace HN := Lib.hid (HN.out.call hb)
  have HY := Lib.hid hf
  clear hb hf
  have hz := HY.out.caps
  have k00 := HN.out.cell 0 0 rfl rfl
  have f00 := HN.out.free 0 0 rfl
  have k01 := HN.out.cell 0 1 rfl rfl
  have f01 := HN.out.free 0 1 rfl
  have k02 := HN.out.cell 0 2 rfl rfl
  have f02 := HN.out.free 0 2 rfl
  go_wp2_with fail
  clear k00 f00 k01 f01 k02 f02
  refine (HDE.out _ _ _ HY.out).mono ?_
  rintro e w4 ⟨rfl, hb⟩
  replace HY := Lib.hid (show SB w4 a2 z c2 l from HY.out.below hb HY.out.lt)
  replace HN := Lib.hid (HN.out.call hb)
  clear hb 
  clear HY
  have k00 := HN.out.cell 0 0 rfl rfl
  have f00 := HN.out.free 0 0 rfl
  have k01 := HN.out.cell 0 1 rfl rfl
  have f01 := HN.out.free 0 1 rfl
  have k02 := HN.out.cell 0 2 rfl rfl
  have f02 := HN.out.free 0 2 rfl
  have l0 := HN.out.lt 0 rfl
  have HP := Lib.hid (HN.out.alloc (p := w4.heap.size) rfl 45 [.bool false, .slice none 0 0, .slice none 0 0] rfl)
  have k00p := HP.out.cell 0 0 rfl rfl
  have f00p := HP.out.free 0 0 rfl
  have k01p := HP.out.cell 0 1 rfl rfl
  have f01p := HP.out.free 0 1 rfl
  have k02p := HP.out.cell 0 2 rfl rfl
  have f02p := HP.out.free 0 2 rfl
  have k10p := HP.out.cell 1 0 rfl rfl
  have f10p := HP.out.free 1 0 rfl
  have k11p := HP.out.cell 1 1 rfl rfl
  have f11p := HP.out.free 1 1 rfl
  have k12p := HP.out.cell 1 2 rfl rfl
  have f12p := HP.out.free 1 2 rfl
  go_wp2_with fail
  clear k00 f00 k01 f01 k02 f02 l0 k00p f00p k01p f01p k02p f02p k10p f10p k11p f11p k12p f12p HN
  have HN := HP
  clear HP
  generalize (w4.alloc (.cells #[.bool false, .slice none 0 0, .slice none 0 0] 45)) = wa5 at HN  ⊢
  refine (HPL.out _ HN.out.bel).mono ?_
  rintro e w6 ⟨rfl, hb⟩
  replace HN := Lib.hid (HN.out.call hb)
  clear hb 
  have k00 := HN.out.cell 0 0 rfl rfl
  have f00 := HN.out.free 0 0 rfl
  have k01 := HN.out.cell 0 1 rfl rfl
  have f01 := HN.out.free 0 1 rfl
  have k02 := HN.out.cell 0 2 rfl rfl
  have f02 := HN.out.free 0 2 rfl
  have k10 := HN.out.cell 1 0 rfl rfl
  have f10 := HN.out.free 1 0 rfl
  have k11 := HN.out.cell 1 1 rfl rfl
  have f11 := HN.out.free 1 1 rfl
  have k12 := HN.out.cell 1 2 rfl rfl
  have f12 := HN.out.free 1 2 rfl
  go_wp2_with fail
  clear k00 f00 k01 f01 k02 f02 k10 f10 k11 f11 k12 f12
  refine (HI.out _).mono ?_
  rintro e w7 ⟨rfl, hb⟩
  replace HN := Lib.hid (HN.out.call hb)
  clear hb 
  have k00 := HN.out.cell 0 0 rfl rfl
  have f00 := HN.out.free 0 0 rfl
  have k01 := HN.out.cell 0 1 rfl rfl
  have f01 := HN.out.free 0 1 rfl
  have k02 := HN.out.cell 0 2 rfl rfl
  have f02 := HN.out.free 0 2 rfl
  have k10 := HN.out.cell 1 0 rfl rfl
  have f10 := HN.out.free 1 0 rfl
  have k11 := HN.out.cell 1 1 rfl rfl
  have f11 := HN.out.free 1 1 rfl
  have k12 := HN.out.cell 1 2 rfl rfl
  have f12 := HN.out.free 1 2 rfl
  go_wp2_with fail
  clear k00 f00 k01 f01 k02 f02 k10 f10 k11 f11 k12 f12
  refine (HZ.out _).mono ?_
  rintro e w8 ⟨rfl, hb⟩
  replace HN := Lib.hid (HN.out.call hb)
  clear hb 
  have k00 := HN.out.cell 0 0 rfl rfl
  have f00 := HN.out.free 0 0 rfl
  have k01 := HN.out.cell 0 1 rfl rfl
  have f01 := HN.out.free 0 1 rfl
  have k02 := HN.out.cell 0 2 rfl rfl
  have f02 := HN.out.free 0 2 rfl
  have k10 := HN.out.cell 1 0 rfl rfl
  have f10 := HN.out.free 1 0 rfl
  have k11 := HN.out.cell 1 1 rfl rfl
  have f11 := HN.out.free 1 1 rfl
  have k12 := HN.out.cell 1 2 rfl rfl
  have f12 := HN.out.free 1 2 rfl
  have HE := Lib.hid (HN.out)
  go_wp2_with fail
  refine bodyPost_ret (v := .bool true) (by simp [results, Tryz.results11, go_sem, k00, k01, k02, k10, k11, k12]) rfl ?_
  exact ⟨rfl, HE.out.bel⟩
set_option maxRecDepth 100000 in
set_option maxHeartbeats 4000000 in
theorem pshort_some (sg qs : Bool) (a b : Option Addr) (n c m d qn qd : Nat) (w : World) (y : Int) (z : Nat) (l : List Nat) (hy0 : 0 ≤ y) (hy1 : y ≤ 65535) (hz0 : 0 < z) (k : Nat) (hkz : k < z) (hk : y % (z : Int) = (k : Int)) (hk0 : 0 < k) (s1 : ByteArray) (k1 : Int) (h10 : 0 ≤ k1) (h11 : k1 ≤ k)
    (HAW : Hid (∀ W, Below w.heap.size w W → Calls Tryz.prog 25 #[] W (fun e w' => e = .returned (.bool true) ∧ Below W.heap.size W w')))
    (HMK : Hid (∀ W, Below w.heap.size w W → Calls Tryz.prog 26 #[.agg #[.bool sg, .slice a n c, .slice b m d]] W (fun e w' => ∃ a8 c8 b9 d9, e = .returned (.agg #[.bool qs, .slice a8 (lenW qn) c8, .slice b9 (lenW qd) d9]) ∧ NatW w' a8 c8 qn ∧ NatW w' b9 d9 qd ∧ Below W.heap.size W w')))
    (HEN : Hid (∀ a8 c8 b9 d9 W, NatW W a8 c8 qn → NatW W b9 d9 qd → Calls Tryz.prog 28 #[.agg #[.bool qs, .slice a8 (lenW qn) c8, .slice b9 (lenW qd) d9]] W fun e w' => ∃ a2 c2, e = .returned (.tuple #[.slice a2 z c2, .nilIface]) ∧ SB w' a2 z c2 l ∧ Below W.heap.size W w'))
    (HDE : Hid (∀ a2 c2 W, SB W a2 z c2 l → Calls Tryz.prog 33 #[.slice a2 k c2] W fun e w' => ∃ pb, e = .returned (.tuple #[.agg #[.bool false, .slice none 0 0, .slice none 0 0], .int .i64 0, .iface 211 (.pointer (some ⟨pb, 0, none⟩))]) ∧ IsF w' pb s1 k1 90 ∧ Below W.heap.size W w'))
    (HPL : Hid (∀ pb W, Below w.heap.size w W → IsF W pb s1 k1 90 → Calls Tryz.prog 43 #[.iface 211 (.pointer (some ⟨pb, 0, none⟩))] W fun e w' => e = .returned (.tuple #[.string s1, .int .i64 k1, .bool true]) ∧ Below W.heap.size W w'))
    (HI : Hid (∀ (pb : Nat) (W : World) (s9 : ByteArray) (k9 : Int), IsF W pb s9 k9 90 → Calls Tryz.prog 39 #[.iface 211 (.pointer (some ⟨pb, 0, none⟩)), .iface 52 (.int .i64 90)] W (fun e w' => e = .returned (.bool true) ∧ Below W.heap.size W w')))
    (HZ : Hid (∀ W, Calls Tryz.prog 44 #[.agg #[.bool false, .slice none 0 0, .slice none 0 0]] W (fun e w' => e = .returned (.bool true) ∧ Below W.heap.size W w'))) :
    Calls Tryz.prog 11 #[.agg #[.bool sg, .slice a n c, .slice b m d], .int .u16 y] w fun e w' => e = .returned (.bool true) ∧ Below w.heap.size w w' := by
  obtain ⟨W0, hW0⟩ : ∃ W0, W0 = (w.alloc (.cells #[.bool sg, .slice a n c, .slice b m d] 26)) := ⟨_, rfl⟩
  have hbs : BS w [⟨w.heap.size, 26, [.bool sg, .slice a n c, .slice b m d]⟩] [] (w.alloc (.cells #[.bool sg, .slice a n c, .slice b m d] 26)) :=
      ((BS.start w).alloc (p := w.heap.size) rfl 26 [.bool sg, .slice a n c, .slice b m d] rfl)
  rw [← hW0] at hbs
  have HW0 := Lib.hid hW0
  have HN := Lib.hid hbs
  clear hW0 hbs
  go_enter Tryz.func11, Tryz.ntmps11
  go_wp2_with fail
  rw [← HW0.out]
  refine (HAW.out _ HN.out.bel).mono ?_
  rintro e w1 ⟨rfl, hb⟩
  replace HN := Lib.hid (HN.out.call hb)
  clear hb 
  have k00 := HN.out.cell 0 0 rfl rfl
  have f00 := HN.out.free 0 0 rfl
  have k01 := HN.out.cell 0 1 rfl rfl
  have f01 := HN.out.free 0 1 rfl
  have k02 := HN.out.cell 0 2 rfl rfl
  have f02 := HN.out.free 0 2 rfl
  go_wp2_with fail
  clear k00 f00 k01 f01 k02 f02
  refine (HMK.out _ HN.out.bel).mono ?_
  rintro e w2 ⟨a8, c8, b9, d9, rfl, hq0, hq1, hb⟩
  replace HN := Lib.hid (((HN.out.call hb).got hq0).got hq1)
  clear hb hq0 hq1
  have k00 := HN.out.cell 0 0 rfl rfl
  have f00 := HN.out.free 0 0 rfl
  have k01 := HN.out.cell 0 1 rfl rfl
  have f01 := HN.out.free 0 1 rfl
  have k02 := HN.out.cell 0 2 rfl rfl
  have f02 := HN.out.free 0 2 rfl
  go_wp2_with fail
  clear k00 f00 k01 f01 k02 f02
  refine (HEN.out _ _ _ _ _ (HN.out.nat 0 rfl) (HN.out.nat 1 rfl)).mono ?_
  rintro e w3 ⟨a2, c2, rfl, hf, hb⟩
  replace HN := Lib.hid (HN.out.call hb)
  have HY := Lib.hid hf
  clear hb hf
  have hz := HY.out.caps
  have k00 := HN.out.cell 0 0 rfl rfl
  have f00 := HN.out.free 0 0 rfl
  have k01 := HN.out.cell 0 1 rfl rfl
  have f01 := HN.out.free 0 1 rfl
  have k02 := HN.out.cell 0 2 rfl rfl
  have f02 := HN.out.free 0 2 rfl
  go_wp2_with fail
  clear k00 f00 k01 f01 k02 f02
  refine (HDE.out _ _ _ HY.out).mono ?_
  rintro e w4 ⟨pb, rfl, hf, hb⟩
  replace HY := Lib.hid (show SB w4 a2 z c2 l from HY.out.below hb HY.out.lt)
  replace HN := Lib.hid (HN.out.call hb)
  have HF1 := Lib.hid hf
  clear hb hf
  clear HY
  have k00 := HN.out.cell 0 0 rfl rfl
  have f00 := HN.out.free 0 0 rfl
  have k01 := HN.out.cell 0 1 rfl rfl
  have f01 := HN.out.free 0 1 rfl
  have k02 := HN.out.cell 0 2 rfl rfl
  have f02 := HN.out.free 0 2 rfl
  have l0 := HN.out.lt 0 rfl
  have HP := Lib.hid (HN.out.alloc (p := w4.heap.size) rfl 45 [.bool false, .slice none 0 0, .slice none 0 0] rfl)
  have k00p := HP.out.cell 0 0 rfl rfl
  have f00p := HP.out.free 0 0 rfl
  have k01p := HP.out.cell 0 1 rfl rfl
  have f01p := HP.out.free 0 1 rfl
  have k02p := HP.out.cell 0 2 rfl rfl
  have f02p := HP.out.free 0 2 rfl
  have k10p := HP.out.cell 1 0 rfl rfl
  have f10p := HP.out.free 1 0 rfl
  have k11p := HP.out.cell 1 1 rfl rfl
  have f11p := HP.out.free 1 1 rfl
  have k12p := HP.out.cell 1 2 rfl rfl
  have f12p := HP.out.free 1 2 rfl
  go_wp2_with fail
  clear k00 f00 k01 f01 k02 f02 l0 k00p f00p k01p f01p k02p f02p k10p f10p k11p f11p k12p f12p HN
  have HN := HP
  clear HP
  replace HF1 := Lib.hid (show IsF (w4.alloc (.cells #[.bool false, .slice none 0 0, .slice none 0 0] 45)) pb s1 k1 90 from HF1.out.below (belowBox _ _) HF1.out.lt)
  generalize (w4.alloc (.cells #[.bool false, .slice none 0 0, .slice none 0 0] 45)) = wa5 at HN HF1 ⊢
  refine (HPL.out _ _ HN.out.bel (HF1.out)).mono ?_
  rintro e w6 ⟨rfl, hb⟩
  replace HF1 := Lib.hid (show IsF w6 pb s1 k1 90 from HF1.out.below hb HF1.out.lt)
  replace HN := Lib.hid (HN.out.call hb)
  clear hb 
  have k00 := HN.out.cell 0 0 rfl rfl
  have f00 := HN.out.free 0 0 rfl
  have k01 := HN.out.cell 0 1 rfl rfl
  have f01 := HN.out.free 0 1 rfl
  have k02 := HN.out.cell 0 2 rfl rfl
  have f02 := HN.out.free 0 2 rfl
  have k10 := HN.out.cell 1 0 rfl rfl
  have f10 := HN.out.free 1 0 rfl
  have k11 := HN.out.cell 1 1 rfl rfl
  have f11 := HN.out.free 1 1 rfl
  have k12 := HN.out.cell 1 2 rfl rfl
  have f12 := HN.out.free 1 2 rfl
  go_wp2_with fail
  clear k00 f00 k01 f01 k02 f02 k10 f10 k11 f11 k12 f12
  refine (HI.out _ _ _ _ HF1.out).mono ?_
  rintro e w7 ⟨rfl, hb⟩
  replace HF1 := Lib.hid (show IsF w7 pb s1 k1 90 from HF1.out.below hb HF1.out.lt)
  replace HN := Lib.hid (HN.out.call hb)
  clear hb 
  have k00 := HN.out.cell 0 0 rfl rfl
  have f00 := HN.out.free 0 0 rfl
  have k01 := HN.out.cell 0 1 rfl rfl
  have f01 := HN.out.free 0 1 rfl
  have k02 := HN.out.cell 0 2 rfl rfl
  have f02 := HN.out.free 0 2 rfl
  have k10 := HN.out.cell 1 0 rfl rfl
  have f10 := HN.out.free 1 0 rfl
  have k11 := HN.out.cell 1 1 rfl rfl
  have f11 := HN.out.free 1 1 rfl
  have k12 := HN.out.cell 1 2 rfl rfl
  have f12 := HN.out.free 1 2 rfl
  go_wp2_with fail
  clear k00 f00 k01 f01 k02 f02 k10 f10 k11 f11 k12 f12
  refine (HZ.out _).mono ?_
  rintro e w8 ⟨rfl, hb⟩
  replace HF1 := Lib.hid (show IsF w8 pb s1 k1 90 from HF1.out.below hb HF1.out.lt)
  replace HN := Lib.hid (HN.out.call hb)
  clear hb 
  have k00 := HN.out.cell 0 0 rfl rfl
  have f00 := HN.out.free 0 0 rfl
  have k01 := HN.out.cell 0 1 rfl rfl
  have f01 := HN.out.free 0 1 rfl
  have k02 := HN.out.cell 0 2 rfl rfl
  have f02 := HN.out.free 0 2 rfl
  have k10 := HN.out.cell 1 0 rfl rfl
  have f10 := HN.out.free 1 0 rfl
  have k11 := HN.out.cell 1 1 rfl rfl
  have f11 := HN.out.free 1 1 rfl
  have k12 := HN.out.cell 1 2 rfl rfl
  have f12 := HN.out.free 1 2 rfl
  have HE := Lib.hid (HN.out)
  go_wp2_with fail
  refine bodyPost_ret (v := .bool true) (by simp [results, Tryz.results11, go_sem, k00, k01, k02, k10, k11, k12]) rfl ?_
  exact ⟨rfl, HE.out.bel⟩
end Go.Proofs.YtmhainidincjhaaGreatDoor
