/-
 What the laws stand on, part L: contracts and plain laws of LAwake, LAwake2, LPart, LShort, LOne; the conditions are each law's own.
-/
import Derived.Test.YtmhainidincjhaaGreatDoorVX
import Derived.Test.YtmhainidincjhaaGreatDoorVV
import Derived.Test.YtmhainidincjhaaGreatDoorVY
import Derived.Test.YtmhainidincjhaaGreatDoorVR
import Derived.Test.YtmhainidincjhaaGreatDoorVM
import Derived.Lib.SlicesS
import Derived.IntWalk
import Derived.Test.YtmhainidincjhaaGreatDoorVA
set_option linter.unusedVariables false
set_option linter.unusedSimpArgs false
set_option maxRecDepth 100000
set_option maxHeartbeats 16000000
namespace Go.Proofs.YtmhainidincjhaaGreatDoor
open Go.RowKit Go.Extern.Stop Go.Stop Go.Extern
def SB (w : World) (a : Option Addr) (n c : Nat) (l : List Nat) : Prop := BytesN w (.slice a n c) l
theorem SB.lt {w : World} {a : Option Addr} {n c : Nat} {l : List Nat} (_ : SB w a n c l) : True := trivial
theorem SB.below {w w' : World} {a : Option Addr} {n c : Nat} {l : List Nat} (h : SB w a n c l) (hb : Below w.heap.size w w') (_ : True) : SB w' a n c l := BytesN.below h hb
theorem awake_walk (qs : Bool) (qn qd : Nat) (w : World) (HG : Hid (Hg w))
  (HOF : Hid (∀ W, Calls Tryz.prog 55 #[.int .i64 (-3), .int .i64 2] W fun e w' => ∃ a8 c8 b9 d9, e = .returned (.tuple #[.agg #[.bool qs, .slice a8 (lenW qn) c8, .slice b9 (lenW qd) d9], .bool true]) ∧ NatW w' a8 c8 qn ∧ NatW w' b9 d9 qd ∧ Below W.heap.size W w'))
  (HEN : Hid (∀ a8 c8 b9 d9 W, NatW W a8 c8 qn → NatW W b9 d9 qd → Calls Tryz.prog 28 #[.agg #[.bool qs, .slice a8 (lenW qn) c8, .slice b9 (lenW qd) d9]] W fun e w' => ∃ a2 c2, e = .returned (.tuple #[.slice a2 5 c2, .nilIface]) ∧ SB w' a2 5 c2 [4, 1, 2, 1, 3] ∧ Below W.heap.size W w'))
  (HD1 : Hid (∀ (p : Nat) (W : World), W.heap[p]? = some (.cells #[.int .u8 4, .int .u8 1, .int .u8 2, .int .u8 1, .int .u8 3, .int .u8 9] 5 (0, 0)) → Calls Tryz.prog 33 #[.slice (some ⟨p, 0, none⟩) 6 6] W fun e w' => ∃ a8 c8 b9 d9, e = .returned (.tuple #[.agg #[.bool qs, .slice a8 (lenW qn) c8, .slice b9 (lenW qd) d9], .int .i64 5, .nilIface]) ∧ NatW w' a8 c8 qn ∧ NatW w' b9 d9 qd ∧ Below W.heap.size W w'))
  (HD2 : Hid (∀ (p : Nat) (W : World), W.heap[p]? = some (.cells #[.int .u8 3, .int .u8 1, .int .u8 2, .int .u8 1, .int .u8 4] 5 (0, 0)) → Calls Tryz.prog 33 #[.slice (some ⟨p, 0, none⟩) 5 5] W fun e w' => e = .returned (.tuple #[.agg #[.bool false, .slice none 0 0, .slice none 0 0], .int .i64 0, .iface 52 (.int .i64 91)]) ∧ Below W.heap.size W w'))
  (HD3 : Hid (∀ (p : Nat) (W : World), W.heap[p]? = some (.cells #[.int .u8 3, .int .u8 1, .int .u8 2, .int .u8 2, .int .u8 1] 5 (0, 0)) → Calls Tryz.prog 33 #[.slice (some ⟨p, 0, none⟩) 5 5] W fun e w' => ∃ pb, e = .returned (.tuple #[.agg #[.bool false, .slice none 0 0, .slice none 0 0], .int .i64 0, .iface 211 (.pointer (some ⟨pb, 0, none⟩))]) ∧ IsF w' pb ⟨#[110, 117, 109, 98, 101, 114]⟩ 3 90 ∧ Below W.heap.size W w'))
  (HRD : Hid (∀ W, Calls Tryz.prog 35 #[.string ⟨#[49, 47, 120]⟩] W fun e w' => ∃ pb, e = .returned (.tuple #[.agg #[.bool false, .slice none 0 0, .slice none 0 0], .iface 211 (.pointer (some ⟨pb, 0, none⟩))]) ∧ IsF w' pb ⟨#[100, 105, 118, 105, 115, 111, 114]⟩ 2 91 ∧ Below W.heap.size W w'))
  (HCV : Hid (∀ a c W, SB W a 5 c [4, 1, 2, 1, 3] → (convert 32 9 (.slice a 5 c)).run Tryz.prog W = .ok (.string ⟨#[4, 1, 2, 1, 3]⟩) W))
  (HSM : Hid (∀ a6 c6 b7 d7 a8 c8 b9 d9 W, NatW W a6 c6 qn → NatW W b7 d7 qd → NatW W a8 c8 qn → NatW W b9 d9 qd → Calls Tryz.prog 34 #[.agg #[.bool qs, .slice a6 (lenW qn) c6, .slice b7 (lenW qd) d7], .agg #[.bool qs, .slice a8 (lenW qn) c8, .slice b9 (lenW qd) d9]] W fun e w' => e = .returned (.bool true) ∧ Below W.heap.size W w'))
  (HT1 : Hid (∀ W, Hg W → Calls Tryz.prog 22 #[.iface 52 (.int .i64 91), .int .i64 91, .string ⟨#[]⟩, .int .i64 0] W fun e w' => e = .returned (.bool true) ∧ Below W.heap.size W w'))
  (HT2 : Hid (∀ pb W, Hg W → IsF W pb ⟨#[110, 117, 109, 98, 101, 114]⟩ 3 90 → Calls Tryz.prog 22 #[.iface 211 (.pointer (some ⟨pb, 0, none⟩)), .int .i64 90, .string ⟨#[110, 117, 109, 98, 101, 114]⟩, .int .i64 3] W fun e w' => e = .returned (.bool true) ∧ Below W.heap.size W w'))
  (HTX : Hid (∀ a8 c8 b9 d9 W, NatW W a8 c8 qn → NatW W b9 d9 qd → Calls Tryz.prog 31 #[.agg #[.bool qs, .slice a8 (lenW qn) c8, .slice b9 (lenW qd) d9]] W fun e w' => e = .returned (.string ⟨#[45, 51, 47, 50]⟩) ∧ Below W.heap.size W w'))
  (HT3 : Hid (∀ pb W, Hg W → IsF W pb ⟨#[100, 105, 118, 105, 115, 111, 114]⟩ 2 91 → Calls Tryz.prog 22 #[.iface 211 (.pointer (some ⟨pb, 0, none⟩)), .int .i64 91, .string ⟨#[100, 105, 118, 105, 115, 111, 114]⟩, .int .i64 2] W fun e w' => e = .returned (.bool true) ∧ Below W.heap.size W w')) :
  Calls Tryz.prog 25 #[] w fun e w' => e = .returned (.bool true) ∧ Below w.heap.size w w' := by
 have HN := Lib.hid (BS.start w)
 go_enter Tryz.func25, Tryz.ntmps25
 go_wp2_with fail
 refine (HOF.out _).mono ?_
 rintro e w1 ⟨a8, c8, b9, d9, rfl, hq0, hq1, hb⟩
 replace HG := Lib.hid (show Hg w1 from HG.out.below hb HG.out.lt)
 replace HN := Lib.hid (((HN.out.call hb).got hq0).got hq1)
 clear hb hq0 hq1
 have HP := Lib.hid (HN.out.alloc (p := w1.heap.size) rfl 45 [.bool qs, .slice a8 (lenW qn) c8, .slice b9 (lenW qd) d9] rfl)
 have ⟨k00p, f00p, k01p, f01p, k02p, f02p⟩ := HP.out.cf3 0 rfl
 go_wp2_with fail
 clear k00p f00p k01p f01p k02p f02p HN
 have HN := HP
 clear HP
 replace HG := Lib.hid (show Hg (w1.alloc (.cells #[.bool qs, .slice a8 (lenW qn) c8, .slice b9 (lenW qd) d9] 45)) from HG.out.below (belowBox _ _) HG.out.lt)
 generalize (w1.alloc (.cells #[.bool qs, .slice a8 (lenW qn) c8, .slice b9 (lenW qd) d9] 45)) = wa2 at HN HG ⊢
 refine (HEN.out _ _ _ _ _ (HN.out.nat 0 rfl) (HN.out.nat 1 rfl)).mono ?_
 rintro e w3 ⟨a2, c2, rfl, hf, hb⟩
 replace HG := Lib.hid (show Hg w3 from HG.out.below hb HG.out.lt)
 replace HN := Lib.hid (HN.out.call hb)
 have HEY := Lib.hid hf
 clear hb hf
 have ⟨k00, f00, k01, f01, k02, f02⟩ := HN.out.cf3 0 rfl
 have l0 := HN.out.lt 0 rfl
 have HP := Lib.hid (HN.out.alloc (p := w3.heap.size) rfl 5 [.int .u8 4, .int .u8 1, .int .u8 2, .int .u8 1, .int .u8 3, .int .u8 9] rfl)
 have ⟨k00p, f00p, k01p, f01p, k02p, f02p⟩ := HP.out.cf3 0 rfl
 have ⟨k10p, f10p, k11p, f11p, k12p, f12p, k13p, f13p⟩ := HP.out.cf4 1 rfl
 have k14p := HP.out.cell 1 4 rfl rfl
 have f14p := HP.out.free 1 4 rfl
 have k15p := HP.out.cell 1 5 rfl rfl
 have f15p := HP.out.free 1 5 rfl
 go_wp2_with fail
 clear k00 f00 k01 f01 k02 f02 l0 k00p f00p k01p f01p k02p f02p k10p f10p k11p f11p k12p f12p k13p f13p k14p f14p k15p f15p HN
 have HN := HP
 clear HP
 replace HG := Lib.hid (show Hg (w3.alloc (.cells #[.int .u8 4, .int .u8 1, .int .u8 2, .int .u8 1, .int .u8 3, .int .u8 9] 5)) from HG.out.below (belowBox _ _) HG.out.lt)
 replace HEY := Lib.hid (show SB (w3.alloc (.cells #[.int .u8 4, .int .u8 1, .int .u8 2, .int .u8 1, .int .u8 3, .int .u8 9] 5)) a2 5 c2 [4, 1, 2, 1, 3] from HEY.out.below (belowBox _ _) HEY.out.lt)
 generalize (w3.alloc (.cells #[.int .u8 4, .int .u8 1, .int .u8 2, .int .u8 1, .int .u8 3, .int .u8 9] 5)) = wa4 at HN HG HEY ⊢
 refine (HD1.out _ _ (HN.out.at 1 rfl)).mono ?_
 rintro e w5 ⟨a6, c6, b7, d7, rfl, hq0, hq1, hb⟩
 replace HG := Lib.hid (show Hg w5 from HG.out.below hb HG.out.lt)
 replace HEY := Lib.hid (show SB w5 a2 5 c2 [4, 1, 2, 1, 3] from HEY.out.below hb HEY.out.lt)
 replace HN := Lib.hid (((HN.out.call hb).got hq0).got hq1)
 clear hb hq0 hq1
 have ⟨k00, f00, k01, f01, k02, f02⟩ := HN.out.cf3 0 rfl
 have l0 := HN.out.lt 0 rfl
 have ⟨k10, f10, k11, f11, k12, f12, k13, f13⟩ := HN.out.cf4 1 rfl
 have k14 := HN.out.cell 1 4 rfl rfl
 have f14 := HN.out.free 1 4 rfl
 have k15 := HN.out.cell 1 5 rfl rfl
 have f15 := HN.out.free 1 5 rfl
 have l1 := HN.out.lt 1 rfl
 have HP := Lib.hid ((HN.out.alloc (p := w5.heap.size) rfl 45 [.bool qs, .slice a6 (lenW qn) c6, .slice b7 (lenW qd) d7] rfl).alloc (p := w5.heap.size + 1) (by simp) 5 [.int .u8 3, .int .u8 1, .int .u8 2, .int .u8 1, .int .u8 4] rfl)
 have ⟨k00p, f00p, k01p, f01p, k02p, f02p⟩ := HP.out.cf3 0 rfl
 have ⟨k10p, f10p, k11p, f11p, k12p, f12p, k13p, f13p⟩ := HP.out.cf4 1 rfl
 have k14p := HP.out.cell 1 4 rfl rfl
 have f14p := HP.out.free 1 4 rfl
 have k15p := HP.out.cell 1 5 rfl rfl
 have f15p := HP.out.free 1 5 rfl
 have ⟨k20p, f20p, k21p, f21p, k22p, f22p⟩ := HP.out.cf3 2 rfl
 have ⟨k30p, f30p, k31p, f31p, k32p, f32p, k33p, f33p⟩ := HP.out.cf4 3 rfl
 have k34p := HP.out.cell 3 4 rfl rfl
 have f34p := HP.out.free 3 4 rfl
 go_wp2_with fail
 clear k00 f00 k01 f01 k02 f02 l0 k10 f10 k11 f11 k12 f12 k13 f13 k14 f14 k15 f15 l1 k00p f00p k01p f01p k02p f02p k10p f10p k11p f11p k12p f12p k13p f13p k14p f14p k15p f15p k20p f20p k21p f21p k22p f22p k30p f30p k31p f31p k32p f32p k33p f33p k34p f34p HN
 have HN := HP
 clear HP
 replace HG := Lib.hid (show Hg (w5.alloc (.cells #[.bool qs, .slice a6 (lenW qn) c6, .slice b7 (lenW qd) d7] 45)) from HG.out.below (belowBox _ _) HG.out.lt)
 replace HG := Lib.hid (show Hg ((w5.alloc (.cells #[.bool qs, .slice a6 (lenW qn) c6, .slice b7 (lenW qd) d7] 45)).alloc (.cells #[.int .u8 3, .int .u8 1, .int .u8 2, .int .u8 1, .int .u8 4] 5)) from HG.out.below (belowBox _ _) HG.out.lt)
 replace HEY := Lib.hid (show SB (w5.alloc (.cells #[.bool qs, .slice a6 (lenW qn) c6, .slice b7 (lenW qd) d7] 45)) a2 5 c2 [4, 1, 2, 1, 3] from HEY.out.below (belowBox _ _) HEY.out.lt)
 replace HEY := Lib.hid (show SB ((w5.alloc (.cells #[.bool qs, .slice a6 (lenW qn) c6, .slice b7 (lenW qd) d7] 45)).alloc (.cells #[.int .u8 3, .int .u8 1, .int .u8 2, .int .u8 1, .int .u8 4] 5)) a2 5 c2 [4, 1, 2, 1, 3] from HEY.out.below (belowBox _ _) HEY.out.lt)
 generalize ((w5.alloc (.cells #[.bool qs, .slice a6 (lenW qn) c6, .slice b7 (lenW qd) d7] 45)).alloc (.cells #[.int .u8 3, .int .u8 1, .int .u8 2, .int .u8 1, .int .u8 4] 5)) = wa6 at HN HG HEY ⊢
 refine (HD2.out _ _ (HN.out.at 3 rfl)).mono ?_
 rintro e w7 ⟨rfl, hb⟩
 replace HG := Lib.hid (show Hg w7 from HG.out.below hb HG.out.lt)
 replace HEY := Lib.hid (show SB w7 a2 5 c2 [4, 1, 2, 1, 3] from HEY.out.below hb HEY.out.lt)
 replace HN := Lib.hid (HN.out.call hb)
 clear hb 
 have ⟨k00, f00, k01, f01, k02, f02⟩ := HN.out.cf3 0 rfl
 have l0 := HN.out.lt 0 rfl
 have ⟨k10, f10, k11, f11, k12, f12, k13, f13⟩ := HN.out.cf4 1 rfl
 have k14 := HN.out.cell 1 4 rfl rfl
 have f14 := HN.out.free 1 4 rfl
 have k15 := HN.out.cell 1 5 rfl rfl
 have f15 := HN.out.free 1 5 rfl
 have l1 := HN.out.lt 1 rfl
 have ⟨k20, f20, k21, f21, k22, f22⟩ := HN.out.cf3 2 rfl
 have l2 := HN.out.lt 2 rfl
 have ⟨k30, f30, k31, f31, k32, f32, k33, f33⟩ := HN.out.cf4 3 rfl
 have k34 := HN.out.cell 3 4 rfl rfl
 have f34 := HN.out.free 3 4 rfl
 have l3 := HN.out.lt 3 rfl
 have HP := Lib.hid ((HN.out.alloc (p := w7.heap.size) rfl 45 [.bool false, .slice none 0 0, .slice none 0 0] rfl).alloc (p := w7.heap.size + 1) (by simp) 5 [.int .u8 3, .int .u8 1, .int .u8 2, .int .u8 2, .int .u8 1] rfl)
 have ⟨k00p, f00p, k01p, f01p, k02p, f02p⟩ := HP.out.cf3 0 rfl
 have ⟨k10p, f10p, k11p, f11p, k12p, f12p, k13p, f13p⟩ := HP.out.cf4 1 rfl
 have k14p := HP.out.cell 1 4 rfl rfl
 have f14p := HP.out.free 1 4 rfl
 have k15p := HP.out.cell 1 5 rfl rfl
 have f15p := HP.out.free 1 5 rfl
 have ⟨k20p, f20p, k21p, f21p, k22p, f22p⟩ := HP.out.cf3 2 rfl
 have ⟨k30p, f30p, k31p, f31p, k32p, f32p, k33p, f33p⟩ := HP.out.cf4 3 rfl
 have k34p := HP.out.cell 3 4 rfl rfl
 have f34p := HP.out.free 3 4 rfl
 have ⟨k40p, f40p, k41p, f41p, k42p, f42p⟩ := HP.out.cf3 4 rfl
 have ⟨k50p, f50p, k51p, f51p, k52p, f52p, k53p, f53p⟩ := HP.out.cf4 5 rfl
 have k54p := HP.out.cell 5 4 rfl rfl
 have f54p := HP.out.free 5 4 rfl
 go_wp2_with fail
 clear k00 f00 k01 f01 k02 f02 l0 k10 f10 k11 f11 k12 f12 k13 f13 k14 f14 k15 f15 l1 k20 f20 k21 f21 k22 f22 l2 k30 f30 k31 f31 k32 f32 k33 f33 k34 f34 l3 k00p f00p k01p f01p k02p f02p k10p f10p k11p f11p k12p f12p k13p f13p k14p f14p k15p f15p k20p f20p k21p f21p k22p f22p k30p f30p k31p f31p k32p f32p k33p f33p k34p f34p k40p f40p k41p f41p k42p f42p k50p f50p k51p f51p k52p f52p k53p f53p k54p f54p HN
 have HN := HP
 clear HP
 replace HG := Lib.hid (show Hg (w7.alloc (.cells #[.bool false, .slice none 0 0, .slice none 0 0] 45)) from HG.out.below (belowBox _ _) HG.out.lt)
 replace HG := Lib.hid (show Hg ((w7.alloc (.cells #[.bool false, .slice none 0 0, .slice none 0 0] 45)).alloc (.cells #[.int .u8 3, .int .u8 1, .int .u8 2, .int .u8 2, .int .u8 1] 5)) from HG.out.below (belowBox _ _) HG.out.lt)
 replace HEY := Lib.hid (show SB (w7.alloc (.cells #[.bool false, .slice none 0 0, .slice none 0 0] 45)) a2 5 c2 [4, 1, 2, 1, 3] from HEY.out.below (belowBox _ _) HEY.out.lt)
 replace HEY := Lib.hid (show SB ((w7.alloc (.cells #[.bool false, .slice none 0 0, .slice none 0 0] 45)).alloc (.cells #[.int .u8 3, .int .u8 1, .int .u8 2, .int .u8 2, .int .u8 1] 5)) a2 5 c2 [4, 1, 2, 1, 3] from HEY.out.below (belowBox _ _) HEY.out.lt)
 generalize ((w7.alloc (.cells #[.bool false, .slice none 0 0, .slice none 0 0] 45)).alloc (.cells #[.int .u8 3, .int .u8 1, .int .u8 2, .int .u8 2, .int .u8 1] 5)) = wa8 at HN HG HEY ⊢
 refine (HD3.out _ _ (HN.out.at 5 rfl)).mono ?_
 rintro e w9 ⟨pb3, rfl, hf, hb⟩
 replace HG := Lib.hid (show Hg w9 from HG.out.below hb HG.out.lt)
 replace HEY := Lib.hid (show SB w9 a2 5 c2 [4, 1, 2, 1, 3] from HEY.out.below hb HEY.out.lt)
 replace HN := Lib.hid (HN.out.call hb)
 have HF3 := Lib.hid hf
 clear hb hf
 have ⟨k00, f00, k01, f01, k02, f02⟩ := HN.out.cf3 0 rfl
 have l0 := HN.out.lt 0 rfl
 have ⟨k10, f10, k11, f11, k12, f12, k13, f13⟩ := HN.out.cf4 1 rfl
 have k14 := HN.out.cell 1 4 rfl rfl
 have f14 := HN.out.free 1 4 rfl
 have k15 := HN.out.cell 1 5 rfl rfl
 have f15 := HN.out.free 1 5 rfl
 have l1 := HN.out.lt 1 rfl
 have ⟨k20, f20, k21, f21, k22, f22⟩ := HN.out.cf3 2 rfl
 have l2 := HN.out.lt 2 rfl
 have ⟨k30, f30, k31, f31, k32, f32, k33, f33⟩ := HN.out.cf4 3 rfl
 have k34 := HN.out.cell 3 4 rfl rfl
 have f34 := HN.out.free 3 4 rfl
 have l3 := HN.out.lt 3 rfl
 have ⟨k40, f40, k41, f41, k42, f42⟩ := HN.out.cf3 4 rfl
 have l4 := HN.out.lt 4 rfl
 have ⟨k50, f50, k51, f51, k52, f52, k53, f53⟩ := HN.out.cf4 5 rfl
 have k54 := HN.out.cell 5 4 rfl rfl
 have f54 := HN.out.free 5 4 rfl
 have l5 := HN.out.lt 5 rfl
 have HP := Lib.hid (HN.out.alloc (p := w9.heap.size) rfl 45 [.bool false, .slice none 0 0, .slice none 0 0] rfl)
 have ⟨k00p, f00p, k01p, f01p, k02p, f02p⟩ := HP.out.cf3 0 rfl
 have ⟨k10p, f10p, k11p, f11p, k12p, f12p, k13p, f13p⟩ := HP.out.cf4 1 rfl
 have k14p := HP.out.cell 1 4 rfl rfl
 have f14p := HP.out.free 1 4 rfl
 have k15p := HP.out.cell 1 5 rfl rfl
 have f15p := HP.out.free 1 5 rfl
 have ⟨k20p, f20p, k21p, f21p, k22p, f22p⟩ := HP.out.cf3 2 rfl
 have ⟨k30p, f30p, k31p, f31p, k32p, f32p, k33p, f33p⟩ := HP.out.cf4 3 rfl
 have k34p := HP.out.cell 3 4 rfl rfl
 have f34p := HP.out.free 3 4 rfl
 have ⟨k40p, f40p, k41p, f41p, k42p, f42p⟩ := HP.out.cf3 4 rfl
 have ⟨k50p, f50p, k51p, f51p, k52p, f52p, k53p, f53p⟩ := HP.out.cf4 5 rfl
 have k54p := HP.out.cell 5 4 rfl rfl
 have f54p := HP.out.free 5 4 rfl
 have ⟨k60p, f60p, k61p, f61p, k62p, f62p⟩ := HP.out.cf3 6 rfl
 go_wp2_with fail
 clear k00 f00 k01 f01 k02 f02 l0 k10 f10 k11 f11 k12 f12 k13 f13 k14 f14 k15 f15 l1 k20 f20 k21 f21 k22 f22 l2 k30 f30 k31 f31 k32 f32 k33 f33 k34 f34 l3 k40 f40 k41 f41 k42 f42 l4 k50 f50 k51 f51 k52 f52 k53 f53 k54 f54 l5 k00p f00p k01p f01p k02p f02p k10p f10p k11p f11p k12p f12p k13p f13p k14p f14p k15p f15p k20p f20p k21p f21p k22p f22p k30p f30p k31p f31p k32p f32p k33p f33p k34p f34p k40p f40p k41p f41p k42p f42p k50p f50p k51p f51p k52p f52p k53p f53p k54p f54p k60p f60p k61p f61p k62p f62p HN
 have HN := HP
 clear HP
 replace HG := Lib.hid (show Hg (w9.alloc (.cells #[.bool false, .slice none 0 0, .slice none 0 0] 45)) from HG.out.below (belowBox _ _) HG.out.lt)
 replace HEY := Lib.hid (show SB (w9.alloc (.cells #[.bool false, .slice none 0 0, .slice none 0 0] 45)) a2 5 c2 [4, 1, 2, 1, 3] from HEY.out.below (belowBox _ _) HEY.out.lt)
 replace HF3 := Lib.hid (show IsF (w9.alloc (.cells #[.bool false, .slice none 0 0, .slice none 0 0] 45)) pb3 ⟨#[110, 117, 109, 98, 101, 114]⟩ 3 90 from HF3.out.below (belowBox _ _) HF3.out.lt)
 generalize (w9.alloc (.cells #[.bool false, .slice none 0 0, .slice none 0 0] 45)) = wa10 at HN HG HEY HF3 ⊢
 refine (HRD.out _).mono ?_
 rintro e w11 ⟨pb4, rfl, hf, hb⟩
 replace HG := Lib.hid (show Hg w11 from HG.out.below hb HG.out.lt)
 replace HEY := Lib.hid (show SB w11 a2 5 c2 [4, 1, 2, 1, 3] from HEY.out.below hb HEY.out.lt)
 replace HF3 := Lib.hid (show IsF w11 pb3 ⟨#[110, 117, 109, 98, 101, 114]⟩ 3 90 from HF3.out.below hb HF3.out.lt)
 replace HN := Lib.hid (HN.out.call hb)
 have HF4 := Lib.hid hf
 clear hb hf
 have hcv := HCV.out a2 c2 _ (show SB (w11.alloc (.cells #[.bool false, .slice none 0 0, .slice none 0 0] 45)) a2 5 c2 [4, 1, 2, 1, 3] from HEY.out.below (belowBox _ _) HEY.out.lt)
 have ⟨k00, f00, k01, f01, k02, f02⟩ := HN.out.cf3 0 rfl
 have l0 := HN.out.lt 0 rfl
 have ⟨k10, f10, k11, f11, k12, f12, k13, f13⟩ := HN.out.cf4 1 rfl
 have k14 := HN.out.cell 1 4 rfl rfl
 have f14 := HN.out.free 1 4 rfl
 have k15 := HN.out.cell 1 5 rfl rfl
 have f15 := HN.out.free 1 5 rfl
 have l1 := HN.out.lt 1 rfl
 have ⟨k20, f20, k21, f21, k22, f22⟩ := HN.out.cf3 2 rfl
 have l2 := HN.out.lt 2 rfl
 have ⟨k30, f30, k31, f31, k32, f32, k33, f33⟩ := HN.out.cf4 3 rfl
 have k34 := HN.out.cell 3 4 rfl rfl
 have f34 := HN.out.free 3 4 rfl
 have l3 := HN.out.lt 3 rfl
 have ⟨k40, f40, k41, f41, k42, f42⟩ := HN.out.cf3 4 rfl
 have l4 := HN.out.lt 4 rfl
 have ⟨k50, f50, k51, f51, k52, f52, k53, f53⟩ := HN.out.cf4 5 rfl
 have k54 := HN.out.cell 5 4 rfl rfl
 have f54 := HN.out.free 5 4 rfl
 have l5 := HN.out.lt 5 rfl
 have ⟨k60, f60, k61, f61, k62, f62⟩ := HN.out.cf3 6 rfl
 have l6 := HN.out.lt 6 rfl
 have HP := Lib.hid (HN.out.alloc (p := w11.heap.size) rfl 45 [.bool false, .slice none 0 0, .slice none 0 0] rfl)
 have ⟨k00p, f00p, k01p, f01p, k02p, f02p⟩ := HP.out.cf3 0 rfl
 have ⟨k10p, f10p, k11p, f11p, k12p, f12p, k13p, f13p⟩ := HP.out.cf4 1 rfl
 have k14p := HP.out.cell 1 4 rfl rfl
 have f14p := HP.out.free 1 4 rfl
 have k15p := HP.out.cell 1 5 rfl rfl
 have f15p := HP.out.free 1 5 rfl
 have ⟨k20p, f20p, k21p, f21p, k22p, f22p⟩ := HP.out.cf3 2 rfl
 have ⟨k30p, f30p, k31p, f31p, k32p, f32p, k33p, f33p⟩ := HP.out.cf4 3 rfl
 have k34p := HP.out.cell 3 4 rfl rfl
 have f34p := HP.out.free 3 4 rfl
 have ⟨k40p, f40p, k41p, f41p, k42p, f42p⟩ := HP.out.cf3 4 rfl
 have ⟨k50p, f50p, k51p, f51p, k52p, f52p, k53p, f53p⟩ := HP.out.cf4 5 rfl
 have k54p := HP.out.cell 5 4 rfl rfl
 have f54p := HP.out.free 5 4 rfl
 have ⟨k60p, f60p, k61p, f61p, k62p, f62p⟩ := HP.out.cf3 6 rfl
 have ⟨k70p, f70p, k71p, f71p, k72p, f72p⟩ := HP.out.cf3 7 rfl
 go_wp2_with fail
 clear k00 f00 k01 f01 k02 f02 l0 k10 f10 k11 f11 k12 f12 k13 f13 k14 f14 k15 f15 l1 k20 f20 k21 f21 k22 f22 l2 k30 f30 k31 f31 k32 f32 k33 f33 k34 f34 l3 k40 f40 k41 f41 k42 f42 l4 k50 f50 k51 f51 k52 f52 k53 f53 k54 f54 l5 k60 f60 k61 f61 k62 f62 l6 k00p f00p k01p f01p k02p f02p k10p f10p k11p f11p k12p f12p k13p f13p k14p f14p k15p f15p k20p f20p k21p f21p k22p f22p k30p f30p k31p f31p k32p f32p k33p f33p k34p f34p k40p f40p k41p f41p k42p f42p k50p f50p k51p f51p k52p f52p k53p f53p k54p f54p k60p f60p k61p f61p k62p f62p k70p f70p k71p f71p k72p f72p HN
 have HN := HP
 clear HP
 replace HG := Lib.hid (show Hg (w11.alloc (.cells #[.bool false, .slice none 0 0, .slice none 0 0] 45)) from HG.out.below (belowBox _ _) HG.out.lt)
 replace HEY := Lib.hid (show SB (w11.alloc (.cells #[.bool false, .slice none 0 0, .slice none 0 0] 45)) a2 5 c2 [4, 1, 2, 1, 3] from HEY.out.below (belowBox _ _) HEY.out.lt)
 replace HF3 := Lib.hid (show IsF (w11.alloc (.cells #[.bool false, .slice none 0 0, .slice none 0 0] 45)) pb3 ⟨#[110, 117, 109, 98, 101, 114]⟩ 3 90 from HF3.out.below (belowBox _ _) HF3.out.lt)
 replace HF4 := Lib.hid (show IsF (w11.alloc (.cells #[.bool false, .slice none 0 0, .slice none 0 0] 45)) pb4 ⟨#[100, 105, 118, 105, 115, 111, 114]⟩ 2 91 from HF4.out.below (belowBox _ _) HF4.out.lt)
 generalize (w11.alloc (.cells #[.bool false, .slice none 0 0, .slice none 0 0] 45)) = wa12 at HN HG HEY HF3 HF4 ⊢
 refine (HSM.out _ _ _ _ _ _ _ _ _ (HN.out.nat 2 rfl) (HN.out.nat 3 rfl) (HN.out.nat 0 rfl) (HN.out.nat 1 rfl)).mono ?_
 rintro e w13 ⟨rfl, hb⟩
 replace HG := Lib.hid (show Hg w13 from HG.out.below hb HG.out.lt)
 replace HEY := Lib.hid (show SB w13 a2 5 c2 [4, 1, 2, 1, 3] from HEY.out.below hb HEY.out.lt)
 replace HF3 := Lib.hid (show IsF w13 pb3 ⟨#[110, 117, 109, 98, 101, 114]⟩ 3 90 from HF3.out.below hb HF3.out.lt)
 replace HF4 := Lib.hid (show IsF w13 pb4 ⟨#[100, 105, 118, 105, 115, 111, 114]⟩ 2 91 from HF4.out.below hb HF4.out.lt)
 replace HN := Lib.hid (HN.out.call hb)
 clear hb 
 clear hcv
 have ⟨k00, f00, k01, f01, k02, f02⟩ := HN.out.cf3 0 rfl
 have ⟨k10, f10, k11, f11, k12, f12, k13, f13⟩ := HN.out.cf4 1 rfl
 have k14 := HN.out.cell 1 4 rfl rfl
 have f14 := HN.out.free 1 4 rfl
 have k15 := HN.out.cell 1 5 rfl rfl
 have f15 := HN.out.free 1 5 rfl
 have ⟨k20, f20, k21, f21, k22, f22⟩ := HN.out.cf3 2 rfl
 have ⟨k30, f30, k31, f31, k32, f32, k33, f33⟩ := HN.out.cf4 3 rfl
 have k34 := HN.out.cell 3 4 rfl rfl
 have f34 := HN.out.free 3 4 rfl
 have ⟨k40, f40, k41, f41, k42, f42⟩ := HN.out.cf3 4 rfl
 have ⟨k50, f50, k51, f51, k52, f52, k53, f53⟩ := HN.out.cf4 5 rfl
 have k54 := HN.out.cell 5 4 rfl rfl
 have f54 := HN.out.free 5 4 rfl
 have ⟨k60, f60, k61, f61, k62, f62⟩ := HN.out.cf3 6 rfl
 have ⟨k70, f70, k71, f71, k72, f72⟩ := HN.out.cf3 7 rfl
 go_wp2_with fail
 clear k00 f00 k01 f01 k02 f02 k10 f10 k11 f11 k12 f12 k13 f13 k14 f14 k15 f15 k20 f20 k21 f21 k22 f22 k30 f30 k31 f31 k32 f32 k33 f33 k34 f34 k40 f40 k41 f41 k42 f42 k50 f50 k51 f51 k52 f52 k53 f53 k54 f54 k60 f60 k61 f61 k62 f62 k70 f70 k71 f71 k72 f72
 refine (HT1.out _ HG.out).mono ?_
 rintro e w14 ⟨rfl, hb⟩
 replace HG := Lib.hid (show Hg w14 from HG.out.below hb HG.out.lt)
 replace HEY := Lib.hid (show SB w14 a2 5 c2 [4, 1, 2, 1, 3] from HEY.out.below hb HEY.out.lt)
 replace HF3 := Lib.hid (show IsF w14 pb3 ⟨#[110, 117, 109, 98, 101, 114]⟩ 3 90 from HF3.out.below hb HF3.out.lt)
 replace HF4 := Lib.hid (show IsF w14 pb4 ⟨#[100, 105, 118, 105, 115, 111, 114]⟩ 2 91 from HF4.out.below hb HF4.out.lt)
 replace HN := Lib.hid (HN.out.call hb)
 clear hb 
 have ⟨k00, f00, k01, f01, k02, f02⟩ := HN.out.cf3 0 rfl
 have ⟨k10, f10, k11, f11, k12, f12, k13, f13⟩ := HN.out.cf4 1 rfl
 have k14 := HN.out.cell 1 4 rfl rfl
 have f14 := HN.out.free 1 4 rfl
 have k15 := HN.out.cell 1 5 rfl rfl
 have f15 := HN.out.free 1 5 rfl
 have ⟨k20, f20, k21, f21, k22, f22⟩ := HN.out.cf3 2 rfl
 have ⟨k30, f30, k31, f31, k32, f32, k33, f33⟩ := HN.out.cf4 3 rfl
 have k34 := HN.out.cell 3 4 rfl rfl
 have f34 := HN.out.free 3 4 rfl
 have ⟨k40, f40, k41, f41, k42, f42⟩ := HN.out.cf3 4 rfl
 have ⟨k50, f50, k51, f51, k52, f52, k53, f53⟩ := HN.out.cf4 5 rfl
 have k54 := HN.out.cell 5 4 rfl rfl
 have f54 := HN.out.free 5 4 rfl
 have ⟨k60, f60, k61, f61, k62, f62⟩ := HN.out.cf3 6 rfl
 have ⟨k70, f70, k71, f71, k72, f72⟩ := HN.out.cf3 7 rfl
 go_wp2_with fail
 clear k00 f00 k01 f01 k02 f02 k10 f10 k11 f11 k12 f12 k13 f13 k14 f14 k15 f15 k20 f20 k21 f21 k22 f22 k30 f30 k31 f31 k32 f32 k33 f33 k34 f34 k40 f40 k41 f41 k42 f42 k50 f50 k51 f51 k52 f52 k53 f53 k54 f54 k60 f60 k61 f61 k62 f62 k70 f70 k71 f71 k72 f72
 refine (HT2.out _ _ HG.out HF3.out).mono ?_
 rintro e w15 ⟨rfl, hb⟩
 replace HG := Lib.hid (show Hg w15 from HG.out.below hb HG.out.lt)
 replace HEY := Lib.hid (show SB w15 a2 5 c2 [4, 1, 2, 1, 3] from HEY.out.below hb HEY.out.lt)
 replace HF3 := Lib.hid (show IsF w15 pb3 ⟨#[110, 117, 109, 98, 101, 114]⟩ 3 90 from HF3.out.below hb HF3.out.lt)
 replace HF4 := Lib.hid (show IsF w15 pb4 ⟨#[100, 105, 118, 105, 115, 111, 114]⟩ 2 91 from HF4.out.below hb HF4.out.lt)
 replace HN := Lib.hid (HN.out.call hb)
 clear hb 
 have ⟨k00, f00, k01, f01, k02, f02⟩ := HN.out.cf3 0 rfl
 have ⟨k10, f10, k11, f11, k12, f12, k13, f13⟩ := HN.out.cf4 1 rfl
 have k14 := HN.out.cell 1 4 rfl rfl
 have f14 := HN.out.free 1 4 rfl
 have k15 := HN.out.cell 1 5 rfl rfl
 have f15 := HN.out.free 1 5 rfl
 have ⟨k20, f20, k21, f21, k22, f22⟩ := HN.out.cf3 2 rfl
 have ⟨k30, f30, k31, f31, k32, f32, k33, f33⟩ := HN.out.cf4 3 rfl
 have k34 := HN.out.cell 3 4 rfl rfl
 have f34 := HN.out.free 3 4 rfl
 have ⟨k40, f40, k41, f41, k42, f42⟩ := HN.out.cf3 4 rfl
 have ⟨k50, f50, k51, f51, k52, f52, k53, f53⟩ := HN.out.cf4 5 rfl
 have k54 := HN.out.cell 5 4 rfl rfl
 have f54 := HN.out.free 5 4 rfl
 have ⟨k60, f60, k61, f61, k62, f62⟩ := HN.out.cf3 6 rfl
 have ⟨k70, f70, k71, f71, k72, f72⟩ := HN.out.cf3 7 rfl
 go_wp2_with fail
 clear k00 f00 k01 f01 k02 f02 k10 f10 k11 f11 k12 f12 k13 f13 k14 f14 k15 f15 k20 f20 k21 f21 k22 f22 k30 f30 k31 f31 k32 f32 k33 f33 k34 f34 k40 f40 k41 f41 k42 f42 k50 f50 k51 f51 k52 f52 k53 f53 k54 f54 k60 f60 k61 f61 k62 f62 k70 f70 k71 f71 k72 f72
 refine (HTX.out _ _ _ _ _ (HN.out.nat 0 rfl) (HN.out.nat 1 rfl)).mono ?_
 rintro e w16 ⟨rfl, hb⟩
 replace HG := Lib.hid (show Hg w16 from HG.out.below hb HG.out.lt)
 replace HEY := Lib.hid (show SB w16 a2 5 c2 [4, 1, 2, 1, 3] from HEY.out.below hb HEY.out.lt)
 replace HF3 := Lib.hid (show IsF w16 pb3 ⟨#[110, 117, 109, 98, 101, 114]⟩ 3 90 from HF3.out.below hb HF3.out.lt)
 replace HF4 := Lib.hid (show IsF w16 pb4 ⟨#[100, 105, 118, 105, 115, 111, 114]⟩ 2 91 from HF4.out.below hb HF4.out.lt)
 replace HN := Lib.hid (HN.out.call hb)
 clear hb 
 have ⟨k00, f00, k01, f01, k02, f02⟩ := HN.out.cf3 0 rfl
 have ⟨k10, f10, k11, f11, k12, f12, k13, f13⟩ := HN.out.cf4 1 rfl
 have k14 := HN.out.cell 1 4 rfl rfl
 have f14 := HN.out.free 1 4 rfl
 have k15 := HN.out.cell 1 5 rfl rfl
 have f15 := HN.out.free 1 5 rfl
 have ⟨k20, f20, k21, f21, k22, f22⟩ := HN.out.cf3 2 rfl
 have ⟨k30, f30, k31, f31, k32, f32, k33, f33⟩ := HN.out.cf4 3 rfl
 have k34 := HN.out.cell 3 4 rfl rfl
 have f34 := HN.out.free 3 4 rfl
 have ⟨k40, f40, k41, f41, k42, f42⟩ := HN.out.cf3 4 rfl
 have ⟨k50, f50, k51, f51, k52, f52, k53, f53⟩ := HN.out.cf4 5 rfl
 have k54 := HN.out.cell 5 4 rfl rfl
 have f54 := HN.out.free 5 4 rfl
 have ⟨k60, f60, k61, f61, k62, f62⟩ := HN.out.cf3 6 rfl
 have ⟨k70, f70, k71, f71, k72, f72⟩ := HN.out.cf3 7 rfl
 go_wp2_with fail
 clear k00 f00 k01 f01 k02 f02 k10 f10 k11 f11 k12 f12 k13 f13 k14 f14 k15 f15 k20 f20 k21 f21 k22 f22 k30 f30 k31 f31 k32 f32 k33 f33 k34 f34 k40 f40 k41 f41 k42 f42 k50 f50 k51 f51 k52 f52 k53 f53 k54 f54 k60 f60 k61 f61 k62 f62 k70 f70 k71 f71 k72 f72
 refine (HT3.out _ _ HG.out HF4.out).mono ?_
 rintro e w17 ⟨rfl, hb⟩
 replace HG := Lib.hid (show Hg w17 from HG.out.below hb HG.out.lt)
 replace HEY := Lib.hid (show SB w17 a2 5 c2 [4, 1, 2, 1, 3] from HEY.out.below hb HEY.out.lt)
 replace HF3 := Lib.hid (show IsF w17 pb3 ⟨#[110, 117, 109, 98, 101, 114]⟩ 3 90 from HF3.out.below hb HF3.out.lt)
 replace HF4 := Lib.hid (show IsF w17 pb4 ⟨#[100, 105, 118, 105, 115, 111, 114]⟩ 2 91 from HF4.out.below hb HF4.out.lt)
 replace HN := Lib.hid (HN.out.call hb)
 clear hb 
 have ⟨k00, f00, k01, f01, k02, f02⟩ := HN.out.cf3 0 rfl
 have ⟨k10, f10, k11, f11, k12, f12, k13, f13⟩ := HN.out.cf4 1 rfl
 have k14 := HN.out.cell 1 4 rfl rfl
 have f14 := HN.out.free 1 4 rfl
 have k15 := HN.out.cell 1 5 rfl rfl
 have f15 := HN.out.free 1 5 rfl
 have ⟨k20, f20, k21, f21, k22, f22⟩ := HN.out.cf3 2 rfl
 have ⟨k30, f30, k31, f31, k32, f32, k33, f33⟩ := HN.out.cf4 3 rfl
 have k34 := HN.out.cell 3 4 rfl rfl
 have f34 := HN.out.free 3 4 rfl
 have ⟨k40, f40, k41, f41, k42, f42⟩ := HN.out.cf3 4 rfl
 have ⟨k50, f50, k51, f51, k52, f52, k53, f53⟩ := HN.out.cf4 5 rfl
 have k54 := HN.out.cell 5 4 rfl rfl
 have f54 := HN.out.free 5 4 rfl
 have ⟨k60, f60, k61, f61, k62, f62⟩ := HN.out.cf3 6 rfl
 have ⟨k70, f70, k71, f71, k72, f72⟩ := HN.out.cf3 7 rfl
 have HE := Lib.hid (HN.out)
 go_wp2_with fail
 refine bodyPost_ret (v := .bool true) (by simp [results, Tryz.results25, go_sem, k00, k01, k02, k10, k11, k12, k13, k14, k15, k20, k21, k22, k30, k31, k32, k33, k34, k40, k41, k42, k50, k51, k52, k53, k54, k60, k61, k62, k70, k71, k72]) rfl ?_
 exact ⟨rfl, HE.out.bel⟩
theorem conv5 (a : Option Addr) (c : Nat) (W : World) (h : SB W a 5 c [4, 1, 2, 1, 3]) : (convert 32 9 (.slice a 5 c)).run Tryz.prog W = .ok (.string ⟨#[4, 1, 2, 1, 3]⟩) W := by
 rw [run_convert_bytes_string W 32 9 5 a 5 c Tryz.underlying32 Tryz.underlying5 Tryz.underlying9]
 rcases h.2 with ⟨_, _, e, hn, _⟩ | ⟨b, o, c', e, _, _, _, h4⟩
 ·
  cases hn
 ·
  cases e
  refine run_bytesToString W ⟨b, o, none⟩ 5 c [4, 1, 2, 1, 3] ?_
  exact run_loadCells_list W ⟨b, o, none⟩ ([4, 1, 2, 1, 3].map BN) (fun j u hj => by rw [Addr.add_lit]; exact h4 j u hj)
theorem bytes412139 (p : Nat) (W : World) (h : W.heap[p]? = some (.cells #[.int .u8 4, .int .u8 1, .int .u8 2, .int .u8 1, .int .u8 3, .int .u8 9] 5 (0, 0))) : BytesN W (.slice (some ⟨p, 0, none⟩) 6 6) [4, 1, 2, 1, 3, 9] :=
 ⟨rfl, .inr ⟨p, 0, 6, rfl, Nat.le_refl _, by unfold maxLen; omega, lt_of_block h, fun j u hj => by
  match j, hj with
  | 0, hj => injection hj with hj; subst hj; exact cell_of_block h rfl
  | 1, hj => injection hj with hj; subst hj; exact cell_of_block h rfl
  | 2, hj => injection hj with hj; subst hj; exact cell_of_block h rfl
  | 3, hj => injection hj with hj; subst hj; exact cell_of_block h rfl
  | 4, hj => injection hj with hj; subst hj; exact cell_of_block h rfl
  | 5, hj => injection hj with hj; subst hj; exact cell_of_block h rfl⟩⟩
theorem bytes31214 (p : Nat) (W : World) (h : W.heap[p]? = some (.cells #[.int .u8 3, .int .u8 1, .int .u8 2, .int .u8 1, .int .u8 4] 5 (0, 0))) : BytesN W (.slice (some ⟨p, 0, none⟩) 5 5) [3, 1, 2, 1, 4] :=
 ⟨rfl, .inr ⟨p, 0, 5, rfl, Nat.le_refl _, by unfold maxLen; omega, lt_of_block h, fun j u hj => by
  match j, hj with
  | 0, hj => injection hj with hj; subst hj; exact cell_of_block h rfl
  | 1, hj => injection hj with hj; subst hj; exact cell_of_block h rfl
  | 2, hj => injection hj with hj; subst hj; exact cell_of_block h rfl
  | 3, hj => injection hj with hj; subst hj; exact cell_of_block h rfl
  | 4, hj => injection hj with hj; subst hj; exact cell_of_block h rfl⟩⟩
theorem bytes31221 (p : Nat) (W : World) (h : W.heap[p]? = some (.cells #[.int .u8 3, .int .u8 1, .int .u8 2, .int .u8 2, .int .u8 1] 5 (0, 0))) : BytesN W (.slice (some ⟨p, 0, none⟩) 5 5) [3, 1, 2, 2, 1] :=
 ⟨rfl, .inr ⟨p, 0, 5, rfl, Nat.le_refl _, by unfold maxLen; omega, lt_of_block h, fun j u hj => by
  match j, hj with
  | 0, hj => injection hj with hj; subst hj; exact cell_of_block h rfl
  | 1, hj => injection hj with hj; subst hj; exact cell_of_block h rfl
  | 2, hj => injection hj with hj; subst hj; exact cell_of_block h rfl
  | 3, hj => injection hj with hj; subst hj; exact cell_of_block h rfl
  | 4, hj => injection hj with hj; subst hj; exact cell_of_block h rfl⟩⟩
theorem wd_small {n : Nat} (h : n < W64) : lenW n ≤ 1 := lenW_le (m := 1) (by rw [Nat.pow_one]; exact h)
theorem awake_any (w : World) (hg : Hg w) : Calls Tryz.prog 25 #[] w fun e w' => e = .returned (.bool true) ∧ Below w.heap.size w w' := by
 obtain ⟨q, hq⟩ : ∃ q, Rat.divInt (-3) 2 = q := ⟨_, rfl⟩
 have h1 : lenW q.num.natAbs ≤ 1 := by rw [← hq, m32_num]; exact wd_small (by unfold W64; omega)
 have h2 : lenW q.den ≤ 1 := by rw [← hq, m32_den]; exact wd_small (by unfold W64; omega)
 have hof := fun (W : World) => rof_any (Nat.le_refl 4398046511104) div_upto (by omega) (by omega) (-3) 2 W (by omega) (by omega) (by omega) (by omega) (by omega)
 rw [hq] at hof
 have hen := fun (a8 : Option Addr) (c8 : Nat) (b9 : Option Addr) (d9 : Nat) (W : World) (q1 : NatW W a8 c8 q.num.natAbs) (q2 : NatW W b9 d9 (denN q.den)) => enc_any a8 b9 c8 d9 q W q1 q2 (by omega) (by omega)
 rw [show encR q = .ok [4, 1, 2, 1, 3] from hq ▸ enc_m32] at hen
 have hd1 := fun (p : Nat) (W : World) h => dec_any _ _ _ _ W (bytes412139 p W h) (by decide) (by omega)
 rw [show decR [4, 1, 2, 1, 3, 9] = .ok (q, 5) from hq ▸ dec_m32] at hd1
 have hd2 := fun (p : Nat) (W : World) h => dec_any _ _ _ _ W (bytes31214 p W h) (by decide) (by omega)
 rw [dec_code] at hd2
 have hd3 := fun (p : Nat) (W : World) h => dec_any _ _ _ _ W (bytes31221 p W h) (by decide) (by omega)
 rw [dec_less] at hd3
 have hrd := fun (W : World) => pread_any ⟨#[49, 47, 120]⟩ W (by decide)
 rw [show natB ⟨#[49, 47, 120]⟩ = [49, 47, 120] from rfl, read_bad] at hrd
 have htx := fun (a8 : Option Addr) (c8 : Nat) (b9 : Option Addr) (d9 : Nat) (W : World) (q1 : NatW W a8 c8 q.num.natAbs) (q2 : NatW W b9 d9 (denN q.den)) => rtext_any a8 b9 c8 d9 q W q1 q2 (by omega) (by omega)
 rw [show textR q = [45, 51, 47, 50] from hq ▸ text_m32] at htx
 refine awake_walk (decide (q.num < 0)) q.num.natAbs (denN q.den) w (Lib.hid hg) (Lib.hid hof)
  (Lib.hid fun a8 c8 b9 d9 W q1 q2 => (hen a8 c8 b9 d9 W q1 q2).mono fun e w' h => ?_) (Lib.hid hd1)
  (Lib.hid fun p W h => (hd2 p W h).mono fun e w' h => ?_) (Lib.hid fun p W h => (hd3 p W h).mono fun e w' h => ?_)
  (Lib.hid fun W => (hrd W).mono fun e w' h => ?_) (Lib.hid conv5)
  (Lib.hid fun a6 c6 b7 d7 a8 c8 b9 d9 W q1 q2 q3 q4 => ?_)
  (Lib.hid fun W hg => told_E 91 91 0 ⟨#[]⟩ W hg rfl (by decide +kernel))
  (Lib.hid fun pb W hg hf => told_F pb 90 90 3 3 _ _ W hg hf rfl rfl rfl (by decide +kernel)) (Lib.hid htx)
  (Lib.hid fun pb W hg hf => told_F pb 91 91 2 2 _ _ W hg hf rfl rfl rfl (by decide +kernel))
 ·
  obtain ⟨a, c, he, hm, hb⟩ := h
  exact ⟨a, c, he, Sl.ofMid hm, hb⟩
 ·
  obtain ⟨v, he, hv, hb⟩ := h
  have hv : v = eE 91 := hv
  subst he hv
  exact ⟨rfl, hb⟩
 ·
  obtain ⟨v, he, ⟨pb, hv, hf⟩, hb⟩ := h
  subst he hv
  exact ⟨pb, rfl, hf, hb⟩
 ·
  obtain ⟨v, he, ⟨pb, hv, hf⟩, hb⟩ := h
  subst he hv
  exact ⟨pb, rfl, hf, hb⟩
 ·
  have h := rsame_any mul_upto_small q q a6 b7 a8 b9 c6 d7 c8 d9 W q1 q2 q3 q4 (by rw [Int.natAbs_natCast]; omega) (by rw [Int.natAbs_natCast]; omega)
  rw [decide_eq_true rfl] at h
  exact h
structure PartW (w : World) (a : Option Addr) (n c : Nat) (b : Option Addr) (m d : Nat) (xs ys : List Nat) : Prop where
 num : Sl w 1 (.slice a n c) n (xs.map UV)
 den : Sl w 1 (.slice b m d) m (ys.map UV)
 nw : ∀ x ∈ xs, x < W64
 dw : ∀ x ∈ ys, x < W64
 ns : n ≤ 1048576
 ds : m ≤ 1048576
theorem PartW.below {w w' : World} {a b : Option Addr} {n c m d : Nat} {xs ys : List Nat} (h : PartW w a n c b m d xs ys) (hb : Below w.heap.size w w') : PartW w' a n c b m d xs ys := ⟨Sl.below h.num hb, Sl.below h.den hb, h.nw, h.dw, h.ns, h.ds⟩
theorem PartW.size {w : World} {a b : Option Addr} {n c m d : Nat} {xs ys : List Nat} (h : PartW w a n c b m d xs ys) (sg : Bool) : lenW (ratG sg xs ys).num.natAbs ≤ 1048576 ∧ lenW (ratG sg xs ys).den ≤ 1048577 := by
 have hl1 : xs.length = n := by have := h.num.1; rw [List.length_map, Nat.mul_one] at this; exact this
 have hl2 : ys.length = m := by have := h.den.1; rw [List.length_map, Nat.mul_one] at this; exact this
 have v1 := val_words h.nw
 have v2 := val_words h.dw
 have hd0 := denG_ne ys
 have hs1 := h.ns
 have hs2 := h.ds
 have hz : ((denG ys : Nat) : Int) ≠ 0 := by omega
 have e1 := num_le (newI sg (val xs)) ((denG ys : Nat) : Int) hz
 have e2 := den_le (newI sg (val xs)) ((denG ys : Nat) : Int) hz
 rw [newI_abs] at e1
 rw [Int.natAbs_natCast] at e2
 have hdl : lenW (denG ys) ≤ 1048577 := by
  unfold denG
  split
  ·
   exact Nat.le_trans (wd_small (by unfold W64; omega)) (by omega)
  ·
   omega
 unfold ratG
 exact ⟨by omega, by omega⟩
theorem BytesN.pre {w : World} {a : Option Addr} {n c : Nat} {l : List Nat} (h : BytesN w (.slice a n c) l) (k : Nat) (hk : k ≤ n) : BytesN w (.slice a k c) (l.take k) := by
 have hn := h.len.1
 subst hn
 unfold BytesN
 rw [List.length_take, Nat.min_eq_left hk]
 refine ⟨by rw [List.length_map, List.length_take]; omega, ?_⟩
 obtain ⟨a', c', e, hnc, hcm, h0⟩ := Sl.len h
 cases e
 by_cases h0k : k = 0
 ·
  subst h0k
  exact .inl ⟨_, _, rfl, rfl, hcm, h0⟩
 ·
  obtain ⟨b, o, c'', e, _, _, hlt, hc⟩ := Sl.plain h (by omega)
  cases e
  refine .inr ⟨b, o, _, rfl, by omega, by omega, hlt, fun j u hj => hc j u ?_⟩
  rw [List.map_take, List.getElem?_take] at hj
  split at hj
  ·
   exact hj
  ·
   cases hj
theorem foldl_push (l : List Nat) (r : ByteArray) : (l.map Int.ofNat).foldl (fun r n => r.push (UInt8.ofNat n.toNat)) r = ⟨r.data ++ (l.map UInt8.ofNat).toArray⟩ := by
 induction l generalizing r with
 | nil => simp
 | cons x l ih =>
  rw [List.map_cons, List.foldl_cons, ih]
  congr 1
  simp [ByteArray.push]
theorem conv_any (a : Option Addr) (n c : Nat) (l : List Nat) (W : World) (h : BytesN W (.slice a n c) l) : (convert 32 9 (.slice a n c)).run Tryz.prog W = .ok (.string (strB l)) W := by
 have hn := h.len.1
 subst hn
 rw [run_convert_bytes_string W 32 9 5 a _ c Tryz.underlying32 Tryz.underlying5 Tryz.underlying9]
 have key : ∀ ad, (∀ j u, (l.map BN)[j]? = some u → W.cell? (ad.add j) = some u) → (Conv.bytesToString (.slice (some ad) l.length c)).run Tryz.prog W = .ok (.string (strB l)) W := fun ad hc => by
  have h1 := run_loadCells_list (P := Tryz.prog) W ad (l.map BN) hc
  rw [List.length_map] at h1
  have h2 : (l.map BN) = (l.map Int.ofNat).map (Value.int .u8) := by rw [List.map_map]; rfl
  rw [h2] at h1
  rw [run_bytesToString W ad l.length c (l.map Int.ofNat) h1, foldl_push]
  simp [strB, ByteArray.empty, ByteArray.emptyWithCapacity]
  rfl
 rcases h.2 with ⟨a', c', e, hn, _⟩ | ⟨b, o, c', e, _, _, _, h4⟩
 ·
  have hl : l = [] := List.length_eq_zero_iff.1 hn
  subst hl
  cases a with
  | none => rfl
  | some ad => exact key ad fun j u hj => by cases hj
 ·
  cases e
  exact key _ fun j u hj => by rw [Addr.add_lit]; exact h4 j u hj
def ratD (r : Except Flt (Rat × Nat)) : Rat := match r with
 | .ok x => x.1
 | .error _ => 0
def numD (r : Except Flt (Rat × Nat)) : Nat := match r with
 | .ok x => x.2
 | .error _ => 0
def ratE (r : Except Flt Rat) : Rat := match r with
 | .ok x => x
 | .error _ => 0
theorem zv_rat : ratV none 0 none 0 0 = .agg #[.bool false, .slice none 0 0, .slice none 0 0] := by
 unfold ratV
 rw [show (0 : Rat).num = 0 from rfl, show (0 : Int).natAbs = 0 from rfl, show denN (0 : Rat).den = 0 from rfl, lenW_zero]; rfl
theorem is_bl {f : FuncId} {xs : Array Value} {W : World} {b b' : Bool} (hb : b = b') (h : Calls Tryz.prog f xs W fun e w' => e = .returned (.bool b) ∧ w' = W) : Calls Tryz.prog f xs W fun e w' => e = .returned (.bool b') ∧ Below W.heap.size W w' := by
 subst hb
 exact h.mono fun e w' h => ⟨h.1, h.2 ▸ Below.refl _ _⟩
theorem enc_small {q : Rat} {l : List Nat} (h : encR q = .ok l) : ndig 256 q.num.natAbs ≤ 255 ∧ (q.den ≠ 1 → ndig 256 q.den ≤ 255) ∧ l.length ≤ 513 := by
 by_cases h1 : 255 < ndig 256 q.num.natAbs ∨ (q.den ≠ 1 ∧ 255 < ndig 256 q.den)
 ·
  obtain ⟨f, hf, _⟩ := (enc_size q).1 h1
  rw [h] at hf; cases hf
 ·
  obtain ⟨l2, hl, hlen⟩ := (enc_size q).2 h1
  rw [h] at hl
  injection hl with hl
  subst hl
  have h2 : ndig 256 q.num.natAbs ≤ 255 := by omega
  have h3 : q.den ≠ 1 → ndig 256 q.den ≤ 255 := fun hd => by
   by_cases h4 : 255 < ndig 256 q.den
   ·
    exact absurd (Or.inr ⟨hd, h4⟩) h1
   ·
    omega
  refine ⟨h2, h3, ?_⟩
  rw [hlen]
  split
  ·
   omega
  ·
   split
   ·
    omega
   ·
    rename_i hd
    have := h3 hd
    omega
theorem lenW_ndig {n K : Nat} (h : ndig 256 n ≤ K) : lenW n ≤ K := by
 refine lenW_le (Nat.lt_of_lt_of_le (lt_ndig (B := 256) (by omega) n) ?_)
 exact Nat.le_trans (Nat.pow_le_pow_right (by omega) h) (Nat.pow_le_pow_left (by unfold W64; omega) K)
theorem lenW_ten {n K : Nat} (h : ndig 10 n ≤ K) : lenW n ≤ K := by
 refine lenW_le (Nat.lt_of_lt_of_le (lt_ndig (B := 10) (by omega) n) ?_)
 exact Nat.le_trans (Nat.pow_le_pow_right (by omega) h) (Nat.pow_le_pow_left (by unfold W64; omega) K)
theorem enc_words {q : Rat} {l : List Nat} (h : encR q = .ok l) : lenW q.num.natAbs ≤ 255 ∧ lenW q.den ≤ 255 := by
 obtain ⟨h1, h2, _⟩ := enc_small h
 refine ⟨lenW_ndig h1, ?_⟩
 by_cases hd : q.den = 1
 ·
  rw [hd]; exact Nat.le_trans (wd_small (by unfold W64; omega)) (by omega)
 ·
  exact lenW_ndig (h2 hd)
theorem textN_ge (n : Nat) : lenW n ≤ (textN n).length := by
 unfold textN
 split
 ·
  rename_i h; subst h; rw [lenW_zero]; omega
 ·
  rw [List.length_map, dig_len]; exact lenW_ten (Nat.le_refl _)
theorem textZ_ge (z : Int) : lenW z.natAbs ≤ (textZ z).length := by
 have h := textN_ge z.natAbs
 unfold textZ
 split
 ·
  rw [List.length_cons]; omega
 ·
  exact h
theorem textR_ge (q : Rat) : lenW q.num.natAbs ≤ (textR q).length ∧ lenW q.den ≤ (textR q).length + 1 := by
 have h1 := textZ_ge q.num
 have h2 := textN_ge q.den
 unfold textR
 split
 ·
  rename_i hd; rw [hd]; exact ⟨h1, Nat.le_trans (wd_small (by unfold W64; omega)) (by omega)⟩
 ·
  rw [List.length_append, List.length_cons]; exact ⟨by omega, by omega⟩
theorem ErrW.iface {w : World} {v : Value} {f : Flt} (h : ErrW w v f) : ∃ T u, v = .iface T u := by
 obtain ⟨n, x⟩ := f
 cases x with
 | none => exact ⟨_, _, h⟩
 | some x => obtain ⟨b, hv, _⟩ := h; exact ⟨_, _, hv⟩
def OptE (k : Bool) (v : Value) : Prop := if k then v = .nilIface else ∃ T u, v = .iface T u
theorem OptE.ok {v : Value} (h : OptE true v) : v = .nilIface := h
theorem OptE.err {v : Value} (h : OptE false v) : ∃ T u, v = .iface T u := h
theorem OptE.guard {k : Bool} {v : Value} (h : OptE k v) (op : BinOp) (t : TypeId) (x : Nat) (w : World) : (eqGuard op t (.tmp x) (.const .nilIface) v .nilIface).run Tryz.prog w = .ok () w := by
 cases k with
 | true => rw [h.ok]; cases op <;> rfl
 | false => obtain ⟨T, u, rfl⟩ := h.err; cases op <;> rfl
def OS (w : World) (k : Bool) (v : Value) (a : Option Addr) (n c : Nat) (l : List Nat) : Prop := OptE k v ∧ SB w a n c l
theorem OS.lt {w : World} {k : Bool} {v : Value} {a : Option Addr} {n c : Nat} {l : List Nat} (_ : OS w k v a n c l) : True := trivial
theorem OS.below {w w' : World} {k : Bool} {v : Value} {a : Option Addr} {n c : Nat} {l : List Nat} (h : OS w k v a n c l) (hb : Below w.heap.size w w') (_ : True) : OS w' k v a n c l := ⟨h.1, h.2.below hb trivial⟩
end Go.Proofs.YtmhainidincjhaaGreatDoor
