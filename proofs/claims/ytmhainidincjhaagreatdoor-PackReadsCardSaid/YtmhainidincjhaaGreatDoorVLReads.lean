/-
 The walk of the law PackReads: what the functions answer, handed over.
 Printed by a program of this repository (wip/rf26.py).
-/
import Derived.Test.YtmhainidincjhaaGreatDoorVG
import Derived.Test.YtmhainidincjhaaGreatDoorVX
set_option linter.unusedVariables false
set_option linter.unusedSimpArgs false
set_option maxRecDepth 100000
set_option maxHeartbeats 16000000
namespace Go.Proofs.YtmhainidincjhaaGreatDoor
open Go.RowKit Go.Extern.Stop Go.Stop Go.Extern
def EO (o : Option Flt) (w : World) (v : Value) : Prop := match o with
 | none => v = .nilIface
 | some f => ErrW w v f
theorem EO.lt {o : Option Flt} {w : World} {v : Value} (_ : EO o w v) : True := trivial
theorem EO.below {o : Option Flt} {w w' : World} {v : Value} (h : EO o w v) (hb : Below w.heap.size w w') (_ : True := trivial) : EO o w' v := by
 cases o with
 | none => exact h
 | some f => exact ErrW.below h hb
theorem reads_walk (a : Option Addr) (n c : Nat) (s : ByteArray) (w : World) (hc : n ≤ c ∧ c ≤ 9223372036854775807) (hn : n ≤ 600) (hs : s.size ≤ 300) (qs : Bool) (qn qd qy : Nat) (o : Option Flt) (fe fk : Int) (fs : ByteArray) (k : Nat) (sqs : Bool) (sqn sqd sqy : Nat) (so : Option Flt) (sfe sfk : Int) (sfs : ByteArray)
  (HAW : Hid (∀ W, Below w.heap.size w W → Calls Tryz.prog 25 #[] W (fun e w' => e = .returned (.bool true) ∧ Below W.heap.size W w')))
  (HP1 : Hid (∀ W, Below w.heap.size w W → Calls Tryz.prog 33 #[.slice a n c] W fun e w' => ∃ a8 c8 b9 d9 v, e = .returned (.tuple #[.agg #[.bool qs, .slice a8 (lenW qn) c8, .slice b9 (lenW qd) d9], .int .i64 (k : Nat), v]) ∧ EO o w' v ∧ NatW w' a8 c8 qn ∧ NatW w' b9 d9 qd ∧ Below W.heap.size W w'))
  (HP2 : Hid (∀ W, Below w.heap.size w W → Calls Tryz.prog 36 #[.slice a n c] W fun e w' => ∃ a5 n5 c5 b6 m6 d6, e = .returned (.tuple #[.agg #[.bool qs, .slice a5 n5 c5, .slice b6 m6 d6], .int .i64 (k : Nat), .agg #[.int .i64 fe, .string fs, .int .i64 fk]]) ∧ QW w' a5 n5 c5 b6 m6 d6 qn qy ∧ Below W.heap.size W w'))
  (HP3 : Hid (∀ v W, Below w.heap.size w W → EO o W v → Calls Tryz.prog 30 #[v, .agg #[.int .i64 fe, .string fs, .int .i64 fk]] W (fun e w' => e = .returned (.bool true) ∧ Below W.heap.size W w')))
  (HP4 : Hid (∀ a8 c8 b9 d9 a5 n5 c5 b6 m6 d6 W, NatW W a8 c8 qn → NatW W b9 d9 qd → QW W a5 n5 c5 b6 m6 d6 qn qy → Calls Tryz.prog 38 #[.agg #[.bool qs, .slice a8 (lenW qn) c8, .slice b9 (lenW qd) d9], .agg #[.bool qs, .slice a5 n5 c5, .slice b6 m6 d6]] W (fun e w' => e = .returned (.bool true) ∧ Below W.heap.size W w')))
  (HS1 : Hid (∀ W, Below w.heap.size w W → Calls Tryz.prog 35 #[.string s] W fun e w' => ∃ sa8 sc8 sb9 sd9 sv, e = .returned (.tuple #[.agg #[.bool sqs, .slice sa8 (lenW sqn) sc8, .slice sb9 (lenW sqd) sd9], sv]) ∧ EO so w' sv ∧ NatW w' sa8 sc8 sqn ∧ NatW w' sb9 sd9 sqd ∧ Below W.heap.size W w'))
  (HS2 : Hid (∀ W, Below w.heap.size w W → Calls Tryz.prog 37 #[.string s] W fun e w' => ∃ sa5 sn5 sc5 sb6 sm6 sd6, e = .returned (.tuple #[.agg #[.bool sqs, .slice sa5 sn5 sc5, .slice sb6 sm6 sd6], .agg #[.int .i64 sfe, .string sfs, .int .i64 sfk]]) ∧ QW w' sa5 sn5 sc5 sb6 sm6 sd6 sqn sqy ∧ Below W.heap.size W w'))
  (HS3 : Hid (∀ sv W, Below w.heap.size w W → EO so W sv → Calls Tryz.prog 30 #[sv, .agg #[.int .i64 sfe, .string sfs, .int .i64 sfk]] W (fun e w' => e = .returned (.bool true) ∧ Below W.heap.size W w')))
  (HS4 : Hid (∀ sa8 sc8 sb9 sd9 sa5 sn5 sc5 sb6 sm6 sd6 W, NatW W sa8 sc8 sqn → NatW W sb9 sd9 sqd → QW W sa5 sn5 sc5 sb6 sm6 sd6 sqn sqy → Calls Tryz.prog 38 #[.agg #[.bool sqs, .slice sa8 (lenW sqn) sc8, .slice sb9 (lenW sqd) sd9], .agg #[.bool sqs, .slice sa5 sn5 sc5, .slice sb6 sm6 sd6]] W (fun e w' => e = .returned (.bool true) ∧ Below W.heap.size W w'))) :
  Calls Tryz.prog 8 #[.slice a n c, .string s] w fun e w' => e = .returned (.bool true) ∧ Below w.heap.size w w' := by
 have HN := Lib.hid (BS.start w)
 go_enter Tryz.func8, Tryz.ntmps8
 go_wp2_with fail
 refine (HAW.out _ HN.out.bel).mono ?_
 rintro e w1 ⟨rfl, hb⟩
 replace HN := Lib.hid (HN.out.call hb)
 clear hb 
 go_wp2_with fail
 refine (HP1.out _ HN.out.bel).mono ?_
 rintro e w2 ⟨a8, c8, b9, d9, v, rfl, hr0, hq0, hq1, hb⟩
 have HEP := Lib.hid hr0
 replace HN := Lib.hid (((HN.out.call hb).got hq0).got hq1)
 clear hb hr0 hq0 hq1
 have HP := Lib.hid (HN.out.alloc (p := w2.heap.size) rfl 45 [.bool qs, .slice a8 (lenW qn) c8, .slice b9 (lenW qd) d9] rfl)
 have ⟨k00p, f00p, k01p, f01p, k02p, f02p⟩ := HP.out.cf3 0 rfl
 go_wp2_with fail
 clear k00p f00p k01p f01p k02p f02p HN
 have HN := HP
 clear HP
 replace HEP := Lib.hid (show EO o (w2.alloc (.cells #[.bool qs, .slice a8 (lenW qn) c8, .slice b9 (lenW qd) d9] 45)) v from HEP.out.below (belowBox _ _) HEP.out.lt)
 generalize (w2.alloc (.cells #[.bool qs, .slice a8 (lenW qn) c8, .slice b9 (lenW qd) d9] 45)) = wa3 at HN HEP ⊢
 refine (HP2.out _ HN.out.bel).mono ?_
 rintro e w4 ⟨a5, n5, c5, b6, m6, d6, rfl, hr0, hb⟩
 replace HEP := Lib.hid (show EO o w4 v from HEP.out.below hb HEP.out.lt)
 have HQP := Lib.hid hr0
 replace HN := Lib.hid (HN.out.call hb)
 clear hb hr0
 have ⟨k00, f00, k01, f01, k02, f02⟩ := HN.out.cf3 0 rfl
 have l0 := HN.out.lt 0 rfl
 have HP := Lib.hid ((HN.out.alloc (p := w4.heap.size) rfl 60 [.bool qs, .slice a5 n5 c5, .slice b6 m6 d6] rfl).alloc (p := w4.heap.size + 1) (by simp) 74 [.int .i64 fe, .string fs, .int .i64 fk] rfl)
 have ⟨k00p, f00p, k01p, f01p, k02p, f02p⟩ := HP.out.cf3 0 rfl
 have ⟨k10p, f10p, k11p, f11p, k12p, f12p⟩ := HP.out.cf3 1 rfl
 have ⟨k20p, f20p, k21p, f21p, k22p, f22p⟩ := HP.out.cf3 2 rfl
 go_wp2_with fail
 clear k00 f00 k01 f01 k02 f02 l0 k00p f00p k01p f01p k02p f02p k10p f10p k11p f11p k12p f12p k20p f20p k21p f21p k22p f22p HN
 have HN := HP
 clear HP
 replace HEP := Lib.hid (show EO o (w4.alloc (.cells #[.bool qs, .slice a5 n5 c5, .slice b6 m6 d6] 60)) v from HEP.out.below (belowBox _ _) HEP.out.lt)
 replace HEP := Lib.hid (show EO o ((w4.alloc (.cells #[.bool qs, .slice a5 n5 c5, .slice b6 m6 d6] 60)).alloc (.cells #[.int .i64 fe, .string fs, .int .i64 fk] 74)) v from HEP.out.below (belowBox _ _) HEP.out.lt)
 replace HQP := Lib.hid (show QW (w4.alloc (.cells #[.bool qs, .slice a5 n5 c5, .slice b6 m6 d6] 60)) a5 n5 c5 b6 m6 d6 qn qy from HQP.out.below (belowBox _ _) HQP.out.lt)
 replace HQP := Lib.hid (show QW ((w4.alloc (.cells #[.bool qs, .slice a5 n5 c5, .slice b6 m6 d6] 60)).alloc (.cells #[.int .i64 fe, .string fs, .int .i64 fk] 74)) a5 n5 c5 b6 m6 d6 qn qy from HQP.out.below (belowBox _ _) HQP.out.lt)
 generalize ((w4.alloc (.cells #[.bool qs, .slice a5 n5 c5, .slice b6 m6 d6] 60)).alloc (.cells #[.int .i64 fe, .string fs, .int .i64 fk] 74)) = wa5 at HN HEP HQP ⊢
 refine (HS1.out _ HN.out.bel).mono ?_
 rintro e w6 ⟨sa8, sc8, sb9, sd9, sv, rfl, hr0, hq0, hq1, hb⟩
 replace HEP := Lib.hid (show EO o w6 v from HEP.out.below hb HEP.out.lt)
 replace HQP := Lib.hid (show QW w6 a5 n5 c5 b6 m6 d6 qn qy from HQP.out.below hb HQP.out.lt)
 have HES := Lib.hid hr0
 replace HN := Lib.hid (((HN.out.call hb).got hq0).got hq1)
 clear hb hr0 hq0 hq1
 have ⟨k00, f00, k01, f01, k02, f02⟩ := HN.out.cf3 0 rfl
 have l0 := HN.out.lt 0 rfl
 have ⟨k10, f10, k11, f11, k12, f12⟩ := HN.out.cf3 1 rfl
 have l1 := HN.out.lt 1 rfl
 have ⟨k20, f20, k21, f21, k22, f22⟩ := HN.out.cf3 2 rfl
 have l2 := HN.out.lt 2 rfl
 have HP := Lib.hid (HN.out.alloc (p := w6.heap.size) rfl 45 [.bool sqs, .slice sa8 (lenW sqn) sc8, .slice sb9 (lenW sqd) sd9] rfl)
 have ⟨k00p, f00p, k01p, f01p, k02p, f02p⟩ := HP.out.cf3 0 rfl
 have ⟨k10p, f10p, k11p, f11p, k12p, f12p⟩ := HP.out.cf3 1 rfl
 have ⟨k20p, f20p, k21p, f21p, k22p, f22p⟩ := HP.out.cf3 2 rfl
 have ⟨k30p, f30p, k31p, f31p, k32p, f32p⟩ := HP.out.cf3 3 rfl
 go_wp2_with fail
 clear k00 f00 k01 f01 k02 f02 l0 k10 f10 k11 f11 k12 f12 l1 k20 f20 k21 f21 k22 f22 l2 k00p f00p k01p f01p k02p f02p k10p f10p k11p f11p k12p f12p k20p f20p k21p f21p k22p f22p k30p f30p k31p f31p k32p f32p HN
 have HN := HP
 clear HP
 replace HEP := Lib.hid (show EO o (w6.alloc (.cells #[.bool sqs, .slice sa8 (lenW sqn) sc8, .slice sb9 (lenW sqd) sd9] 45)) v from HEP.out.below (belowBox _ _) HEP.out.lt)
 replace HQP := Lib.hid (show QW (w6.alloc (.cells #[.bool sqs, .slice sa8 (lenW sqn) sc8, .slice sb9 (lenW sqd) sd9] 45)) a5 n5 c5 b6 m6 d6 qn qy from HQP.out.below (belowBox _ _) HQP.out.lt)
 replace HES := Lib.hid (show EO so (w6.alloc (.cells #[.bool sqs, .slice sa8 (lenW sqn) sc8, .slice sb9 (lenW sqd) sd9] 45)) sv from HES.out.below (belowBox _ _) HES.out.lt)
 generalize (w6.alloc (.cells #[.bool sqs, .slice sa8 (lenW sqn) sc8, .slice sb9 (lenW sqd) sd9] 45)) = wa7 at HN HEP HQP HES ⊢
 refine (HS2.out _ HN.out.bel).mono ?_
 rintro e w8 ⟨sa5, sn5, sc5, sb6, sm6, sd6, rfl, hr0, hb⟩
 replace HEP := Lib.hid (show EO o w8 v from HEP.out.below hb HEP.out.lt)
 replace HQP := Lib.hid (show QW w8 a5 n5 c5 b6 m6 d6 qn qy from HQP.out.below hb HQP.out.lt)
 replace HES := Lib.hid (show EO so w8 sv from HES.out.below hb HES.out.lt)
 have HQS := Lib.hid hr0
 replace HN := Lib.hid (HN.out.call hb)
 clear hb hr0
 have ⟨k00, f00, k01, f01, k02, f02⟩ := HN.out.cf3 0 rfl
 have l0 := HN.out.lt 0 rfl
 have ⟨k10, f10, k11, f11, k12, f12⟩ := HN.out.cf3 1 rfl
 have l1 := HN.out.lt 1 rfl
 have ⟨k20, f20, k21, f21, k22, f22⟩ := HN.out.cf3 2 rfl
 have l2 := HN.out.lt 2 rfl
 have ⟨k30, f30, k31, f31, k32, f32⟩ := HN.out.cf3 3 rfl
 have l3 := HN.out.lt 3 rfl
 have HP := Lib.hid ((HN.out.alloc (p := w8.heap.size) rfl 60 [.bool sqs, .slice sa5 sn5 sc5, .slice sb6 sm6 sd6] rfl).alloc (p := w8.heap.size + 1) (by simp) 74 [.int .i64 sfe, .string sfs, .int .i64 sfk] rfl)
 have ⟨k00p, f00p, k01p, f01p, k02p, f02p⟩ := HP.out.cf3 0 rfl
 have ⟨k10p, f10p, k11p, f11p, k12p, f12p⟩ := HP.out.cf3 1 rfl
 have ⟨k20p, f20p, k21p, f21p, k22p, f22p⟩ := HP.out.cf3 2 rfl
 have ⟨k30p, f30p, k31p, f31p, k32p, f32p⟩ := HP.out.cf3 3 rfl
 have ⟨k40p, f40p, k41p, f41p, k42p, f42p⟩ := HP.out.cf3 4 rfl
 have ⟨k50p, f50p, k51p, f51p, k52p, f52p⟩ := HP.out.cf3 5 rfl
 go_wp2_with fail
 clear k00 f00 k01 f01 k02 f02 l0 k10 f10 k11 f11 k12 f12 l1 k20 f20 k21 f21 k22 f22 l2 k30 f30 k31 f31 k32 f32 l3 k00p f00p k01p f01p k02p f02p k10p f10p k11p f11p k12p f12p k20p f20p k21p f21p k22p f22p k30p f30p k31p f31p k32p f32p k40p f40p k41p f41p k42p f42p k50p f50p k51p f51p k52p f52p HN
 have HN := HP
 clear HP
 replace HEP := Lib.hid (show EO o (w8.alloc (.cells #[.bool sqs, .slice sa5 sn5 sc5, .slice sb6 sm6 sd6] 60)) v from HEP.out.below (belowBox _ _) HEP.out.lt)
 replace HEP := Lib.hid (show EO o ((w8.alloc (.cells #[.bool sqs, .slice sa5 sn5 sc5, .slice sb6 sm6 sd6] 60)).alloc (.cells #[.int .i64 sfe, .string sfs, .int .i64 sfk] 74)) v from HEP.out.below (belowBox _ _) HEP.out.lt)
 replace HQP := Lib.hid (show QW (w8.alloc (.cells #[.bool sqs, .slice sa5 sn5 sc5, .slice sb6 sm6 sd6] 60)) a5 n5 c5 b6 m6 d6 qn qy from HQP.out.below (belowBox _ _) HQP.out.lt)
 replace HQP := Lib.hid (show QW ((w8.alloc (.cells #[.bool sqs, .slice sa5 sn5 sc5, .slice sb6 sm6 sd6] 60)).alloc (.cells #[.int .i64 sfe, .string sfs, .int .i64 sfk] 74)) a5 n5 c5 b6 m6 d6 qn qy from HQP.out.below (belowBox _ _) HQP.out.lt)
 replace HES := Lib.hid (show EO so (w8.alloc (.cells #[.bool sqs, .slice sa5 sn5 sc5, .slice sb6 sm6 sd6] 60)) sv from HES.out.below (belowBox _ _) HES.out.lt)
 replace HES := Lib.hid (show EO so ((w8.alloc (.cells #[.bool sqs, .slice sa5 sn5 sc5, .slice sb6 sm6 sd6] 60)).alloc (.cells #[.int .i64 sfe, .string sfs, .int .i64 sfk] 74)) sv from HES.out.below (belowBox _ _) HES.out.lt)
 replace HQS := Lib.hid (show QW (w8.alloc (.cells #[.bool sqs, .slice sa5 sn5 sc5, .slice sb6 sm6 sd6] 60)) sa5 sn5 sc5 sb6 sm6 sd6 sqn sqy from HQS.out.below (belowBox _ _) HQS.out.lt)
 replace HQS := Lib.hid (show QW ((w8.alloc (.cells #[.bool sqs, .slice sa5 sn5 sc5, .slice sb6 sm6 sd6] 60)).alloc (.cells #[.int .i64 sfe, .string sfs, .int .i64 sfk] 74)) sa5 sn5 sc5 sb6 sm6 sd6 sqn sqy from HQS.out.below (belowBox _ _) HQS.out.lt)
 generalize ((w8.alloc (.cells #[.bool sqs, .slice sa5 sn5 sc5, .slice sb6 sm6 sd6] 60)).alloc (.cells #[.int .i64 sfe, .string sfs, .int .i64 sfk] 74)) = wa9 at HN HEP HQP HES HQS ⊢
 refine (HP3.out _ _ HN.out.bel HEP.out).mono ?_
 rintro e w10 ⟨rfl, hb⟩
 replace HEP := Lib.hid (show EO o w10 v from HEP.out.below hb HEP.out.lt)
 replace HQP := Lib.hid (show QW w10 a5 n5 c5 b6 m6 d6 qn qy from HQP.out.below hb HQP.out.lt)
 replace HES := Lib.hid (show EO so w10 sv from HES.out.below hb HES.out.lt)
 replace HQS := Lib.hid (show QW w10 sa5 sn5 sc5 sb6 sm6 sd6 sqn sqy from HQS.out.below hb HQS.out.lt)
 replace HN := Lib.hid (HN.out.call hb)
 clear hb 
 have ⟨k00, f00, k01, f01, k02, f02⟩ := HN.out.cf3 0 rfl
 have ⟨k10, f10, k11, f11, k12, f12⟩ := HN.out.cf3 1 rfl
 have ⟨k20, f20, k21, f21, k22, f22⟩ := HN.out.cf3 2 rfl
 have ⟨k30, f30, k31, f31, k32, f32⟩ := HN.out.cf3 3 rfl
 have ⟨k40, f40, k41, f41, k42, f42⟩ := HN.out.cf3 4 rfl
 have ⟨k50, f50, k51, f51, k52, f52⟩ := HN.out.cf3 5 rfl
 go_wp2_with fail
 clear k00 f00 k01 f01 k02 f02 k10 f10 k11 f11 k12 f12 k20 f20 k21 f21 k22 f22 k30 f30 k31 f31 k32 f32 k40 f40 k41 f41 k42 f42 k50 f50 k51 f51 k52 f52
 refine (HP4.out _ _ _ _ _ _ _ _ _ _ _ (HN.out.nat 0 rfl) (HN.out.nat 1 rfl) HQP.out).mono ?_
 rintro e w11 ⟨rfl, hb⟩
 replace HEP := Lib.hid (show EO o w11 v from HEP.out.below hb HEP.out.lt)
 replace HQP := Lib.hid (show QW w11 a5 n5 c5 b6 m6 d6 qn qy from HQP.out.below hb HQP.out.lt)
 replace HES := Lib.hid (show EO so w11 sv from HES.out.below hb HES.out.lt)
 replace HQS := Lib.hid (show QW w11 sa5 sn5 sc5 sb6 sm6 sd6 sqn sqy from HQS.out.below hb HQS.out.lt)
 replace HN := Lib.hid (HN.out.call hb)
 clear hb 
 have ⟨k00, f00, k01, f01, k02, f02⟩ := HN.out.cf3 0 rfl
 have ⟨k10, f10, k11, f11, k12, f12⟩ := HN.out.cf3 1 rfl
 have ⟨k20, f20, k21, f21, k22, f22⟩ := HN.out.cf3 2 rfl
 have ⟨k30, f30, k31, f31, k32, f32⟩ := HN.out.cf3 3 rfl
 have ⟨k40, f40, k41, f41, k42, f42⟩ := HN.out.cf3 4 rfl
 have ⟨k50, f50, k51, f51, k52, f52⟩ := HN.out.cf3 5 rfl
 go_wp2_with fail
 clear k00 f00 k01 f01 k02 f02 k10 f10 k11 f11 k12 f12 k20 f20 k21 f21 k22 f22 k30 f30 k31 f31 k32 f32 k40 f40 k41 f41 k42 f42 k50 f50 k51 f51 k52 f52
 refine (HS3.out _ _ HN.out.bel HES.out).mono ?_
 rintro e w12 ⟨rfl, hb⟩
 replace HEP := Lib.hid (show EO o w12 v from HEP.out.below hb HEP.out.lt)
 replace HQP := Lib.hid (show QW w12 a5 n5 c5 b6 m6 d6 qn qy from HQP.out.below hb HQP.out.lt)
 replace HES := Lib.hid (show EO so w12 sv from HES.out.below hb HES.out.lt)
 replace HQS := Lib.hid (show QW w12 sa5 sn5 sc5 sb6 sm6 sd6 sqn sqy from HQS.out.below hb HQS.out.lt)
 replace HN := Lib.hid (HN.out.call hb)
 clear hb 
 have ⟨k00, f00, k01, f01, k02, f02⟩ := HN.out.cf3 0 rfl
 have ⟨k10, f10, k11, f11, k12, f12⟩ := HN.out.cf3 1 rfl
 have ⟨k20, f20, k21, f21, k22, f22⟩ := HN.out.cf3 2 rfl
 have ⟨k30, f30, k31, f31, k32, f32⟩ := HN.out.cf3 3 rfl
 have ⟨k40, f40, k41, f41, k42, f42⟩ := HN.out.cf3 4 rfl
 have ⟨k50, f50, k51, f51, k52, f52⟩ := HN.out.cf3 5 rfl
 go_wp2_with fail
 clear k00 f00 k01 f01 k02 f02 k10 f10 k11 f11 k12 f12 k20 f20 k21 f21 k22 f22 k30 f30 k31 f31 k32 f32 k40 f40 k41 f41 k42 f42 k50 f50 k51 f51 k52 f52
 refine (HS4.out _ _ _ _ _ _ _ _ _ _ _ (HN.out.nat 2 rfl) (HN.out.nat 3 rfl) HQS.out).mono ?_
 rintro e w13 ⟨rfl, hb⟩
 replace HEP := Lib.hid (show EO o w13 v from HEP.out.below hb HEP.out.lt)
 replace HQP := Lib.hid (show QW w13 a5 n5 c5 b6 m6 d6 qn qy from HQP.out.below hb HQP.out.lt)
 replace HES := Lib.hid (show EO so w13 sv from HES.out.below hb HES.out.lt)
 replace HQS := Lib.hid (show QW w13 sa5 sn5 sc5 sb6 sm6 sd6 sqn sqy from HQS.out.below hb HQS.out.lt)
 replace HN := Lib.hid (HN.out.call hb)
 clear hb 
 have ⟨k00, f00, k01, f01, k02, f02⟩ := HN.out.cf3 0 rfl
 have ⟨k10, f10, k11, f11, k12, f12⟩ := HN.out.cf3 1 rfl
 have ⟨k20, f20, k21, f21, k22, f22⟩ := HN.out.cf3 2 rfl
 have ⟨k30, f30, k31, f31, k32, f32⟩ := HN.out.cf3 3 rfl
 have ⟨k40, f40, k41, f41, k42, f42⟩ := HN.out.cf3 4 rfl
 have ⟨k50, f50, k51, f51, k52, f52⟩ := HN.out.cf3 5 rfl
 have HE := Lib.hid (HN.out)
 go_wp2_with fail
 refine bodyPost_ret (v := .bool true) (by simp [results, Tryz.results8, go_sem, k00, k01, k02, k10, k11, k12, k20, k21, k22, k30, k31, k32, k40, k41, k42, k50, k51, k52]) rfl ?_
 exact ⟨rfl, HE.out.bel⟩
theorem reads_long (a : Option Addr) (n c : Nat) (s : ByteArray) (w : World) (hc : n ≤ c ∧ c ≤ 9223372036854775807) (hn : 600 < n)
  (HAW : Hid (∀ W, Below w.heap.size w W → Calls Tryz.prog 25 #[] W (fun e w' => e = .returned (.bool true) ∧ Below W.heap.size W w'))) :
  Calls Tryz.prog 8 #[.slice a n c, .string s] w fun e w' => e = .returned (.bool true) ∧ Below w.heap.size w w' := by
 have HN := Lib.hid (BS.start w)
 go_enter Tryz.func8, Tryz.ntmps8
 go_wp2_with fail
 refine (HAW.out _ HN.out.bel).mono ?_
 rintro e w1 ⟨rfl, hb⟩
 replace HN := Lib.hid (HN.out.call hb)
 clear hb 
 have HE := Lib.hid (HN.out)
 go_wp2_with fail
 refine bodyPost_ret (v := .bool true) (by simp [results, Tryz.results8, go_sem, ]) rfl ?_
 exact ⟨rfl, HE.out.bel⟩
theorem reads_long2 (a : Option Addr) (n c : Nat) (s : ByteArray) (w : World) (hc : n ≤ c ∧ c ≤ 9223372036854775807) (hn : n ≤ 600) (hs : 300 < s.size)
  (HAW : Hid (∀ W, Below w.heap.size w W → Calls Tryz.prog 25 #[] W (fun e w' => e = .returned (.bool true) ∧ Below W.heap.size W w'))) :
  Calls Tryz.prog 8 #[.slice a n c, .string s] w fun e w' => e = .returned (.bool true) ∧ Below w.heap.size w w' := by
 have HN := Lib.hid (BS.start w)
 go_enter Tryz.func8, Tryz.ntmps8
 go_wp2_with fail
 refine (HAW.out _ HN.out.bel).mono ?_
 rintro e w1 ⟨rfl, hb⟩
 replace HN := Lib.hid (HN.out.call hb)
 clear hb 
 have HE := Lib.hid (HN.out)
 go_wp2_with fail
 refine bodyPost_ret (v := .bool true) (by simp [results, Tryz.results8, go_sem, ]) rfl ?_
 exact ⟨rfl, HE.out.bel⟩
end Go.Proofs.YtmhainidincjhaaGreatDoor
