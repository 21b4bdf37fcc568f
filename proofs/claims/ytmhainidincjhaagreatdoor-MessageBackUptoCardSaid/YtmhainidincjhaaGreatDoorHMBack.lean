/-
  The walk of the law MessageBack: what the functions answer, handed over; whether something went wrong is told by flags.
  Printed by a program of this repository (wip/mg43.py).
-/
import Derived.Test.YtmhainidincjhaaGreatDoorHC
import Derived.Test.YtmhainidincjhaaGreatDoorHU
import Derived.Test.YtmhainidincjhaaGreatDoorHL
set_option linter.unusedVariables false
set_option linter.unusedSimpArgs false
set_option maxRecDepth 100000
set_option maxHeartbeats 16000000
namespace Go.Proofs.YtmhainidincjhaaGreatDoor
open Go.RowKit Go.Extern.Stop Go.Stop Go.Extern
def MO (w : World) (y : MsgV) : Prop := y.ok w
theorem MO.lt {w : World} {y : MsgV} (_ : MO w y) : True := trivial
theorem MO.below {w w' : World} {y : MsgV} (h : MO w y) (hb : Below w.heap.size w w') (_ : True) : MO w' y := MsgV.ok.below h hb
theorem mback_walk (x : RawV) (m m2 m3 : Msg) (k1 k2 : Bool) (z : Nat) (l lb : List Nat) (u1 u2 : ByteArray) (g : Option Addr) (k o : Nat) (w : World)
    (HAW : Hid (∀ W, Below w.heap.size w W → Calls Tryz.prog 16 #[] W (fun e w' => e = .returned (.bool true) ∧ Below W.heap.size W w')))
    (HMK : Hid (∀ W, Below w.heap.size w W → Calls Tryz.prog 19 #[.agg #[.int .i64 x.verb, .int .i64 x.ses, .int .i64 x.rig, .string x.tk, .string x.ot, .int .i64 x.op, .int .i64 x.row, .int .i64 x.col, .int .i64 x.kind, .bool x.sg, .slice x.a x.n x.c, .slice x.b x.m x.d, .slice x.ea x.en x.ec]] W (RetMk m W)))
    (HEN : Hid (∀ y W, MO W y → y.msg = m → Calls Tryz.prog 18 #[.agg #[.int .i64 y.verb, .string y.tk, .int .i64 y.ses, .int .i64 y.rig, .string y.ot, .int .i64 y.op, .int .i64 y.row, .int .i64 y.col, .int .i64 y.kind, .bool y.r.s, .slice y.r.a y.r.l y.r.c, .slice y.r.b y.r.m y.r.d, .slice y.ea y.en y.ec]] W fun e w' => ∃ a2 c2 v, e = .returned (.tuple #[.slice a2 z c2, v]) ∧ OptE k1 v ∧ SB w' a2 z c2 l ∧ Below W.heap.size W w'))
    (HD1 : Hid (k1 = true → ∀ a2 c2 W, SB W a2 z c2 l → Calls Tryz.prog 24 #[.slice a2 z c2] W fun e w' => ∃ y : MsgV, e = .returned (.tuple #[.agg #[.int .i64 x.verb, .string x.tk, .int .i64 y.ses, .int .i64 y.rig, .string y.ot, .int .i64 y.op, .int .i64 y.row, .int .i64 y.col, .int .i64 y.kind, .bool y.r.s, .slice y.r.a y.r.l y.r.c, .slice y.r.b y.r.m y.r.d, .slice y.ea y.en y.ec], .nilIface]) ∧ MO w' y ∧ y.msg = m2 ∧ (x.verb = 1 → y.op = x.op) ∧ Below W.heap.size W w'))
    (HE2 : Hid (k1 = true → ∀ y W, MO W y → y.msg = m2 → Calls Tryz.prog 18 #[.agg #[.int .i64 x.verb, .string x.tk, .int .i64 y.ses, .int .i64 y.rig, .string y.ot, .int .i64 y.op, .int .i64 y.row, .int .i64 y.col, .int .i64 y.kind, .bool y.r.s, .slice y.r.a y.r.l y.r.c, .slice y.r.b y.r.m y.r.d, .slice y.ea y.en y.ec]] W fun e w' => ∃ a2 c2, e = .returned (.tuple #[.slice a2 z c2, .nilIface]) ∧ SB w' a2 z c2 l ∧ Below W.heap.size W w'))
    (HC1 : Hid (∀ a c W, SB W a z c l → (convert 32 9 (.slice a z c)).run Tryz.prog W = .ok (.string u1) W))
    (HDB : Hid (∀ W, Below w.heap.size w W → Calls Tryz.prog 24 #[.slice g k o] W fun e w' => ∃ (y : MsgV) (v : Value), e = .returned (.tuple #[.agg #[.int .i64 y.verb, .string y.tk, .int .i64 y.ses, .int .i64 y.rig, .string y.ot, .int .i64 y.op, .int .i64 y.row, .int .i64 y.col, .int .i64 y.kind, .bool y.r.s, .slice y.r.a y.r.l y.r.c, .slice y.r.b y.r.m y.r.d, .slice y.ea y.en y.ec], v]) ∧ OptE k2 v ∧ MO w' y ∧ y.msg = m3 ∧ (k2 = false → y.verb = 0 ∧ y.tk = ⟨#[]⟩ ∧ y.en = 0) ∧ Below W.heap.size W w'))
    (HEB : Hid (k2 = true → ∀ y W, MO W y → y.msg = m3 → Calls Tryz.prog 18 #[.agg #[.int .i64 y.verb, .string y.tk, .int .i64 y.ses, .int .i64 y.rig, .string y.ot, .int .i64 y.op, .int .i64 y.row, .int .i64 y.col, .int .i64 y.kind, .bool y.r.s, .slice y.r.a y.r.l y.r.c, .slice y.r.b y.r.m y.r.d, .slice y.ea y.en y.ec]] W fun e w' => ∃ a2 c2, e = .returned (.tuple #[.slice a2 k c2, .nilIface]) ∧ SB w' a2 k c2 lb ∧ Below W.heap.size W w'))
    (HC2 : Hid (k2 = true → ∀ a c W, SB W a k c lb → (convert 32 9 (.slice a k c)).run Tryz.prog W = .ok (.string u2) W))
    (HC3 : Hid (k2 = true → ∀ W, Below w.heap.size w W → (convert 32 9 (.slice g k o)).run Tryz.prog W = .ok (.string u2) W)) :
    Calls Tryz.prog 4 #[.agg #[.int .i64 x.verb, .int .i64 x.ses, .int .i64 x.rig, .string x.tk, .string x.ot, .int .i64 x.op, .int .i64 x.row, .int .i64 x.col, .int .i64 x.kind, .bool x.sg, .slice x.a x.n x.c, .slice x.b x.m x.d, .slice x.ea x.en x.ec], .slice g k o] w fun e w' => e = .returned (.bool true) ∧ Below w.heap.size w w' := by
  obtain ⟨W0, hW0⟩ : ∃ W0, W0 = (w.alloc (.cells #[.int .i64 x.verb, .int .i64 x.ses, .int .i64 x.rig, .string x.tk, .string x.ot, .int .i64 x.op, .int .i64 x.row, .int .i64 x.col, .int .i64 x.kind, .bool x.sg, .slice x.a x.n x.c, .slice x.b x.m x.d, .slice x.ea x.en x.ec] 29)) := ⟨_, rfl⟩
  have hbs : BS w [⟨w.heap.size, 29, [.int .i64 x.verb, .int .i64 x.ses, .int .i64 x.rig, .string x.tk, .string x.ot, .int .i64 x.op, .int .i64 x.row, .int .i64 x.col, .int .i64 x.kind, .bool x.sg, .slice x.a x.n x.c, .slice x.b x.m x.d, .slice x.ea x.en x.ec]⟩] [] (w.alloc (.cells #[.int .i64 x.verb, .int .i64 x.ses, .int .i64 x.rig, .string x.tk, .string x.ot, .int .i64 x.op, .int .i64 x.row, .int .i64 x.col, .int .i64 x.kind, .bool x.sg, .slice x.a x.n x.c, .slice x.b x.m x.d, .slice x.ea x.en x.ec] 29)) :=
      ((BS.start w).alloc (p := w.heap.size) rfl 29 [.int .i64 x.verb, .int .i64 x.ses, .int .i64 x.rig, .string x.tk, .string x.ot, .int .i64 x.op, .int .i64 x.row, .int .i64 x.col, .int .i64 x.kind, .bool x.sg, .slice x.a x.n x.c, .slice x.b x.m x.d, .slice x.ea x.en x.ec] rfl)
  rw [← hW0] at hbs
  have HW0 := Lib.hid hW0
  have HN := Lib.hid hbs
  clear hW0 hbs
  go_enter Tryz.func4, Tryz.ntmps4
  go_wp2_with fail
  rw [← HW0.out]
  refine (HAW.out _ HN.out.bel).mono ?_
  rintro e w1 ⟨rfl, hb⟩
  replace HN := Lib.hid (HN.out.call hb)
  clear hb 
  have k00 := HN.out.cell 0 0 rfl rfl
  have f00 := HN.out.free 0 0 rfl
  have k01 := HN.out.cell 0 1 rfl rfl
  have f01 := HN.out.free 0 1 rfl
  have k02 := HN.out.cell 0 2 rfl rfl
  have f02 := HN.out.free 0 2 rfl
  have k03 := HN.out.cell 0 3 rfl rfl
  have f03 := HN.out.free 0 3 rfl
  have k04 := HN.out.cell 0 4 rfl rfl
  have f04 := HN.out.free 0 4 rfl
  have k05 := HN.out.cell 0 5 rfl rfl
  have f05 := HN.out.free 0 5 rfl
  have k06 := HN.out.cell 0 6 rfl rfl
  have f06 := HN.out.free 0 6 rfl
  have k07 := HN.out.cell 0 7 rfl rfl
  have f07 := HN.out.free 0 7 rfl
  have k08 := HN.out.cell 0 8 rfl rfl
  have f08 := HN.out.free 0 8 rfl
  have k09 := HN.out.cell 0 9 rfl rfl
  have f09 := HN.out.free 0 9 rfl
  have k010 := HN.out.cell 0 10 rfl rfl
  have f010 := HN.out.free 0 10 rfl
  have k011 := HN.out.cell 0 11 rfl rfl
  have f011 := HN.out.free 0 11 rfl
  have k012 := HN.out.cell 0 12 rfl rfl
  have f012 := HN.out.free 0 12 rfl
  go_wp2_with fail
  clear k00 f00 k01 f01 k02 f02 k03 f03 k04 f04 k05 f05 k06 f06 k07 f07 k08 f08 k09 f09 k010 f010 k011 f011 k012 f012
  refine (HMK.out _ HN.out.bel).mono ?_
  rintro e w2 ⟨y, rfl, hok, hms, hb⟩
  replace HN := Lib.hid (HN.out.call hb)
  have HOKy := Lib.hid (show MO w2 y from hok)
  have HMSy := Lib.hid hms
  clear hb hok hms
  unfold MsgV.val
  have k00 := HN.out.cell 0 0 rfl rfl
  have f00 := HN.out.free 0 0 rfl
  have k01 := HN.out.cell 0 1 rfl rfl
  have f01 := HN.out.free 0 1 rfl
  have k02 := HN.out.cell 0 2 rfl rfl
  have f02 := HN.out.free 0 2 rfl
  have k03 := HN.out.cell 0 3 rfl rfl
  have f03 := HN.out.free 0 3 rfl
  have k04 := HN.out.cell 0 4 rfl rfl
  have f04 := HN.out.free 0 4 rfl
  have k05 := HN.out.cell 0 5 rfl rfl
  have f05 := HN.out.free 0 5 rfl
  have k06 := HN.out.cell 0 6 rfl rfl
  have f06 := HN.out.free 0 6 rfl
  have k07 := HN.out.cell 0 7 rfl rfl
  have f07 := HN.out.free 0 7 rfl
  have k08 := HN.out.cell 0 8 rfl rfl
  have f08 := HN.out.free 0 8 rfl
  have k09 := HN.out.cell 0 9 rfl rfl
  have f09 := HN.out.free 0 9 rfl
  have k010 := HN.out.cell 0 10 rfl rfl
  have f010 := HN.out.free 0 10 rfl
  have k011 := HN.out.cell 0 11 rfl rfl
  have f011 := HN.out.free 0 11 rfl
  have k012 := HN.out.cell 0 12 rfl rfl
  have f012 := HN.out.free 0 12 rfl
  go_wp2_with fail
  clear k00 f00 k01 f01 k02 f02 k03 f03 k04 f04 k05 f05 k06 f06 k07 f07 k08 f08 k09 f09 k010 f010 k011 f011 k012 f012
  refine (HEN.out _ _ HOKy.out HMSy.out).mono ?_
  rintro e w90 ⟨a2, c2, v1, rfl, ho, hsb, hb⟩
  replace HN := Lib.hid (HN.out.call hb)
  have HO := Lib.hid ho
  have HX := Lib.hid hsb
  clear ho hsb hb HOKy HMSy
  have z1 := fun w => HO.out.eql w
  have z2 := fun w => HO.out.guard .eql 34 23 w
  have k00 := HN.out.cell 0 0 rfl rfl
  have f00 := HN.out.free 0 0 rfl
  have k01 := HN.out.cell 0 1 rfl rfl
  have f01 := HN.out.free 0 1 rfl
  have k02 := HN.out.cell 0 2 rfl rfl
  have f02 := HN.out.free 0 2 rfl
  have k03 := HN.out.cell 0 3 rfl rfl
  have f03 := HN.out.free 0 3 rfl
  have k04 := HN.out.cell 0 4 rfl rfl
  have f04 := HN.out.free 0 4 rfl
  have k05 := HN.out.cell 0 5 rfl rfl
  have f05 := HN.out.free 0 5 rfl
  have k06 := HN.out.cell 0 6 rfl rfl
  have f06 := HN.out.free 0 6 rfl
  have k07 := HN.out.cell 0 7 rfl rfl
  have f07 := HN.out.free 0 7 rfl
  have k08 := HN.out.cell 0 8 rfl rfl
  have f08 := HN.out.free 0 8 rfl
  have k09 := HN.out.cell 0 9 rfl rfl
  have f09 := HN.out.free 0 9 rfl
  have k010 := HN.out.cell 0 10 rfl rfl
  have f010 := HN.out.free 0 10 rfl
  have k011 := HN.out.cell 0 11 rfl rfl
  have f011 := HN.out.free 0 11 rfl
  have k012 := HN.out.cell 0 12 rfl rfl
  have f012 := HN.out.free 0 12 rfl
  go_upto_if 24 with fail
  clear k00 f00 k01 f01 k02 f02 k03 f03 k04 f04 k05 f05 k06 f06 k07 f07 k08 f08 k09 f09 k010 f010 k011 f011 k012 f012
  clear z1 z2
  go_cut [4] (fun v4 wx => v4 = .bool false ∧ BS w [⟨w.heap.size, 29, [.int .i64 x.verb, .int .i64 x.ses, .int .i64 x.rig, .string x.tk, .string x.ot, .int .i64 x.op, .int .i64 x.row, .int .i64 x.col, .int .i64 x.kind, .bool x.sg, .slice x.a x.n x.c, .slice x.b x.m x.d, .slice x.ea x.en x.ec]⟩] [] wx)
  case first =>
    cases k1 with
    | false =>
      obtain ⟨T1, t1, rfl⟩ := HO.out.err
      go_wp2_with fail
      go_meet
      exact ⟨rfl, HN.out⟩
    | true =>
      obtain rfl := HO.out.ok
      have k00 := HN.out.cell 0 0 rfl rfl
      have f00 := HN.out.free 0 0 rfl
      have k01 := HN.out.cell 0 1 rfl rfl
      have f01 := HN.out.free 0 1 rfl
      have k02 := HN.out.cell 0 2 rfl rfl
      have f02 := HN.out.free 0 2 rfl
      have k03 := HN.out.cell 0 3 rfl rfl
      have f03 := HN.out.free 0 3 rfl
      have k04 := HN.out.cell 0 4 rfl rfl
      have f04 := HN.out.free 0 4 rfl
      have k05 := HN.out.cell 0 5 rfl rfl
      have f05 := HN.out.free 0 5 rfl
      have k06 := HN.out.cell 0 6 rfl rfl
      have f06 := HN.out.free 0 6 rfl
      have k07 := HN.out.cell 0 7 rfl rfl
      have f07 := HN.out.free 0 7 rfl
      have k08 := HN.out.cell 0 8 rfl rfl
      have f08 := HN.out.free 0 8 rfl
      have k09 := HN.out.cell 0 9 rfl rfl
      have f09 := HN.out.free 0 9 rfl
      have k010 := HN.out.cell 0 10 rfl rfl
      have f010 := HN.out.free 0 10 rfl
      have k011 := HN.out.cell 0 11 rfl rfl
      have f011 := HN.out.free 0 11 rfl
      have k012 := HN.out.cell 0 12 rfl rfl
      have f012 := HN.out.free 0 12 rfl
      go_wp2_with fail
      clear k00 f00 k01 f01 k02 f02 k03 f03 k04 f04 k05 f05 k06 f06 k07 f07 k08 f08 k09 f09 k010 f010 k011 f011 k012 f012
      refine (HD1.out (by simp) _ _ _ HX.out).mono ?_
      rintro e w91 ⟨y, rfl, hok, hms, hop, hb⟩
      replace HX := Lib.hid (show SB w91 a2 z c2 l from HX.out.below hb HX.out.lt)
      replace HN := Lib.hid (HN.out.call hb)
      have HOK := Lib.hid hok
      have HMS := Lib.hid hms
      have HOP := Lib.hid hop
      clear hok hms hop hb
      have k00 := HN.out.cell 0 0 rfl rfl
      have f00 := HN.out.free 0 0 rfl
      have k01 := HN.out.cell 0 1 rfl rfl
      have f01 := HN.out.free 0 1 rfl
      have k02 := HN.out.cell 0 2 rfl rfl
      have f02 := HN.out.free 0 2 rfl
      have k03 := HN.out.cell 0 3 rfl rfl
      have f03 := HN.out.free 0 3 rfl
      have k04 := HN.out.cell 0 4 rfl rfl
      have f04 := HN.out.free 0 4 rfl
      have k05 := HN.out.cell 0 5 rfl rfl
      have f05 := HN.out.free 0 5 rfl
      have k06 := HN.out.cell 0 6 rfl rfl
      have f06 := HN.out.free 0 6 rfl
      have k07 := HN.out.cell 0 7 rfl rfl
      have f07 := HN.out.free 0 7 rfl
      have k08 := HN.out.cell 0 8 rfl rfl
      have f08 := HN.out.free 0 8 rfl
      have k09 := HN.out.cell 0 9 rfl rfl
      have f09 := HN.out.free 0 9 rfl
      have k010 := HN.out.cell 0 10 rfl rfl
      have f010 := HN.out.free 0 10 rfl
      have k011 := HN.out.cell 0 11 rfl rfl
      have f011 := HN.out.free 0 11 rfl
      have k012 := HN.out.cell 0 12 rfl rfl
      have f012 := HN.out.free 0 12 rfl
      have l0 := HN.out.lt 0 rfl
      have HP := Lib.hid (HN.out.alloc (p := w91.heap.size) rfl 50 [.int .i64 x.verb, .string x.tk, .int .i64 y.ses, .int .i64 y.rig, .string y.ot, .int .i64 y.op, .int .i64 y.row, .int .i64 y.col, .int .i64 y.kind, .bool y.r.s, .slice y.r.a y.r.l y.r.c, .slice y.r.b y.r.m y.r.d, .slice y.ea y.en y.ec] rfl)
      have k00p := HP.out.cell 0 0 rfl rfl
      have f00p := HP.out.free 0 0 rfl
      have k01p := HP.out.cell 0 1 rfl rfl
      have f01p := HP.out.free 0 1 rfl
      have k02p := HP.out.cell 0 2 rfl rfl
      have f02p := HP.out.free 0 2 rfl
      have k03p := HP.out.cell 0 3 rfl rfl
      have f03p := HP.out.free 0 3 rfl
      have k04p := HP.out.cell 0 4 rfl rfl
      have f04p := HP.out.free 0 4 rfl
      have k05p := HP.out.cell 0 5 rfl rfl
      have f05p := HP.out.free 0 5 rfl
      have k06p := HP.out.cell 0 6 rfl rfl
      have f06p := HP.out.free 0 6 rfl
      have k07p := HP.out.cell 0 7 rfl rfl
      have f07p := HP.out.free 0 7 rfl
      have k08p := HP.out.cell 0 8 rfl rfl
      have f08p := HP.out.free 0 8 rfl
      have k09p := HP.out.cell 0 9 rfl rfl
      have f09p := HP.out.free 0 9 rfl
      have k010p := HP.out.cell 0 10 rfl rfl
      have f010p := HP.out.free 0 10 rfl
      have k011p := HP.out.cell 0 11 rfl rfl
      have f011p := HP.out.free 0 11 rfl
      have k012p := HP.out.cell 0 12 rfl rfl
      have f012p := HP.out.free 0 12 rfl
      have k10p := HP.out.cell 1 0 rfl rfl
      have f10p := HP.out.free 1 0 rfl
      have k11p := HP.out.cell 1 1 rfl rfl
      have f11p := HP.out.free 1 1 rfl
      have k12p := HP.out.cell 1 2 rfl rfl
      have f12p := HP.out.free 1 2 rfl
      have k13p := HP.out.cell 1 3 rfl rfl
      have f13p := HP.out.free 1 3 rfl
      have k14p := HP.out.cell 1 4 rfl rfl
      have f14p := HP.out.free 1 4 rfl
      have k15p := HP.out.cell 1 5 rfl rfl
      have f15p := HP.out.free 1 5 rfl
      have k16p := HP.out.cell 1 6 rfl rfl
      have f16p := HP.out.free 1 6 rfl
      have k17p := HP.out.cell 1 7 rfl rfl
      have f17p := HP.out.free 1 7 rfl
      have k18p := HP.out.cell 1 8 rfl rfl
      have f18p := HP.out.free 1 8 rfl
      have k19p := HP.out.cell 1 9 rfl rfl
      have f19p := HP.out.free 1 9 rfl
      have k110p := HP.out.cell 1 10 rfl rfl
      have f110p := HP.out.free 1 10 rfl
      have k111p := HP.out.cell 1 11 rfl rfl
      have f111p := HP.out.free 1 11 rfl
      have k112p := HP.out.cell 1 12 rfl rfl
      have f112p := HP.out.free 1 12 rfl
      go_wp2_with fail
      clear k00 f00 k01 f01 k02 f02 k03 f03 k04 f04 k05 f05 k06 f06 k07 f07 k08 f08 k09 f09 k010 f010 k011 f011 k012 f012 l0 k00p f00p k01p f01p k02p f02p k03p f03p k04p f04p k05p f05p k06p f06p k07p f07p k08p f08p k09p f09p k010p f010p k011p f011p k012p f012p k10p f10p k11p f11p k12p f12p k13p f13p k14p f14p k15p f15p k16p f16p k17p f17p k18p f18p k19p f19p k110p f110p k111p f111p k112p f112p HN
      have HN := HP
      clear HP
      replace HX := Lib.hid (show SB (w91.alloc (.cells #[.int .i64 x.verb, .string x.tk, .int .i64 y.ses, .int .i64 y.rig, .string y.ot, .int .i64 y.op, .int .i64 y.row, .int .i64 y.col, .int .i64 y.kind, .bool y.r.s, .slice y.r.a y.r.l y.r.c, .slice y.r.b y.r.m y.r.d, .slice y.ea y.en y.ec] 50)) a2 z c2 l from HX.out.below (belowBox _ _) HX.out.lt)
      replace HOK := Lib.hid (show MO (w91.alloc (.cells #[.int .i64 x.verb, .string x.tk, .int .i64 y.ses, .int .i64 y.rig, .string y.ot, .int .i64 y.op, .int .i64 y.row, .int .i64 y.col, .int .i64 y.kind, .bool y.r.s, .slice y.r.a y.r.l y.r.c, .slice y.r.b y.r.m y.r.d, .slice y.ea y.en y.ec] 50)) y from HOK.out.below (belowBox _ _) HOK.out.lt)
      generalize (w91.alloc (.cells #[.int .i64 x.verb, .string x.tk, .int .i64 y.ses, .int .i64 y.rig, .string y.ot, .int .i64 y.op, .int .i64 y.row, .int .i64 y.col, .int .i64 y.kind, .bool y.r.s, .slice y.r.a y.r.l y.r.c, .slice y.r.b y.r.m y.r.d, .slice y.ea y.en y.ec] 50)) = wa5 at HN HX HOK ⊢
      refine (HE2.out (by simp) _ _ HOK.out HMS.out).mono ?_
      rintro e w92 ⟨a3, c3, rfl, hsb, hb⟩
      replace HX := Lib.hid (show SB w92 a2 z c2 l from HX.out.below hb HX.out.lt)
      replace HOK := Lib.hid (show MO w92 y from HOK.out.below hb HOK.out.lt)
      replace HN := Lib.hid (HN.out.call hb)
      have HX2 := Lib.hid hsb
      clear hsb hb HOK HMS
      have hv1 := HC1.out a2 c2 _ HX.out
      have hv2 := HC1.out a3 c3 _ HX2.out
      by_cases h9 : x.verb = 1
      · rw [HOP.out h9] at HN ⊢
        have e9 : (x.verb == 1) = true := beq_iff_eq.2 h9
        clear h9
        have k00 := HN.out.cell 0 0 rfl rfl
        have f00 := HN.out.free 0 0 rfl
        have k01 := HN.out.cell 0 1 rfl rfl
        have f01 := HN.out.free 0 1 rfl
        have k02 := HN.out.cell 0 2 rfl rfl
        have f02 := HN.out.free 0 2 rfl
        have k03 := HN.out.cell 0 3 rfl rfl
        have f03 := HN.out.free 0 3 rfl
        have k04 := HN.out.cell 0 4 rfl rfl
        have f04 := HN.out.free 0 4 rfl
        have k05 := HN.out.cell 0 5 rfl rfl
        have f05 := HN.out.free 0 5 rfl
        have k06 := HN.out.cell 0 6 rfl rfl
        have f06 := HN.out.free 0 6 rfl
        have k07 := HN.out.cell 0 7 rfl rfl
        have f07 := HN.out.free 0 7 rfl
        have k08 := HN.out.cell 0 8 rfl rfl
        have f08 := HN.out.free 0 8 rfl
        have k09 := HN.out.cell 0 9 rfl rfl
        have f09 := HN.out.free 0 9 rfl
        have k010 := HN.out.cell 0 10 rfl rfl
        have f010 := HN.out.free 0 10 rfl
        have k011 := HN.out.cell 0 11 rfl rfl
        have f011 := HN.out.free 0 11 rfl
        have k012 := HN.out.cell 0 12 rfl rfl
        have f012 := HN.out.free 0 12 rfl
        have k10 := HN.out.cell 1 0 rfl rfl
        have f10 := HN.out.free 1 0 rfl
        have k11 := HN.out.cell 1 1 rfl rfl
        have f11 := HN.out.free 1 1 rfl
        have k12 := HN.out.cell 1 2 rfl rfl
        have f12 := HN.out.free 1 2 rfl
        have k13 := HN.out.cell 1 3 rfl rfl
        have f13 := HN.out.free 1 3 rfl
        have k14 := HN.out.cell 1 4 rfl rfl
        have f14 := HN.out.free 1 4 rfl
        have k15 := HN.out.cell 1 5 rfl rfl
        have f15 := HN.out.free 1 5 rfl
        have k16 := HN.out.cell 1 6 rfl rfl
        have f16 := HN.out.free 1 6 rfl
        have k17 := HN.out.cell 1 7 rfl rfl
        have f17 := HN.out.free 1 7 rfl
        have k18 := HN.out.cell 1 8 rfl rfl
        have f18 := HN.out.free 1 8 rfl
        have k19 := HN.out.cell 1 9 rfl rfl
        have f19 := HN.out.free 1 9 rfl
        have k110 := HN.out.cell 1 10 rfl rfl
        have f110 := HN.out.free 1 10 rfl
        have k111 := HN.out.cell 1 11 rfl rfl
        have f111 := HN.out.free 1 11 rfl
        have k112 := HN.out.cell 1 12 rfl rfl
        have f112 := HN.out.free 1 12 rfl
        go_wp2_with fail
        clear k00 f00 k01 f01 k02 f02 k03 f03 k04 f04 k05 f05 k06 f06 k07 f07 k08 f08 k09 f09 k010 f010 k011 f011 k012 f012 k10 f10 k11 f11 k12 f12 k13 f13 k14 f14 k15 f15 k16 f16 k17 f17 k18 f18 k19 f19 k110 f110 k111 f111 k112 f112
        go_meet
        exact ⟨rfl, HN.out.only (List.Sublist.cons_cons _ (List.Sublist.cons _ List.Sublist.slnil)) (fun _ h => h)⟩
      · have e9 : (x.verb == 1) = false := beq_eq_false_iff_ne.2 h9
        clear h9
        have k00 := HN.out.cell 0 0 rfl rfl
        have f00 := HN.out.free 0 0 rfl
        have k01 := HN.out.cell 0 1 rfl rfl
        have f01 := HN.out.free 0 1 rfl
        have k02 := HN.out.cell 0 2 rfl rfl
        have f02 := HN.out.free 0 2 rfl
        have k03 := HN.out.cell 0 3 rfl rfl
        have f03 := HN.out.free 0 3 rfl
        have k04 := HN.out.cell 0 4 rfl rfl
        have f04 := HN.out.free 0 4 rfl
        have k05 := HN.out.cell 0 5 rfl rfl
        have f05 := HN.out.free 0 5 rfl
        have k06 := HN.out.cell 0 6 rfl rfl
        have f06 := HN.out.free 0 6 rfl
        have k07 := HN.out.cell 0 7 rfl rfl
        have f07 := HN.out.free 0 7 rfl
        have k08 := HN.out.cell 0 8 rfl rfl
        have f08 := HN.out.free 0 8 rfl
        have k09 := HN.out.cell 0 9 rfl rfl
        have f09 := HN.out.free 0 9 rfl
        have k010 := HN.out.cell 0 10 rfl rfl
        have f010 := HN.out.free 0 10 rfl
        have k011 := HN.out.cell 0 11 rfl rfl
        have f011 := HN.out.free 0 11 rfl
        have k012 := HN.out.cell 0 12 rfl rfl
        have f012 := HN.out.free 0 12 rfl
        have k10 := HN.out.cell 1 0 rfl rfl
        have f10 := HN.out.free 1 0 rfl
        have k11 := HN.out.cell 1 1 rfl rfl
        have f11 := HN.out.free 1 1 rfl
        have k12 := HN.out.cell 1 2 rfl rfl
        have f12 := HN.out.free 1 2 rfl
        have k13 := HN.out.cell 1 3 rfl rfl
        have f13 := HN.out.free 1 3 rfl
        have k14 := HN.out.cell 1 4 rfl rfl
        have f14 := HN.out.free 1 4 rfl
        have k15 := HN.out.cell 1 5 rfl rfl
        have f15 := HN.out.free 1 5 rfl
        have k16 := HN.out.cell 1 6 rfl rfl
        have f16 := HN.out.free 1 6 rfl
        have k17 := HN.out.cell 1 7 rfl rfl
        have f17 := HN.out.free 1 7 rfl
        have k18 := HN.out.cell 1 8 rfl rfl
        have f18 := HN.out.free 1 8 rfl
        have k19 := HN.out.cell 1 9 rfl rfl
        have f19 := HN.out.free 1 9 rfl
        have k110 := HN.out.cell 1 10 rfl rfl
        have f110 := HN.out.free 1 10 rfl
        have k111 := HN.out.cell 1 11 rfl rfl
        have f111 := HN.out.free 1 11 rfl
        have k112 := HN.out.cell 1 12 rfl rfl
        have f112 := HN.out.free 1 12 rfl
        go_wp2_with fail
        clear k00 f00 k01 f01 k02 f02 k03 f03 k04 f04 k05 f05 k06 f06 k07 f07 k08 f08 k09 f09 k010 f010 k011 f011 k012 f012 k10 f10 k11 f11 k12 f12 k13 f13 k14 f14 k15 f15 k16 f16 k17 f17 k18 f18 k19 f19 k110 f110 k111 f111 k112 f112
        go_meet
        exact ⟨rfl, HN.out.only (List.Sublist.cons_cons _ (List.Sublist.cons _ List.Sublist.slnil)) (fun _ h => h)⟩
  case rest =>
    obtain ⟨w7, rfl⟩ : ∃ w7 : World, w7 = wc := ⟨_, rfl⟩
    obtain ⟨rfl, hn0⟩ := hcut
    have HN := Lib.hid hn0
    clear hn0
    clear HO HX
    have k00 := HN.out.cell 0 0 rfl rfl
    have f00 := HN.out.free 0 0 rfl
    have k01 := HN.out.cell 0 1 rfl rfl
    have f01 := HN.out.free 0 1 rfl
    have k02 := HN.out.cell 0 2 rfl rfl
    have f02 := HN.out.free 0 2 rfl
    have k03 := HN.out.cell 0 3 rfl rfl
    have f03 := HN.out.free 0 3 rfl
    have k04 := HN.out.cell 0 4 rfl rfl
    have f04 := HN.out.free 0 4 rfl
    have k05 := HN.out.cell 0 5 rfl rfl
    have f05 := HN.out.free 0 5 rfl
    have k06 := HN.out.cell 0 6 rfl rfl
    have f06 := HN.out.free 0 6 rfl
    have k07 := HN.out.cell 0 7 rfl rfl
    have f07 := HN.out.free 0 7 rfl
    have k08 := HN.out.cell 0 8 rfl rfl
    have f08 := HN.out.free 0 8 rfl
    have k09 := HN.out.cell 0 9 rfl rfl
    have f09 := HN.out.free 0 9 rfl
    have k010 := HN.out.cell 0 10 rfl rfl
    have f010 := HN.out.free 0 10 rfl
    have k011 := HN.out.cell 0 11 rfl rfl
    have f011 := HN.out.free 0 11 rfl
    have k012 := HN.out.cell 0 12 rfl rfl
    have f012 := HN.out.free 0 12 rfl
    go_wp2_with fail
    clear k00 f00 k01 f01 k02 f02 k03 f03 k04 f04 k05 f05 k06 f06 k07 f07 k08 f08 k09 f09 k010 f010 k011 f011 k012 f012
    refine (HDB.out _ HN.out.bel).mono ?_
    rintro e w93 ⟨y, v2, rfl, ho, hok, hms, hz9, hb⟩
    replace HN := Lib.hid (HN.out.call hb)
    have HO := Lib.hid ho
    have HOK := Lib.hid hok
    have HMS := Lib.hid hms
    have HZ := Lib.hid hz9
    clear ho hok hms hz9 hb
    cases k2 with
    | false =>
      obtain ⟨T2, t2, rfl⟩ := HO.out.err
      obtain ⟨e1, e2, e3⟩ := HZ.out (by simp)
      rw [e1, e2, e3]
      clear e1 e2 e3
      have k00 := HN.out.cell 0 0 rfl rfl
      have f00 := HN.out.free 0 0 rfl
      have k01 := HN.out.cell 0 1 rfl rfl
      have f01 := HN.out.free 0 1 rfl
      have k02 := HN.out.cell 0 2 rfl rfl
      have f02 := HN.out.free 0 2 rfl
      have k03 := HN.out.cell 0 3 rfl rfl
      have f03 := HN.out.free 0 3 rfl
      have k04 := HN.out.cell 0 4 rfl rfl
      have f04 := HN.out.free 0 4 rfl
      have k05 := HN.out.cell 0 5 rfl rfl
      have f05 := HN.out.free 0 5 rfl
      have k06 := HN.out.cell 0 6 rfl rfl
      have f06 := HN.out.free 0 6 rfl
      have k07 := HN.out.cell 0 7 rfl rfl
      have f07 := HN.out.free 0 7 rfl
      have k08 := HN.out.cell 0 8 rfl rfl
      have f08 := HN.out.free 0 8 rfl
      have k09 := HN.out.cell 0 9 rfl rfl
      have f09 := HN.out.free 0 9 rfl
      have k010 := HN.out.cell 0 10 rfl rfl
      have f010 := HN.out.free 0 10 rfl
      have k011 := HN.out.cell 0 11 rfl rfl
      have f011 := HN.out.free 0 11 rfl
      have k012 := HN.out.cell 0 12 rfl rfl
      have f012 := HN.out.free 0 12 rfl
      have l0 := HN.out.lt 0 rfl
      have HP := Lib.hid (HN.out.alloc (p := w93.heap.size) rfl 50 [.int .i64 0, .string ⟨#[]⟩, .int .i64 y.ses, .int .i64 y.rig, .string y.ot, .int .i64 y.op, .int .i64 y.row, .int .i64 y.col, .int .i64 y.kind, .bool y.r.s, .slice y.r.a y.r.l y.r.c, .slice y.r.b y.r.m y.r.d, .slice y.ea 0 y.ec] rfl)
      have k00p := HP.out.cell 0 0 rfl rfl
      have f00p := HP.out.free 0 0 rfl
      have k01p := HP.out.cell 0 1 rfl rfl
      have f01p := HP.out.free 0 1 rfl
      have k02p := HP.out.cell 0 2 rfl rfl
      have f02p := HP.out.free 0 2 rfl
      have k03p := HP.out.cell 0 3 rfl rfl
      have f03p := HP.out.free 0 3 rfl
      have k04p := HP.out.cell 0 4 rfl rfl
      have f04p := HP.out.free 0 4 rfl
      have k05p := HP.out.cell 0 5 rfl rfl
      have f05p := HP.out.free 0 5 rfl
      have k06p := HP.out.cell 0 6 rfl rfl
      have f06p := HP.out.free 0 6 rfl
      have k07p := HP.out.cell 0 7 rfl rfl
      have f07p := HP.out.free 0 7 rfl
      have k08p := HP.out.cell 0 8 rfl rfl
      have f08p := HP.out.free 0 8 rfl
      have k09p := HP.out.cell 0 9 rfl rfl
      have f09p := HP.out.free 0 9 rfl
      have k010p := HP.out.cell 0 10 rfl rfl
      have f010p := HP.out.free 0 10 rfl
      have k011p := HP.out.cell 0 11 rfl rfl
      have f011p := HP.out.free 0 11 rfl
      have k012p := HP.out.cell 0 12 rfl rfl
      have f012p := HP.out.free 0 12 rfl
      have k10p := HP.out.cell 1 0 rfl rfl
      have f10p := HP.out.free 1 0 rfl
      have k11p := HP.out.cell 1 1 rfl rfl
      have f11p := HP.out.free 1 1 rfl
      have k12p := HP.out.cell 1 2 rfl rfl
      have f12p := HP.out.free 1 2 rfl
      have k13p := HP.out.cell 1 3 rfl rfl
      have f13p := HP.out.free 1 3 rfl
      have k14p := HP.out.cell 1 4 rfl rfl
      have f14p := HP.out.free 1 4 rfl
      have k15p := HP.out.cell 1 5 rfl rfl
      have f15p := HP.out.free 1 5 rfl
      have k16p := HP.out.cell 1 6 rfl rfl
      have f16p := HP.out.free 1 6 rfl
      have k17p := HP.out.cell 1 7 rfl rfl
      have f17p := HP.out.free 1 7 rfl
      have k18p := HP.out.cell 1 8 rfl rfl
      have f18p := HP.out.free 1 8 rfl
      have k19p := HP.out.cell 1 9 rfl rfl
      have f19p := HP.out.free 1 9 rfl
      have k110p := HP.out.cell 1 10 rfl rfl
      have f110p := HP.out.free 1 10 rfl
      have k111p := HP.out.cell 1 11 rfl rfl
      have f111p := HP.out.free 1 11 rfl
      have k112p := HP.out.cell 1 12 rfl rfl
      have f112p := HP.out.free 1 12 rfl
      have HE := Lib.hid (HP.out)
      go_wp2_with fail
      refine bodyPost_ret (v := .bool true) (by simp [results, Tryz.results4, go_sem, k00, k01, k02, k03, k04, k05, k06, k07, k08, k09, k010, k011, k012, k00p, k01p, k02p, k03p, k04p, k05p, k06p, k07p, k08p, k09p, k010p, k011p, k012p, k10p, k11p, k12p, k13p, k14p, k15p, k16p, k17p, k18p, k19p, k110p, k111p, k112p]) rfl ?_
      exact ⟨rfl, HP.out.bel⟩
    | true =>
      obtain rfl := HO.out.ok
      have k00 := HN.out.cell 0 0 rfl rfl
      have f00 := HN.out.free 0 0 rfl
      have k01 := HN.out.cell 0 1 rfl rfl
      have f01 := HN.out.free 0 1 rfl
      have k02 := HN.out.cell 0 2 rfl rfl
      have f02 := HN.out.free 0 2 rfl
      have k03 := HN.out.cell 0 3 rfl rfl
      have f03 := HN.out.free 0 3 rfl
      have k04 := HN.out.cell 0 4 rfl rfl
      have f04 := HN.out.free 0 4 rfl
      have k05 := HN.out.cell 0 5 rfl rfl
      have f05 := HN.out.free 0 5 rfl
      have k06 := HN.out.cell 0 6 rfl rfl
      have f06 := HN.out.free 0 6 rfl
      have k07 := HN.out.cell 0 7 rfl rfl
      have f07 := HN.out.free 0 7 rfl
      have k08 := HN.out.cell 0 8 rfl rfl
      have f08 := HN.out.free 0 8 rfl
      have k09 := HN.out.cell 0 9 rfl rfl
      have f09 := HN.out.free 0 9 rfl
      have k010 := HN.out.cell 0 10 rfl rfl
      have f010 := HN.out.free 0 10 rfl
      have k011 := HN.out.cell 0 11 rfl rfl
      have f011 := HN.out.free 0 11 rfl
      have k012 := HN.out.cell 0 12 rfl rfl
      have f012 := HN.out.free 0 12 rfl
      have l0 := HN.out.lt 0 rfl
      have HP := Lib.hid (HN.out.alloc (p := w93.heap.size) rfl 50 [.int .i64 y.verb, .string y.tk, .int .i64 y.ses, .int .i64 y.rig, .string y.ot, .int .i64 y.op, .int .i64 y.row, .int .i64 y.col, .int .i64 y.kind, .bool y.r.s, .slice y.r.a y.r.l y.r.c, .slice y.r.b y.r.m y.r.d, .slice y.ea y.en y.ec] rfl)
      have k00p := HP.out.cell 0 0 rfl rfl
      have f00p := HP.out.free 0 0 rfl
      have k01p := HP.out.cell 0 1 rfl rfl
      have f01p := HP.out.free 0 1 rfl
      have k02p := HP.out.cell 0 2 rfl rfl
      have f02p := HP.out.free 0 2 rfl
      have k03p := HP.out.cell 0 3 rfl rfl
      have f03p := HP.out.free 0 3 rfl
      have k04p := HP.out.cell 0 4 rfl rfl
      have f04p := HP.out.free 0 4 rfl
      have k05p := HP.out.cell 0 5 rfl rfl
      have f05p := HP.out.free 0 5 rfl
      have k06p := HP.out.cell 0 6 rfl rfl
      have f06p := HP.out.free 0 6 rfl
      have k07p := HP.out.cell 0 7 rfl rfl
      have f07p := HP.out.free 0 7 rfl
      have k08p := HP.out.cell 0 8 rfl rfl
      have f08p := HP.out.free 0 8 rfl
      have k09p := HP.out.cell 0 9 rfl rfl
      have f09p := HP.out.free 0 9 rfl
      have k010p := HP.out.cell 0 10 rfl rfl
      have f010p := HP.out.free 0 10 rfl
      have k011p := HP.out.cell 0 11 rfl rfl
      have f011p := HP.out.free 0 11 rfl
      have k012p := HP.out.cell 0 12 rfl rfl
      have f012p := HP.out.free 0 12 rfl
      have k10p := HP.out.cell 1 0 rfl rfl
      have f10p := HP.out.free 1 0 rfl
      have k11p := HP.out.cell 1 1 rfl rfl
      have f11p := HP.out.free 1 1 rfl
      have k12p := HP.out.cell 1 2 rfl rfl
      have f12p := HP.out.free 1 2 rfl
      have k13p := HP.out.cell 1 3 rfl rfl
      have f13p := HP.out.free 1 3 rfl
      have k14p := HP.out.cell 1 4 rfl rfl
      have f14p := HP.out.free 1 4 rfl
      have k15p := HP.out.cell 1 5 rfl rfl
      have f15p := HP.out.free 1 5 rfl
      have k16p := HP.out.cell 1 6 rfl rfl
      have f16p := HP.out.free 1 6 rfl
      have k17p := HP.out.cell 1 7 rfl rfl
      have f17p := HP.out.free 1 7 rfl
      have k18p := HP.out.cell 1 8 rfl rfl
      have f18p := HP.out.free 1 8 rfl
      have k19p := HP.out.cell 1 9 rfl rfl
      have f19p := HP.out.free 1 9 rfl
      have k110p := HP.out.cell 1 10 rfl rfl
      have f110p := HP.out.free 1 10 rfl
      have k111p := HP.out.cell 1 11 rfl rfl
      have f111p := HP.out.free 1 11 rfl
      have k112p := HP.out.cell 1 12 rfl rfl
      have f112p := HP.out.free 1 12 rfl
      go_wp2_with fail
      clear k00 f00 k01 f01 k02 f02 k03 f03 k04 f04 k05 f05 k06 f06 k07 f07 k08 f08 k09 f09 k010 f010 k011 f011 k012 f012 l0 k00p f00p k01p f01p k02p f02p k03p f03p k04p f04p k05p f05p k06p f06p k07p f07p k08p f08p k09p f09p k010p f010p k011p f011p k012p f012p k10p f10p k11p f11p k12p f12p k13p f13p k14p f14p k15p f15p k16p f16p k17p f17p k18p f18p k19p f19p k110p f110p k111p f111p k112p f112p HN
      have HN := HP
      clear HP
      replace HOK := Lib.hid (show MO (w93.alloc (.cells #[.int .i64 y.verb, .string y.tk, .int .i64 y.ses, .int .i64 y.rig, .string y.ot, .int .i64 y.op, .int .i64 y.row, .int .i64 y.col, .int .i64 y.kind, .bool y.r.s, .slice y.r.a y.r.l y.r.c, .slice y.r.b y.r.m y.r.d, .slice y.ea y.en y.ec] 50)) y from HOK.out.below (belowBox _ _) HOK.out.lt)
      generalize (w93.alloc (.cells #[.int .i64 y.verb, .string y.tk, .int .i64 y.ses, .int .i64 y.rig, .string y.ot, .int .i64 y.op, .int .i64 y.row, .int .i64 y.col, .int .i64 y.kind, .bool y.r.s, .slice y.r.a y.r.l y.r.c, .slice y.r.b y.r.m y.r.d, .slice y.ea y.en y.ec] 50)) = wa9 at HN HOK ⊢
      refine (HEB.out (by simp) _ _ HOK.out HMS.out).mono ?_
      rintro e w94 ⟨a4, c4, rfl, hsb, hb⟩
      replace HN := Lib.hid (HN.out.call hb)
      have HX := Lib.hid hsb
      clear hsb hb HOK HMS
      have hv1 := HC2.out (by simp) a4 c4 _ HX.out
      have hv2 := HC3.out (by simp) _ HN.out.bel
      have k00 := HN.out.cell 0 0 rfl rfl
      have f00 := HN.out.free 0 0 rfl
      have k01 := HN.out.cell 0 1 rfl rfl
      have f01 := HN.out.free 0 1 rfl
      have k02 := HN.out.cell 0 2 rfl rfl
      have f02 := HN.out.free 0 2 rfl
      have k03 := HN.out.cell 0 3 rfl rfl
      have f03 := HN.out.free 0 3 rfl
      have k04 := HN.out.cell 0 4 rfl rfl
      have f04 := HN.out.free 0 4 rfl
      have k05 := HN.out.cell 0 5 rfl rfl
      have f05 := HN.out.free 0 5 rfl
      have k06 := HN.out.cell 0 6 rfl rfl
      have f06 := HN.out.free 0 6 rfl
      have k07 := HN.out.cell 0 7 rfl rfl
      have f07 := HN.out.free 0 7 rfl
      have k08 := HN.out.cell 0 8 rfl rfl
      have f08 := HN.out.free 0 8 rfl
      have k09 := HN.out.cell 0 9 rfl rfl
      have f09 := HN.out.free 0 9 rfl
      have k010 := HN.out.cell 0 10 rfl rfl
      have f010 := HN.out.free 0 10 rfl
      have k011 := HN.out.cell 0 11 rfl rfl
      have f011 := HN.out.free 0 11 rfl
      have k012 := HN.out.cell 0 12 rfl rfl
      have f012 := HN.out.free 0 12 rfl
      have k10 := HN.out.cell 1 0 rfl rfl
      have f10 := HN.out.free 1 0 rfl
      have k11 := HN.out.cell 1 1 rfl rfl
      have f11 := HN.out.free 1 1 rfl
      have k12 := HN.out.cell 1 2 rfl rfl
      have f12 := HN.out.free 1 2 rfl
      have k13 := HN.out.cell 1 3 rfl rfl
      have f13 := HN.out.free 1 3 rfl
      have k14 := HN.out.cell 1 4 rfl rfl
      have f14 := HN.out.free 1 4 rfl
      have k15 := HN.out.cell 1 5 rfl rfl
      have f15 := HN.out.free 1 5 rfl
      have k16 := HN.out.cell 1 6 rfl rfl
      have f16 := HN.out.free 1 6 rfl
      have k17 := HN.out.cell 1 7 rfl rfl
      have f17 := HN.out.free 1 7 rfl
      have k18 := HN.out.cell 1 8 rfl rfl
      have f18 := HN.out.free 1 8 rfl
      have k19 := HN.out.cell 1 9 rfl rfl
      have f19 := HN.out.free 1 9 rfl
      have k110 := HN.out.cell 1 10 rfl rfl
      have f110 := HN.out.free 1 10 rfl
      have k111 := HN.out.cell 1 11 rfl rfl
      have f111 := HN.out.free 1 11 rfl
      have k112 := HN.out.cell 1 12 rfl rfl
      have f112 := HN.out.free 1 12 rfl
      have HE := Lib.hid (HN.out)
      go_wp2_with fail
      refine bodyPost_ret (v := .bool true) (by simp [results, Tryz.results4, go_sem, k00, k01, k02, k03, k04, k05, k06, k07, k08, k09, k010, k011, k012, k10, k11, k12, k13, k14, k15, k16, k17, k18, k19, k110, k111, k112]) rfl ?_
      exact ⟨rfl, HE.out.bel⟩
end Go.Proofs.YtmhainidincjhaaGreatDoor
