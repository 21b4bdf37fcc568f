/-
 The walk of the law MessageTells: what the functions answer, handed over.
 Printed by a program of this repository (wip/rf37.py).
-/
import Derived.Test.YtmhainidincjhaaGreatDoorYRf
import Derived.Test.YtmhainidincjhaaGreatDoorYG
set_option linter.unusedVariables false
set_option linter.unusedSimpArgs false
set_option maxRecDepth 100000
set_option maxHeartbeats 16000000
namespace Go.Proofs.YtmhainidincjhaaGreatDoor
open Go.RowKit Go.Extern.Stop Go.Stop Go.Extern
def MO (w : World) (y : MsgV) : Prop := y.ok w
theorem MO.lt {w : World} {y : MsgV} (_ : MO w y) : True := trivial
theorem MO.below {w w' : World} {y : MsgV} (h : MO w y) (hb : Below w.heap.size w w') (_ : True) : MO w' y := MsgV.ok.below h hb
def RO (w : World) (y : RefM) : Prop := y.ok w
theorem RO.lt {w : World} {y : RefM} (_ : RO w y) : True := trivial
theorem RO.below {w w' : World} {y : RefM} (h : RO w y) (hb : Below w.heap.size w w') (_ : True) : RO w' y := RefM.ok.below h hb
def EM (r : WS) (w : World) (v : Value) : Prop := match r with
 | .ok _ => v = .nilIface
 | .error x => ErrB w (fun _ => True) v x.1 x.2
theorem EM.lt {r : WS} {w : World} {v : Value} (_ : EM r w v) : True := trivial
theorem EM.below {r : WS} {w w' : World} {v : Value} (h : EM r w v) (hb : Below w.heap.size w w') (_ : True := trivial) : EM r w' v := by
 cases r with
 | ok l => exact h
 | error f => exact ErrB.below h hb
theorem RefM.arr (y : RefM) : y.cells.toArray = #[.int .i64 y.verb, .int .i64 y.ses, .int .i64 y.rig, .string y.tk, .string y.ot, .int .i64 y.op, .int .i64 y.row, .int .i64 y.col, .int .i64 y.kind, .bool y.qs, .slice y.qa y.qn y.qc, .slice y.qb y.qm y.qd, .slice y.ea y.en y.ec] := rfl
theorem mtells_walk (x : RawV) (m : Msg) (z : Nat) (l : List Nat) (r : WS) (fe fk : Int) (u pl : ByteArray) (w : World)
  (HAW : Hid (∀ W, Below w.heap.size w W → Calls Tryz.prog 16 #[] W (fun e w' => e = .returned (.bool true) ∧ Below W.heap.size W w')))
  (HSH : Hid (∀ W, Below w.heap.size w W → Calls Tryz.prog 17 #[.agg #[.int .i64 x.verb, .int .i64 x.ses, .int .i64 x.rig, .string x.tk, .string x.ot, .int .i64 x.op, .int .i64 x.row, .int .i64 x.col, .int .i64 x.kind, .bool x.sg, .slice x.a x.n x.c, .slice x.b x.m x.d, .slice x.ea x.en x.ec]] W (RetSh x.en W)))
  (HMK : Hid (∀ W, Below w.heap.size w W → Calls Tryz.prog 19 #[.agg #[.int .i64 x.verb, .int .i64 x.ses, .int .i64 x.rig, .string x.tk, .string x.ot, .int .i64 x.op, .int .i64 x.row, .int .i64 x.col, .int .i64 x.kind, .bool x.sg, .slice x.a x.n x.c, .slice x.b x.m x.d, .slice x.ea x.en x.ec]] W (RetMk m W)))
  (HEN : Hid (∀ y W, MO W y → y.msg = m → Calls Tryz.prog 18 #[.agg #[.int .i64 y.verb, .string y.tk, .int .i64 y.ses, .int .i64 y.rig, .string y.ot, .int .i64 y.op, .int .i64 y.row, .int .i64 y.col, .int .i64 y.kind, .bool y.r.s, .slice y.r.a y.r.l y.r.c, .slice y.r.b y.r.m y.r.d, .slice y.ea y.en y.ec]] W fun e w' => ∃ a2 c2 v, e = .returned (.tuple #[.slice a2 z c2, v]) ∧ SB w' a2 z c2 l ∧ EM r w' v ∧ Below W.heap.size W w'))
  (HRF : Hid (x.en ≤ 70 → ∀ W, Below w.heap.size w W → Calls Tryz.prog 21 #[.agg #[.int .i64 x.verb, .int .i64 x.ses, .int .i64 x.rig, .string x.tk, .string x.ot, .int .i64 x.op, .int .i64 x.row, .int .i64 x.col, .int .i64 x.kind, .bool x.sg, .slice x.a x.n x.c, .slice x.b x.m x.d, .slice x.ea x.en x.ec]] W (RetRM m W)))
  (HEF : Hid (∀ y W, RO W y → y.msg = m → Calls Tryz.prog 20 #[.agg #[.int .i64 y.verb, .int .i64 y.ses, .int .i64 y.rig, .string y.tk, .string y.ot, .int .i64 y.op, .int .i64 y.row, .int .i64 y.col, .int .i64 y.kind, .bool y.qs, .slice y.qa y.qn y.qc, .slice y.qb y.qm y.qd, .slice y.ea y.en y.ec]] W fun e w' => ∃ a3 c3, e = .returned (.tuple #[.slice a3 z c3, .int .i64 fe, .int .i64 fk]) ∧ SB w' a3 z c3 l ∧ Below W.heap.size W w'))
  (HCV : Hid (∀ a c W, SB W a z c l → (convert 32 9 (.slice a z c)).run Tryz.prog W = .ok (.string u) W))
  (HPL : Hid (∀ W, Calls Tryz.prog 23 #[.int .i64 fe] W fun e w' => e = .returned (.string pl) ∧ Below W.heap.size W w'))
  (HTO : Hid (∀ v W, Below w.heap.size w W → EM r W v → Calls Tryz.prog 22 #[v, .int .i64 fe, .string pl, .int .i64 fk] W (fun e w' => e = .returned (.bool true) ∧ Below W.heap.size W w'))) :
  Calls Tryz.prog 3 #[.agg #[.int .i64 x.verb, .int .i64 x.ses, .int .i64 x.rig, .string x.tk, .string x.ot, .int .i64 x.op, .int .i64 x.row, .int .i64 x.col, .int .i64 x.kind, .bool x.sg, .slice x.a x.n x.c, .slice x.b x.m x.d, .slice x.ea x.en x.ec]] w fun e w' => e = .returned (.bool true) ∧ Below w.heap.size w w' := by
 obtain ⟨W0, hW0⟩ : ∃ W0, W0 = (w.alloc (.cells #[.int .i64 x.verb, .int .i64 x.ses, .int .i64 x.rig, .string x.tk, .string x.ot, .int .i64 x.op, .int .i64 x.row, .int .i64 x.col, .int .i64 x.kind, .bool x.sg, .slice x.a x.n x.c, .slice x.b x.m x.d, .slice x.ea x.en x.ec] 29)) := ⟨_, rfl⟩
 have hbs : BS w [⟨w.heap.size, 29, [.int .i64 x.verb, .int .i64 x.ses, .int .i64 x.rig, .string x.tk, .string x.ot, .int .i64 x.op, .int .i64 x.row, .int .i64 x.col, .int .i64 x.kind, .bool x.sg, .slice x.a x.n x.c, .slice x.b x.m x.d, .slice x.ea x.en x.ec]⟩] [] (w.alloc (.cells #[.int .i64 x.verb, .int .i64 x.ses, .int .i64 x.rig, .string x.tk, .string x.ot, .int .i64 x.op, .int .i64 x.row, .int .i64 x.col, .int .i64 x.kind, .bool x.sg, .slice x.a x.n x.c, .slice x.b x.m x.d, .slice x.ea x.en x.ec] 29)) :=
   ((BS.start w).alloc (p := w.heap.size) rfl 29 [.int .i64 x.verb, .int .i64 x.ses, .int .i64 x.rig, .string x.tk, .string x.ot, .int .i64 x.op, .int .i64 x.row, .int .i64 x.col, .int .i64 x.kind, .bool x.sg, .slice x.a x.n x.c, .slice x.b x.m x.d, .slice x.ea x.en x.ec] rfl)
 rw [← hW0] at hbs
 have HW0 := Lib.hid hW0
 have HN := Lib.hid hbs
 clear hW0 hbs
 go_enter Tryz.func3, Tryz.ntmps3
 go_wp2_with fail
 rw [← HW0.out]
 refine (HAW.out _ HN.out.bel).mono ?_
 rintro e w1 ⟨rfl, hb⟩
 replace HN := Lib.hid (HN.out.call hb)
 clear hb 
 have ⟨k00, f00, k01, f01, k02, f02, k03, f03, k04, f04, k05, f05, k06, f06, k07, f07, k08, f08, k09, f09, k010, f010, k011, f011, k012, f012⟩ := HN.out.cf13 0 rfl
 go_wp2_with fail
 clear k00 f00 k01 f01 k02 f02 k03 f03 k04 f04 k05 f05 k06 f06 k07 f07 k08 f08 k09 f09 k010 f010 k011 f011 k012 f012
 refine (HSH.out _ HN.out.bel).mono ?_
 rintro e w70 ⟨b, rfl, hb70, hb⟩
 replace HN := Lib.hid (HN.out.call hb)
 have HB70 := Lib.hid hb70
 clear hb hb70
 cases b with
 | false =>
  have ⟨k00, f00, k01, f01, k02, f02, k03, f03, k04, f04, k05, f05, k06, f06, k07, f07, k08, f08, k09, f09, k010, f010, k011, f011, k012, f012⟩ := HN.out.cf13 0 rfl
  have HE := Lib.hid (HN.out)
  go_wp2_with fail
  refine bodyPost_ret (v := .bool true) (by simp [results, Tryz.results3, go_sem, k00, k01, k02, k03, k04, k05, k06, k07, k08, k09, k010, k011, k012]) rfl ?_
  exact ⟨rfl, HE.out.bel⟩
 | true =>
  have ⟨k00, f00, k01, f01, k02, f02, k03, f03, k04, f04, k05, f05, k06, f06, k07, f07, k08, f08, k09, f09, k010, f010, k011, f011, k012, f012⟩ := HN.out.cf13 0 rfl
  go_wp2_with fail
  clear k00 f00 k01 f01 k02 f02 k03 f03 k04 f04 k05 f05 k06 f06 k07 f07 k08 f08 k09 f09 k010 f010 k011 f011 k012 f012
  refine (HMK.out _ HN.out.bel).mono ?_
  rintro e w3 ⟨y, rfl, hok, hms, hb⟩
  replace HN := Lib.hid (HN.out.call hb)
  have HOKy := Lib.hid (show MO w3 y from hok)
  have HMSy := Lib.hid hms
  clear hb hok hms
  unfold MsgV.val
  have ⟨k00, f00, k01, f01, k02, f02, k03, f03, k04, f04, k05, f05, k06, f06, k07, f07, k08, f08, k09, f09, k010, f010, k011, f011, k012, f012⟩ := HN.out.cf13 0 rfl
  go_wp2_with fail
  clear k00 f00 k01 f01 k02 f02 k03 f03 k04 f04 k05 f05 k06 f06 k07 f07 k08 f08 k09 f09 k010 f010 k011 f011 k012 f012
  refine (HEN.out _ _ HOKy.out HMSy.out).mono ?_
  rintro e w90 ⟨a2, c2, v2, rfl, hsb, hem, hb⟩
  replace HN := Lib.hid (HN.out.call hb)
  have HX := Lib.hid hsb
  have HV := Lib.hid hem
  clear hsb hem hb HOKy HMSy
  have ⟨k00, f00, k01, f01, k02, f02, k03, f03, k04, f04, k05, f05, k06, f06, k07, f07, k08, f08, k09, f09, k010, f010, k011, f011, k012, f012⟩ := HN.out.cf13 0 rfl
  go_wp2_with fail
  clear k00 f00 k01 f01 k02 f02 k03 f03 k04 f04 k05 f05 k06 f06 k07 f07 k08 f08 k09 f09 k010 f010 k011 f011 k012 f012
  refine (HRF.out (HB70.out (by simp)) _ HN.out.bel).mono ?_
  rintro e w91 ⟨y, rfl, hok, hms, hb⟩
  replace HX := Lib.hid (show SB w91 a2 z c2 l from HX.out.below hb HX.out.lt)
  replace HV := Lib.hid (show EM r w91 v2 from HV.out.below hb HV.out.lt)
  replace HN := Lib.hid (HN.out.call hb)
  have HOK := Lib.hid (show RO w91 y from hok)
  have HMS := Lib.hid hms
  clear hb hok hms
  simp only [RefM.arr]
  have ⟨k00, f00, k01, f01, k02, f02, k03, f03, k04, f04, k05, f05, k06, f06, k07, f07, k08, f08, k09, f09, k010, f010, k011, f011, k012, f012⟩ := HN.out.cf13 0 rfl
  go_wp2_with fail
  clear k00 f00 k01 f01 k02 f02 k03 f03 k04 f04 k05 f05 k06 f06 k07 f07 k08 f08 k09 f09 k010 f010 k011 f011 k012 f012
  refine (HEF.out _ _ HOK.out HMS.out).mono ?_
  rintro e w92 ⟨a3, c3, rfl, hsb, hb⟩
  replace HX := Lib.hid (show SB w92 a2 z c2 l from HX.out.below hb HX.out.lt)
  replace HV := Lib.hid (show EM r w92 v2 from HV.out.below hb HV.out.lt)
  replace HOK := Lib.hid (show RO w92 y from HOK.out.below hb HOK.out.lt)
  replace HN := Lib.hid (HN.out.call hb)
  have HX3 := Lib.hid (show SB w92 a3 z c3 l from hsb)
  clear hsb hb HOK HMS
  have hv1 := HCV.out a2 c2 _ HX.out
  have hv2 := HCV.out a3 c3 _ HX3.out
  have ⟨k00, f00, k01, f01, k02, f02, k03, f03, k04, f04, k05, f05, k06, f06, k07, f07, k08, f08, k09, f09, k010, f010, k011, f011, k012, f012⟩ := HN.out.cf13 0 rfl
  go_wp2_with fail
  clear k00 f00 k01 f01 k02 f02 k03 f03 k04 f04 k05 f05 k06 f06 k07 f07 k08 f08 k09 f09 k010 f010 k011 f011 k012 f012
  refine (HPL.out _).mono ?_
  rintro e w7 ⟨rfl, hb⟩
  replace HX := Lib.hid (show SB w7 a2 z c2 l from HX.out.below hb HX.out.lt)
  replace HV := Lib.hid (show EM r w7 v2 from HV.out.below hb HV.out.lt)
  replace HX3 := Lib.hid (show SB w7 a3 z c3 l from HX3.out.below hb HX3.out.lt)
  replace HN := Lib.hid (HN.out.call hb)
  clear hb 
  clear hv1 hv2
  have ⟨k00, f00, k01, f01, k02, f02, k03, f03, k04, f04, k05, f05, k06, f06, k07, f07, k08, f08, k09, f09, k010, f010, k011, f011, k012, f012⟩ := HN.out.cf13 0 rfl
  go_wp2_with fail
  clear k00 f00 k01 f01 k02 f02 k03 f03 k04 f04 k05 f05 k06 f06 k07 f07 k08 f08 k09 f09 k010 f010 k011 f011 k012 f012
  refine (HTO.out _ _ HN.out.bel HV.out).mono ?_
  rintro e w8 ⟨rfl, hb⟩
  replace HX := Lib.hid (show SB w8 a2 z c2 l from HX.out.below hb HX.out.lt)
  replace HV := Lib.hid (show EM r w8 v2 from HV.out.below hb HV.out.lt)
  replace HX3 := Lib.hid (show SB w8 a3 z c3 l from HX3.out.below hb HX3.out.lt)
  replace HN := Lib.hid (HN.out.call hb)
  clear hb 
  have ⟨k00, f00, k01, f01, k02, f02, k03, f03, k04, f04, k05, f05, k06, f06, k07, f07, k08, f08, k09, f09, k010, f010, k011, f011, k012, f012⟩ := HN.out.cf13 0 rfl
  have HE := Lib.hid (HN.out)
  go_wp2_with fail
  refine bodyPost_ret (v := .bool true) (by simp [results, Tryz.results3, go_sem, k00, k01, k02, k03, k04, k05, k06, k07, k08, k09, k010, k011, k012]) rfl ?_
  exact ⟨rfl, HE.out.bel⟩
end Go.Proofs.YtmhainidincjhaaGreatDoor
