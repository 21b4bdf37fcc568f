/-
  The walks of the law MessageShort: what the functions answer, handed over.
  Printed by a program of this repository (wip/mg42.py).
-/
import Derived.Test.YtmhainidincjhaaGreatDoorHC
import Derived.Test.YtmhainidincjhaaGreatDoorHU
import Derived.Test.YtmhainidincjhaaGreatDoorHV
import Derived.Test.YtmhainidincjhaaGreatDoorHMApp
set_option linter.unusedVariables false
set_option linter.unusedSimpArgs false
set_option maxRecDepth 100000
set_option maxHeartbeats 16000000
namespace Go.Proofs.YtmhainidincjhaaGreatDoor
open Go.RowKit Go.Extern.Stop Go.Stop Go.Extern
def MO (w : World) (y : MsgV) : Prop := y.ok w
theorem MO.lt {w : World} {y : MsgV} (_ : MO w y) : True := trivial
theorem MO.below {w w' : World} {y : MsgV} (h : MO w y) (hb : Below w.heap.size w w') (_ : True) : MO w' y := MsgV.ok.below h hb
theorem YB.madeM {w W W' : World} {bs : List Bk} {ns : List Nm} {a : Option Addr} {n c : Nat} {xs : List Nat} (h : BS w bs ns W) (hm : Mid W' W.heap.size 5 1 (.slice a n c) n (xs.map BN)) (hb : Below W.heap.size W W') : YB w bs ns a n c xs W' :=
  ⟨h.call hb, hm.mono h.bel.size, fun k hk b hb2 => by have h1 := (hm.lt k hk).1; have h2 := lt_of_block (h.box b hb2).1; omega⟩
section
variable {w W W' : World} {bs : List Bk} {ns : List Nm} {a : Option Addr} {n c : Nat} {xs : List Nat}
theorem YB.cell (h : YB w bs ns a n c xs W) (i j : Nat) {b : Bk} {v : Value} (hi : bs[i]? = some b) (hj : b.cs[j]? = some v) : W.cell? ⟨b.p, j, none⟩ = some v := h.st.cell i j hi hj
theorem YB.free (h : YB w bs ns a n c xs W) (i j : Nat) {b : Bk} (hi : bs[i]? = some b) : W.frozen? ⟨b.p, j, none⟩ = false := h.st.free i j hi
theorem YB.lt (h : YB w bs ns a n c xs W) (i : Nat) {b : Bk} (hi : bs[i]? = some b) : b.p < W.heap.size := h.st.lt i hi
theorem YB.bel (h : YB w bs ns a n c xs W) : Below w.heap.size w W := h.st.bel
theorem YB.caps (h : YB w bs ns a n c xs W) : n ≤ c ∧ c ≤ 9223372036854775807 := ⟨h.bytes.len.2.1, h.bytes.len.2.2.1⟩
end
theorem EB.kept {w w' : World} {eb : Nat} {k : Int} {at9 : Nat} (h : EB w eb k at9) (hk : ∀ b j u, j < 3 → w.cell? ⟨b, j, none⟩ = some u → w'.cell? ⟨b, j, none⟩ = some u) : EB w' eb k at9 := by
  obtain ⟨b, u, e1, r1, ⟨c0, c1, c2⟩, h2⟩ := h
  refine ⟨b, u, e1, r1, ⟨hk _ _ _ (by omega) c0, hk _ _ _ (by omega) c1, hk _ _ _ (by omega) c2⟩, ?_⟩
  rcases h2 with h2 | ⟨fb, s, j, e2, r2, ⟨d0, d1, d2⟩⟩
  · exact .inl h2
  · exact .inr ⟨fb, s, j, e2, r2, ⟨hk _ _ _ (by omega) d0, hk _ _ _ (by omega) d1, hk _ _ _ (by omega) d2⟩⟩
theorem mshort_err (x : RawV) (m : Msg) (cut mb : Int) (k : Int) (at9 : Nat) (w : World)
    (HAW : Hid (∀ W, Below w.heap.size w W → Calls Tryz.prog 16 #[] W (fun e w' => e = .returned (.bool true) ∧ Below W.heap.size W w')))
    (HMK : Hid (∀ W, Below w.heap.size w W → Calls Tryz.prog 19 #[.agg #[.int .i64 x.verb, .int .i64 x.ses, .int .i64 x.rig, .string x.tk, .string x.ot, .int .i64 x.op, .int .i64 x.row, .int .i64 x.col, .int .i64 x.kind, .bool x.sg, .slice x.a x.n x.c, .slice x.b x.m x.d, .slice x.ea x.en x.ec]] W (RetMk m W)))
    (HEN : Hid (∀ y W, MO W y → y.msg = m → Calls Tryz.prog 18 #[.agg #[.int .i64 y.verb, .string y.tk, .int .i64 y.ses, .int .i64 y.rig, .string y.ot, .int .i64 y.op, .int .i64 y.row, .int .i64 y.col, .int .i64 y.kind, .bool y.r.s, .slice y.r.a y.r.l y.r.c, .slice y.r.b y.r.m y.r.d, .slice y.ea y.en y.ec]] W fun e w' => ∃ eb, e = .returned (.tuple #[.slice none 0 0, .iface 211 (.pointer (some ⟨eb, 0, none⟩))]) ∧ EB w' eb k at9 ∧ Below W.heap.size W w'))
    (HI1 : Hid (∀ eb W, EB W eb k at9 → Calls Tryz.prog 39 #[.iface 211 (.pointer (some ⟨eb, 0, none⟩)), .iface 52 (.int .i64 270)] W (fun e w' => e = .returned (.bool true) ∧ Below W.heap.size W w'))) :
    Calls Tryz.prog 9 #[.agg #[.int .i64 x.verb, .int .i64 x.ses, .int .i64 x.rig, .string x.tk, .string x.ot, .int .i64 x.op, .int .i64 x.row, .int .i64 x.col, .int .i64 x.kind, .bool x.sg, .slice x.a x.n x.c, .slice x.b x.m x.d, .slice x.ea x.en x.ec], .int .u16 cut, .int .u8 mb] w fun e w' => e = .returned (.bool true) ∧ Below w.heap.size w w' := by
  obtain ⟨W0, hW0⟩ : ∃ W0, W0 = (w.alloc (.cells #[.int .i64 x.verb, .int .i64 x.ses, .int .i64 x.rig, .string x.tk, .string x.ot, .int .i64 x.op, .int .i64 x.row, .int .i64 x.col, .int .i64 x.kind, .bool x.sg, .slice x.a x.n x.c, .slice x.b x.m x.d, .slice x.ea x.en x.ec] 29)) := ⟨_, rfl⟩
  have hbs : BS w [⟨w.heap.size, 29, [.int .i64 x.verb, .int .i64 x.ses, .int .i64 x.rig, .string x.tk, .string x.ot, .int .i64 x.op, .int .i64 x.row, .int .i64 x.col, .int .i64 x.kind, .bool x.sg, .slice x.a x.n x.c, .slice x.b x.m x.d, .slice x.ea x.en x.ec]⟩] [] (w.alloc (.cells #[.int .i64 x.verb, .int .i64 x.ses, .int .i64 x.rig, .string x.tk, .string x.ot, .int .i64 x.op, .int .i64 x.row, .int .i64 x.col, .int .i64 x.kind, .bool x.sg, .slice x.a x.n x.c, .slice x.b x.m x.d, .slice x.ea x.en x.ec] 29)) :=
      ((BS.start w).alloc (p := w.heap.size) rfl 29 [.int .i64 x.verb, .int .i64 x.ses, .int .i64 x.rig, .string x.tk, .string x.ot, .int .i64 x.op, .int .i64 x.row, .int .i64 x.col, .int .i64 x.kind, .bool x.sg, .slice x.a x.n x.c, .slice x.b x.m x.d, .slice x.ea x.en x.ec] rfl)
  rw [← hW0] at hbs
  have HW0 := Lib.hid hW0
  have HN := Lib.hid hbs
  clear hW0 hbs
  go_enter Tryz.func9, Tryz.ntmps9
  go_wp2_with fail
  rw [← HW0.out]
  refine (HAW.out _ HN.out.bel).mono ?_
  rintro e w1 ⟨rfl, hb⟩
  replace HN := Lib.hid (HN.out.call hb)
  clear hb 
  have k00 := HN.out.cell 0 0 rfl rfl
  have f00 := HN.out.free 0 0 rfl
  have k01 := HN.out.cell 0 1 rfl rfl
  have f01 := HN.out.free 0 1 rfl
  have k02 := HN.out.cell 0 2 rfl rfl
  have f02 := HN.out.free 0 2 rfl
  have k03 := HN.out.cell 0 3 rfl rfl
  have f03 := HN.out.free 0 3 rfl
  have k04 := HN.out.cell 0 4 rfl rfl
  have f04 := HN.out.free 0 4 rfl
  have k05 := HN.out.cell 0 5 rfl rfl
  have f05 := HN.out.free 0 5 rfl
  have k06 := HN.out.cell 0 6 rfl rfl
  have f06 := HN.out.free 0 6 rfl
  have k07 := HN.out.cell 0 7 rfl rfl
  have f07 := HN.out.free 0 7 rfl
  have k08 := HN.out.cell 0 8 rfl rfl
  have f08 := HN.out.free 0 8 rfl
  have k09 := HN.out.cell 0 9 rfl rfl
  have f09 := HN.out.free 0 9 rfl
  have k010 := HN.out.cell 0 10 rfl rfl
  have f010 := HN.out.free 0 10 rfl
  have k011 := HN.out.cell 0 11 rfl rfl
  have f011 := HN.out.free 0 11 rfl
  have k012 := HN.out.cell 0 12 rfl rfl
  have f012 := HN.out.free 0 12 rfl
  go_wp2_with fail
  clear k00 f00 k01 f01 k02 f02 k03 f03 k04 f04 k05 f05 k06 f06 k07 f07 k08 f08 k09 f09 k010 f010 k011 f011 k012 f012
  refine (HMK.out _ HN.out.bel).mono ?_
  rintro e w2 ⟨y, rfl, hok, hms, hb⟩
  replace HN := Lib.hid (HN.out.call hb)
  have HOKy := Lib.hid (show MO w2 y from hok)
  have HMSy := Lib.hid hms
  clear hb hok hms
  unfold MsgV.val
  have k00 := HN.out.cell 0 0 rfl rfl
  have f00 := HN.out.free 0 0 rfl
  have k01 := HN.out.cell 0 1 rfl rfl
  have f01 := HN.out.free 0 1 rfl
  have k02 := HN.out.cell 0 2 rfl rfl
  have f02 := HN.out.free 0 2 rfl
  have k03 := HN.out.cell 0 3 rfl rfl
  have f03 := HN.out.free 0 3 rfl
  have k04 := HN.out.cell 0 4 rfl rfl
  have f04 := HN.out.free 0 4 rfl
  have k05 := HN.out.cell 0 5 rfl rfl
  have f05 := HN.out.free 0 5 rfl
  have k06 := HN.out.cell 0 6 rfl rfl
  have f06 := HN.out.free 0 6 rfl
  have k07 := HN.out.cell 0 7 rfl rfl
  have f07 := HN.out.free 0 7 rfl
  have k08 := HN.out.cell 0 8 rfl rfl
  have f08 := HN.out.free 0 8 rfl
  have k09 := HN.out.cell 0 9 rfl rfl
  have f09 := HN.out.free 0 9 rfl
  have k010 := HN.out.cell 0 10 rfl rfl
  have f010 := HN.out.free 0 10 rfl
  have k011 := HN.out.cell 0 11 rfl rfl
  have f011 := HN.out.free 0 11 rfl
  have k012 := HN.out.cell 0 12 rfl rfl
  have f012 := HN.out.free 0 12 rfl
  go_wp2_with fail
  clear k00 f00 k01 f01 k02 f02 k03 f03 k04 f04 k05 f05 k06 f06 k07 f07 k08 f08 k09 f09 k010 f010 k011 f011 k012 f012
  refine (HEN.out _ _ HOKy.out HMSy.out).mono ?_
  rintro e w3 ⟨eb, rfl, hf, hb⟩
  replace HOKy := Lib.hid (show MO w3 y from HOKy.out.below hb HOKy.out.lt)
  replace HN := Lib.hid (HN.out.call hb)
  have HE1 := Lib.hid hf
  clear hb hf
  clear HOKy
  have k00 := HN.out.cell 0 0 rfl rfl
  have f00 := HN.out.free 0 0 rfl
  have k01 := HN.out.cell 0 1 rfl rfl
  have f01 := HN.out.free 0 1 rfl
  have k02 := HN.out.cell 0 2 rfl rfl
  have f02 := HN.out.free 0 2 rfl
  have k03 := HN.out.cell 0 3 rfl rfl
  have f03 := HN.out.free 0 3 rfl
  have k04 := HN.out.cell 0 4 rfl rfl
  have f04 := HN.out.free 0 4 rfl
  have k05 := HN.out.cell 0 5 rfl rfl
  have f05 := HN.out.free 0 5 rfl
  have k06 := HN.out.cell 0 6 rfl rfl
  have f06 := HN.out.free 0 6 rfl
  have k07 := HN.out.cell 0 7 rfl rfl
  have f07 := HN.out.free 0 7 rfl
  have k08 := HN.out.cell 0 8 rfl rfl
  have f08 := HN.out.free 0 8 rfl
  have k09 := HN.out.cell 0 9 rfl rfl
  have f09 := HN.out.free 0 9 rfl
  have k010 := HN.out.cell 0 10 rfl rfl
  have f010 := HN.out.free 0 10 rfl
  have k011 := HN.out.cell 0 11 rfl rfl
  have f011 := HN.out.free 0 11 rfl
  have k012 := HN.out.cell 0 12 rfl rfl
  have f012 := HN.out.free 0 12 rfl
  go_wp2_with fail
  clear k00 f00 k01 f01 k02 f02 k03 f03 k04 f04 k05 f05 k06 f06 k07 f07 k08 f08 k09 f09 k010 f010 k011 f011 k012 f012
  refine (HI1.out _ _ HE1.out).mono ?_
  rintro e w4 ⟨rfl, hb⟩
  replace HE1 := Lib.hid (show EB w4 eb k at9 from HE1.out.below hb HE1.out.lt)
  replace HN := Lib.hid (HN.out.call hb)
  clear hb 
  have k00 := HN.out.cell 0 0 rfl rfl
  have f00 := HN.out.free 0 0 rfl
  have k01 := HN.out.cell 0 1 rfl rfl
  have f01 := HN.out.free 0 1 rfl
  have k02 := HN.out.cell 0 2 rfl rfl
  have f02 := HN.out.free 0 2 rfl
  have k03 := HN.out.cell 0 3 rfl rfl
  have f03 := HN.out.free 0 3 rfl
  have k04 := HN.out.cell 0 4 rfl rfl
  have f04 := HN.out.free 0 4 rfl
  have k05 := HN.out.cell 0 5 rfl rfl
  have f05 := HN.out.free 0 5 rfl
  have k06 := HN.out.cell 0 6 rfl rfl
  have f06 := HN.out.free 0 6 rfl
  have k07 := HN.out.cell 0 7 rfl rfl
  have f07 := HN.out.free 0 7 rfl
  have k08 := HN.out.cell 0 8 rfl rfl
  have f08 := HN.out.free 0 8 rfl
  have k09 := HN.out.cell 0 9 rfl rfl
  have f09 := HN.out.free 0 9 rfl
  have k010 := HN.out.cell 0 10 rfl rfl
  have f010 := HN.out.free 0 10 rfl
  have k011 := HN.out.cell 0 11 rfl rfl
  have f011 := HN.out.free 0 11 rfl
  have k012 := HN.out.cell 0 12 rfl rfl
  have f012 := HN.out.free 0 12 rfl
  have HE := Lib.hid (HN.out)
  go_wp2_with fail
  refine bodyPost_ret (v := .bool true) (by simp [results, Tryz.results9, go_sem, k00, k01, k02, k03, k04, k05, k06, k07, k08, k09, k010, k011, k012]) rfl ?_
  exact ⟨rfl, HE.out.bel⟩
theorem mshort_big (x : RawV) (m : Msg) (cut mb : Int) (k : Int) (at9 : Nat) (w : World)
    (HAW : Hid (∀ W, Below w.heap.size w W → Calls Tryz.prog 16 #[] W (fun e w' => e = .returned (.bool true) ∧ Below W.heap.size W w')))
    (HMK : Hid (∀ W, Below w.heap.size w W → Calls Tryz.prog 19 #[.agg #[.int .i64 x.verb, .int .i64 x.ses, .int .i64 x.rig, .string x.tk, .string x.ot, .int .i64 x.op, .int .i64 x.row, .int .i64 x.col, .int .i64 x.kind, .bool x.sg, .slice x.a x.n x.c, .slice x.b x.m x.d, .slice x.ea x.en x.ec]] W (RetMk m W)))
    (HEN : Hid (∀ y W, MO W y → y.msg = m → Calls Tryz.prog 18 #[.agg #[.int .i64 y.verb, .string y.tk, .int .i64 y.ses, .int .i64 y.rig, .string y.ot, .int .i64 y.op, .int .i64 y.row, .int .i64 y.col, .int .i64 y.kind, .bool y.r.s, .slice y.r.a y.r.l y.r.c, .slice y.r.b y.r.m y.r.d, .slice y.ea y.en y.ec]] W fun e w' => ∃ eb, e = .returned (.tuple #[.slice none 0 0, .iface 211 (.pointer (some ⟨eb, 0, none⟩))]) ∧ EB w' eb k at9 ∧ Below W.heap.size W w'))
    (HI1 : Hid (∀ eb W, EB W eb k at9 → Calls Tryz.prog 39 #[.iface 211 (.pointer (some ⟨eb, 0, none⟩)), .iface 52 (.int .i64 270)] W (fun e w' => e = .returned (.bool false) ∧ Below W.heap.size W w')))
    (HI2 : Hid (∀ eb W, EB W eb k at9 → Calls Tryz.prog 39 #[.iface 211 (.pointer (some ⟨eb, 0, none⟩)), .iface 52 (.int .i64 3)] W (fun e w' => e = .returned (.bool true) ∧ Below W.heap.size W w'))) :
    Calls Tryz.prog 9 #[.agg #[.int .i64 x.verb, .int .i64 x.ses, .int .i64 x.rig, .string x.tk, .string x.ot, .int .i64 x.op, .int .i64 x.row, .int .i64 x.col, .int .i64 x.kind, .bool x.sg, .slice x.a x.n x.c, .slice x.b x.m x.d, .slice x.ea x.en x.ec], .int .u16 cut, .int .u8 mb] w fun e w' => e = .returned (.bool true) ∧ Below w.heap.size w w' := by
  obtain ⟨W0, hW0⟩ : ∃ W0, W0 = (w.alloc (.cells #[.int .i64 x.verb, .int .i64 x.ses, .int .i64 x.rig, .string x.tk, .string x.ot, .int .i64 x.op, .int .i64 x.row, .int .i64 x.col, .int .i64 x.kind, .bool x.sg, .slice x.a x.n x.c, .slice x.b x.m x.d, .slice x.ea x.en x.ec] 29)) := ⟨_, rfl⟩
  have hbs : BS w [⟨w.heap.size, 29, [.int .i64 x.verb, .int .i64 x.ses, .int .i64 x.rig, .string x.tk, .string x.ot, .int .i64 x.op, .int .i64 x.row, .int .i64 x.col, .int .i64 x.kind, .bool x.sg, .slice x.a x.n x.c, .slice x.b x.m x.d, .slice x.ea x.en x.ec]⟩] [] (w.alloc (.cells #[.int .i64 x.verb, .int .i64 x.ses, .int .i64 x.rig, .string x.tk, .string x.ot, .int .i64 x.op, .int .i64 x.row, .int .i64 x.col, .int .i64 x.kind, .bool x.sg, .slice x.a x.n x.c, .slice x.b x.m x.d, .slice x.ea x.en x.ec] 29)) :=
      ((BS.start w).alloc (p := w.heap.size) rfl 29 [.int .i64 x.verb, .int .i64 x.ses, .int .i64 x.rig, .string x.tk, .string x.ot, .int .i64 x.op, .int .i64 x.row, .int .i64 x.col, .int .i64 x.kind, .bool x.sg, .slice x.a x.n x.c, .slice x.b x.m x.d, .slice x.ea x.en x.ec] rfl)
  rw [← hW0] at hbs
  have HW0 := Lib.hid hW0
  have HN := Lib.hid hbs
  clear hW0 hbs
  go_enter Tryz.func9, Tryz.ntmps9
  go_wp2_with fail
  rw [← HW0.out]
  refine (HAW.out _ HN.out.bel).mono ?_
  rintro e w1 ⟨rfl, hb⟩
  replace HN := Lib.hid (HN.out.call hb)
  clear hb 
  have k00 := HN.out.cell 0 0 rfl rfl
  have f00 := HN.out.free 0 0 rfl
  have k01 := HN.out.cell 0 1 rfl rfl
  have f01 := HN.out.free 0 1 rfl
  have k02 := HN.out.cell 0 2 rfl rfl
  have f02 := HN.out.free 0 2 rfl
  have k03 := HN.out.cell 0 3 rfl rfl
  have f03 := HN.out.free 0 3 rfl
  have k04 := HN.out.cell 0 4 rfl rfl
  have f04 := HN.out.free 0 4 rfl
  have k05 := HN.out.cell 0 5 rfl rfl
  have f05 := HN.out.free 0 5 rfl
  have k06 := HN.out.cell 0 6 rfl rfl
  have f06 := HN.out.free 0 6 rfl
  have k07 := HN.out.cell 0 7 rfl rfl
  have f07 := HN.out.free 0 7 rfl
  have k08 := HN.out.cell 0 8 rfl rfl
  have f08 := HN.out.free 0 8 rfl
  have k09 := HN.out.cell 0 9 rfl rfl
  have f09 := HN.out.free 0 9 rfl
  have k010 := HN.out.cell 0 10 rfl rfl
  have f010 := HN.out.free 0 10 rfl
  have k011 := HN.out.cell 0 11 rfl rfl
  have f011 := HN.out.free 0 11 rfl
  have k012 := HN.out.cell 0 12 rfl rfl
  have f012 := HN.out.free 0 12 rfl
  go_wp2_with fail
  clear k00 f00 k01 f01 k02 f02 k03 f03 k04 f04 k05 f05 k06 f06 k07 f07 k08 f08 k09 f09 k010 f010 k011 f011 k012 f012
  refine (HMK.out _ HN.out.bel).mono ?_
  rintro e w2 ⟨y, rfl, hok, hms, hb⟩
  replace HN := Lib.hid (HN.out.call hb)
  have HOKy := Lib.hid (show MO w2 y from hok)
  have HMSy := Lib.hid hms
  clear hb hok hms
  unfold MsgV.val
  have k00 := HN.out.cell 0 0 rfl rfl
  have f00 := HN.out.free 0 0 rfl
  have k01 := HN.out.cell 0 1 rfl rfl
  have f01 := HN.out.free 0 1 rfl
  have k02 := HN.out.cell 0 2 rfl rfl
  have f02 := HN.out.free 0 2 rfl
  have k03 := HN.out.cell 0 3 rfl rfl
  have f03 := HN.out.free 0 3 rfl
  have k04 := HN.out.cell 0 4 rfl rfl
  have f04 := HN.out.free 0 4 rfl
  have k05 := HN.out.cell 0 5 rfl rfl
  have f05 := HN.out.free 0 5 rfl
  have k06 := HN.out.cell 0 6 rfl rfl
  have f06 := HN.out.free 0 6 rfl
  have k07 := HN.out.cell 0 7 rfl rfl
  have f07 := HN.out.free 0 7 rfl
  have k08 := HN.out.cell 0 8 rfl rfl
  have f08 := HN.out.free 0 8 rfl
  have k09 := HN.out.cell 0 9 rfl rfl
  have f09 := HN.out.free 0 9 rfl
  have k010 := HN.out.cell 0 10 rfl rfl
  have f010 := HN.out.free 0 10 rfl
  have k011 := HN.out.cell 0 11 rfl rfl
  have f011 := HN.out.free 0 11 rfl
  have k012 := HN.out.cell 0 12 rfl rfl
  have f012 := HN.out.free 0 12 rfl
  go_wp2_with fail
  clear k00 f00 k01 f01 k02 f02 k03 f03 k04 f04 k05 f05 k06 f06 k07 f07 k08 f08 k09 f09 k010 f010 k011 f011 k012 f012
  refine (HEN.out _ _ HOKy.out HMSy.out).mono ?_
  rintro e w3 ⟨eb, rfl, hf, hb⟩
  replace HOKy := Lib.hid (show MO w3 y from HOKy.out.below hb HOKy.out.lt)
  replace HN := Lib.hid (HN.out.call hb)
  have HE1 := Lib.hid hf
  clear hb hf
  clear HOKy
  have k00 := HN.out.cell 0 0 rfl rfl
  have f00 := HN.out.free 0 0 rfl
  have k01 := HN.out.cell 0 1 rfl rfl
  have f01 := HN.out.free 0 1 rfl
  have k02 := HN.out.cell 0 2 rfl rfl
  have f02 := HN.out.free 0 2 rfl
  have k03 := HN.out.cell 0 3 rfl rfl
  have f03 := HN.out.free 0 3 rfl
  have k04 := HN.out.cell 0 4 rfl rfl
  have f04 := HN.out.free 0 4 rfl
  have k05 := HN.out.cell 0 5 rfl rfl
  have f05 := HN.out.free 0 5 rfl
  have k06 := HN.out.cell 0 6 rfl rfl
  have f06 := HN.out.free 0 6 rfl
  have k07 := HN.out.cell 0 7 rfl rfl
  have f07 := HN.out.free 0 7 rfl
  have k08 := HN.out.cell 0 8 rfl rfl
  have f08 := HN.out.free 0 8 rfl
  have k09 := HN.out.cell 0 9 rfl rfl
  have f09 := HN.out.free 0 9 rfl
  have k010 := HN.out.cell 0 10 rfl rfl
  have f010 := HN.out.free 0 10 rfl
  have k011 := HN.out.cell 0 11 rfl rfl
  have f011 := HN.out.free 0 11 rfl
  have k012 := HN.out.cell 0 12 rfl rfl
  have f012 := HN.out.free 0 12 rfl
  go_wp2_with fail
  clear k00 f00 k01 f01 k02 f02 k03 f03 k04 f04 k05 f05 k06 f06 k07 f07 k08 f08 k09 f09 k010 f010 k011 f011 k012 f012
  refine (HI1.out _ _ HE1.out).mono ?_
  rintro e w4 ⟨rfl, hb⟩
  replace HE1 := Lib.hid (show EB w4 eb k at9 from HE1.out.below hb HE1.out.lt)
  replace HN := Lib.hid (HN.out.call hb)
  clear hb 
  have k00 := HN.out.cell 0 0 rfl rfl
  have f00 := HN.out.free 0 0 rfl
  have k01 := HN.out.cell 0 1 rfl rfl
  have f01 := HN.out.free 0 1 rfl
  have k02 := HN.out.cell 0 2 rfl rfl
  have f02 := HN.out.free 0 2 rfl
  have k03 := HN.out.cell 0 3 rfl rfl
  have f03 := HN.out.free 0 3 rfl
  have k04 := HN.out.cell 0 4 rfl rfl
  have f04 := HN.out.free 0 4 rfl
  have k05 := HN.out.cell 0 5 rfl rfl
  have f05 := HN.out.free 0 5 rfl
  have k06 := HN.out.cell 0 6 rfl rfl
  have f06 := HN.out.free 0 6 rfl
  have k07 := HN.out.cell 0 7 rfl rfl
  have f07 := HN.out.free 0 7 rfl
  have k08 := HN.out.cell 0 8 rfl rfl
  have f08 := HN.out.free 0 8 rfl
  have k09 := HN.out.cell 0 9 rfl rfl
  have f09 := HN.out.free 0 9 rfl
  have k010 := HN.out.cell 0 10 rfl rfl
  have f010 := HN.out.free 0 10 rfl
  have k011 := HN.out.cell 0 11 rfl rfl
  have f011 := HN.out.free 0 11 rfl
  have k012 := HN.out.cell 0 12 rfl rfl
  have f012 := HN.out.free 0 12 rfl
  go_wp2_with fail
  clear k00 f00 k01 f01 k02 f02 k03 f03 k04 f04 k05 f05 k06 f06 k07 f07 k08 f08 k09 f09 k010 f010 k011 f011 k012 f012
  refine (HI2.out _ _ HE1.out).mono ?_
  rintro e w5 ⟨rfl, hb⟩
  replace HE1 := Lib.hid (show EB w5 eb k at9 from HE1.out.below hb HE1.out.lt)
  replace HN := Lib.hid (HN.out.call hb)
  clear hb 
  have k00 := HN.out.cell 0 0 rfl rfl
  have f00 := HN.out.free 0 0 rfl
  have k01 := HN.out.cell 0 1 rfl rfl
  have f01 := HN.out.free 0 1 rfl
  have k02 := HN.out.cell 0 2 rfl rfl
  have f02 := HN.out.free 0 2 rfl
  have k03 := HN.out.cell 0 3 rfl rfl
  have f03 := HN.out.free 0 3 rfl
  have k04 := HN.out.cell 0 4 rfl rfl
  have f04 := HN.out.free 0 4 rfl
  have k05 := HN.out.cell 0 5 rfl rfl
  have f05 := HN.out.free 0 5 rfl
  have k06 := HN.out.cell 0 6 rfl rfl
  have f06 := HN.out.free 0 6 rfl
  have k07 := HN.out.cell 0 7 rfl rfl
  have f07 := HN.out.free 0 7 rfl
  have k08 := HN.out.cell 0 8 rfl rfl
  have f08 := HN.out.free 0 8 rfl
  have k09 := HN.out.cell 0 9 rfl rfl
  have f09 := HN.out.free 0 9 rfl
  have k010 := HN.out.cell 0 10 rfl rfl
  have f010 := HN.out.free 0 10 rfl
  have k011 := HN.out.cell 0 11 rfl rfl
  have f011 := HN.out.free 0 11 rfl
  have k012 := HN.out.cell 0 12 rfl rfl
  have f012 := HN.out.free 0 12 rfl
  have HE := Lib.hid (HN.out)
  go_wp2_with fail
  refine bodyPost_ret (v := .bool true) (by simp [results, Tryz.results9, go_sem, k00, k01, k02, k03, k04, k05, k06, k07, k08, k09, k010, k011, k012]) rfl ?_
  exact ⟨rfl, HE.out.bel⟩
theorem mshort_ok (x : RawV) (m : Msg) (cut : Int) (z : Nat) (l : List Nat) (mb k at1 : Nat) (hy0 : 0 ≤ cut) (hy1 : cut ≤ 65535) (hz0 : 3 ≤ z) (hzs : z ≤ 1099511627776) (hkz : k < z) (hk : cut % (z : Int) = (k : Int)) (w : World) (HG : Hid (Hg w))
    (HAW : Hid (∀ W, Below w.heap.size w W → Calls Tryz.prog 16 #[] W (fun e w' => e = .returned (.bool true) ∧ Below W.heap.size W w')))
    (HMK : Hid (∀ W, Below w.heap.size w W → Calls Tryz.prog 19 #[.agg #[.int .i64 x.verb, .int .i64 x.ses, .int .i64 x.rig, .string x.tk, .string x.ot, .int .i64 x.op, .int .i64 x.row, .int .i64 x.col, .int .i64 x.kind, .bool x.sg, .slice x.a x.n x.c, .slice x.b x.m x.d, .slice x.ea x.en x.ec]] W (RetMk m W)))
    (HEN : Hid (∀ y W, MO W y → y.msg = m → Calls Tryz.prog 18 #[.agg #[.int .i64 y.verb, .string y.tk, .int .i64 y.ses, .int .i64 y.rig, .string y.ot, .int .i64 y.op, .int .i64 y.row, .int .i64 y.col, .int .i64 y.kind, .bool y.r.s, .slice y.r.a y.r.l y.r.c, .slice y.r.b y.r.m y.r.d, .slice y.ea y.en y.ec]] W fun e w' => ∃ a2 c2, e = .returned (.tuple #[.slice a2 z c2, .nilIface]) ∧ Mid w' W.heap.size 5 1 (.slice a2 z c2) z (l.map BN) ∧ Below W.heap.size W w'))
    (HD1 : Hid (∀ a2 c2 W, BytesN W (.slice a2 z c2) l → Calls Tryz.prog 24 #[.slice a2 k c2] W fun e w' => ∃ eb, e = .returned (.tuple #[.agg #[.int .i64 0, .string ⟨#[]⟩, .int .i64 0, .int .i64 0, .string ⟨#[]⟩, .int .i64 0, .int .i64 0, .int .i64 0, .int .i64 0, .bool false, .slice none 0 0, .slice none 0 0, .slice none 0 0], .iface 211 (.pointer (some ⟨eb, 0, none⟩))]) ∧ EB w' eb 90 at1 ∧ Below W.heap.size W w'))
    (HD2 : Hid (∀ a2 c2 W, BytesN W (.slice a2 (z + 1) c2) (l ++ [mb]) → Calls Tryz.prog 24 #[.slice a2 (z + 1) c2] W fun e w' => ∃ eb, e = .returned (.tuple #[.agg #[.int .i64 0, .string ⟨#[]⟩, .int .i64 0, .int .i64 0, .string ⟨#[]⟩, .int .i64 0, .int .i64 0, .int .i64 0, .int .i64 0, .bool false, .slice none 0 0, .slice none 0 0, .slice none 0 0], .iface 211 (.pointer (some ⟨eb, 0, none⟩))]) ∧ EB w' eb 270 z ∧ Below W.heap.size W w'))
    (HI1 : Hid (∀ eb W, EB W eb 90 at1 → Calls Tryz.prog 39 #[.iface 211 (.pointer (some ⟨eb, 0, none⟩)), .iface 52 (.int .i64 90)] W (fun e w' => e = .returned (.bool true) ∧ Below W.heap.size W w')))
    (HT1 : Hid (∀ eb W, Hg W → EB W eb 270 z → Calls Tryz.prog 22 #[.iface 211 (.pointer (some ⟨eb, 0, none⟩)), .int .i64 270, .string ⟨#[98, 121, 116, 101]⟩, .int .i64 z] W (fun e w' => e = .returned (.bool true) ∧ Below W.heap.size W w')))
    (HB1 : Hid (∀ eb W, EB W eb 90 at1 → Calls Tryz.prog 40 #[.iface 211 (.pointer (some ⟨eb, 0, none⟩))] W (fun e w' => e = .returned (.bool true) ∧ Below W.heap.size W w')))
    (HB2 : Hid (∀ eb W, EB W eb 270 z → Calls Tryz.prog 40 #[.iface 211 (.pointer (some ⟨eb, 0, none⟩))] W (fun e w' => e = .returned (.bool true) ∧ Below W.heap.size W w'))) :
    Calls Tryz.prog 9 #[.agg #[.int .i64 x.verb, .int .i64 x.ses, .int .i64 x.rig, .string x.tk, .string x.ot, .int .i64 x.op, .int .i64 x.row, .int .i64 x.col, .int .i64 x.kind, .bool x.sg, .slice x.a x.n x.c, .slice x.b x.m x.d, .slice x.ea x.en x.ec], .int .u16 cut, .int .u8 mb] w fun e w' => e = .returned (.bool true) ∧ Below w.heap.size w w' := by
  obtain ⟨i0, hi, hz0, hz1, hz2⟩ := info_parts Tryz.info_bytes
  obtain ⟨W0, hW0⟩ : ∃ W0, W0 = (w.alloc (.cells #[.int .i64 x.verb, .int .i64 x.ses, .int .i64 x.rig, .string x.tk, .string x.ot, .int .i64 x.op, .int .i64 x.row, .int .i64 x.col, .int .i64 x.kind, .bool x.sg, .slice x.a x.n x.c, .slice x.b x.m x.d, .slice x.ea x.en x.ec] 29)) := ⟨_, rfl⟩
  have hbs : BS w [⟨w.heap.size, 29, [.int .i64 x.verb, .int .i64 x.ses, .int .i64 x.rig, .string x.tk, .string x.ot, .int .i64 x.op, .int .i64 x.row, .int .i64 x.col, .int .i64 x.kind, .bool x.sg, .slice x.a x.n x.c, .slice x.b x.m x.d, .slice x.ea x.en x.ec]⟩] [] (w.alloc (.cells #[.int .i64 x.verb, .int .i64 x.ses, .int .i64 x.rig, .string x.tk, .string x.ot, .int .i64 x.op, .int .i64 x.row, .int .i64 x.col, .int .i64 x.kind, .bool x.sg, .slice x.a x.n x.c, .slice x.b x.m x.d, .slice x.ea x.en x.ec] 29)) :=
      ((BS.start w).alloc (p := w.heap.size) rfl 29 [.int .i64 x.verb, .int .i64 x.ses, .int .i64 x.rig, .string x.tk, .string x.ot, .int .i64 x.op, .int .i64 x.row, .int .i64 x.col, .int .i64 x.kind, .bool x.sg, .slice x.a x.n x.c, .slice x.b x.m x.d, .slice x.ea x.en x.ec] rfl)
  rw [← hW0] at hbs
  have HW0 := Lib.hid hW0
  have HN := Lib.hid hbs
  clear hW0 hbs
  replace HG := Lib.hid (show Hg W0 from HG.out.below HN.out.bel HG.out.lt)
  go_enter Tryz.func9, Tryz.ntmps9
  go_wp2_with fail
  rw [← HW0.out]
  refine (HAW.out _ HN.out.bel).mono ?_
  rintro e w1 ⟨rfl, hb⟩
  replace HG := Lib.hid (show Hg w1 from HG.out.below hb HG.out.lt)
  replace HN := Lib.hid (HN.out.call hb)
  clear hb 
  have k00 := HN.out.cell 0 0 rfl rfl
  have f00 := HN.out.free 0 0 rfl
  have k01 := HN.out.cell 0 1 rfl rfl
  have f01 := HN.out.free 0 1 rfl
  have k02 := HN.out.cell 0 2 rfl rfl
  have f02 := HN.out.free 0 2 rfl
  have k03 := HN.out.cell 0 3 rfl rfl
  have f03 := HN.out.free 0 3 rfl
  have k04 := HN.out.cell 0 4 rfl rfl
  have f04 := HN.out.free 0 4 rfl
  have k05 := HN.out.cell 0 5 rfl rfl
  have f05 := HN.out.free 0 5 rfl
  have k06 := HN.out.cell 0 6 rfl rfl
  have f06 := HN.out.free 0 6 rfl
  have k07 := HN.out.cell 0 7 rfl rfl
  have f07 := HN.out.free 0 7 rfl
  have k08 := HN.out.cell 0 8 rfl rfl
  have f08 := HN.out.free 0 8 rfl
  have k09 := HN.out.cell 0 9 rfl rfl
  have f09 := HN.out.free 0 9 rfl
  have k010 := HN.out.cell 0 10 rfl rfl
  have f010 := HN.out.free 0 10 rfl
  have k011 := HN.out.cell 0 11 rfl rfl
  have f011 := HN.out.free 0 11 rfl
  have k012 := HN.out.cell 0 12 rfl rfl
  have f012 := HN.out.free 0 12 rfl
  go_wp2_with fail
  clear k00 f00 k01 f01 k02 f02 k03 f03 k04 f04 k05 f05 k06 f06 k07 f07 k08 f08 k09 f09 k010 f010 k011 f011 k012 f012
  refine (HMK.out _ HN.out.bel).mono ?_
  rintro e w2 ⟨y, rfl, hok, hms, hb⟩
  replace HG := Lib.hid (show Hg w2 from HG.out.below hb HG.out.lt)
  replace HN := Lib.hid (HN.out.call hb)
  have HOKy := Lib.hid (show MO w2 y from hok)
  have HMSy := Lib.hid hms
  clear hb hok hms
  unfold MsgV.val
  have k00 := HN.out.cell 0 0 rfl rfl
  have f00 := HN.out.free 0 0 rfl
  have k01 := HN.out.cell 0 1 rfl rfl
  have f01 := HN.out.free 0 1 rfl
  have k02 := HN.out.cell 0 2 rfl rfl
  have f02 := HN.out.free 0 2 rfl
  have k03 := HN.out.cell 0 3 rfl rfl
  have f03 := HN.out.free 0 3 rfl
  have k04 := HN.out.cell 0 4 rfl rfl
  have f04 := HN.out.free 0 4 rfl
  have k05 := HN.out.cell 0 5 rfl rfl
  have f05 := HN.out.free 0 5 rfl
  have k06 := HN.out.cell 0 6 rfl rfl
  have f06 := HN.out.free 0 6 rfl
  have k07 := HN.out.cell 0 7 rfl rfl
  have f07 := HN.out.free 0 7 rfl
  have k08 := HN.out.cell 0 8 rfl rfl
  have f08 := HN.out.free 0 8 rfl
  have k09 := HN.out.cell 0 9 rfl rfl
  have f09 := HN.out.free 0 9 rfl
  have k010 := HN.out.cell 0 10 rfl rfl
  have f010 := HN.out.free 0 10 rfl
  have k011 := HN.out.cell 0 11 rfl rfl
  have f011 := HN.out.free 0 11 rfl
  have k012 := HN.out.cell 0 12 rfl rfl
  have f012 := HN.out.free 0 12 rfl
  go_wp2_with fail
  clear k00 f00 k01 f01 k02 f02 k03 f03 k04 f04 k05 f05 k06 f06 k07 f07 k08 f08 k09 f09 k010 f010 k011 f011 k012 f012
  refine (HEN.out _ _ HOKy.out HMSy.out).mono ?_
  rintro e w90 ⟨a2, c2, rfl, hm, hb⟩
  replace HG := Lib.hid (HG.out.below hb HG.out.lt)
  replace HN := Lib.hid (YB.madeM HN.out hm hb)
  clear hm hb HOKy HMSy
  have hz := HN.out.caps
  have k00 := HN.out.cell 0 0 rfl rfl
  have f00 := HN.out.free 0 0 rfl
  have k01 := HN.out.cell 0 1 rfl rfl
  have f01 := HN.out.free 0 1 rfl
  have k02 := HN.out.cell 0 2 rfl rfl
  have f02 := HN.out.free 0 2 rfl
  have k03 := HN.out.cell 0 3 rfl rfl
  have f03 := HN.out.free 0 3 rfl
  have k04 := HN.out.cell 0 4 rfl rfl
  have f04 := HN.out.free 0 4 rfl
  have k05 := HN.out.cell 0 5 rfl rfl
  have f05 := HN.out.free 0 5 rfl
  have k06 := HN.out.cell 0 6 rfl rfl
  have f06 := HN.out.free 0 6 rfl
  have k07 := HN.out.cell 0 7 rfl rfl
  have f07 := HN.out.free 0 7 rfl
  have k08 := HN.out.cell 0 8 rfl rfl
  have f08 := HN.out.free 0 8 rfl
  have k09 := HN.out.cell 0 9 rfl rfl
  have f09 := HN.out.free 0 9 rfl
  have k010 := HN.out.cell 0 10 rfl rfl
  have f010 := HN.out.free 0 10 rfl
  have k011 := HN.out.cell 0 11 rfl rfl
  have f011 := HN.out.free 0 11 rfl
  have k012 := HN.out.cell 0 12 rfl rfl
  have f012 := HN.out.free 0 12 rfl
  go_wp2_with fail
  clear k00 f00 k01 f01 k02 f02 k03 f03 k04 f04 k05 f05 k06 f06 k07 f07 k08 f08 k09 f09 k010 f010 k011 f011 k012 f012
  refine (HD1.out _ _ _ HN.out.bytes).mono ?_
  rintro e w4 ⟨eb, rfl, hf, hb⟩
  replace HG := Lib.hid (show Hg w4 from HG.out.below hb HG.out.lt)
  replace HN := Lib.hid (HN.out.call hb)
  have HE1 := Lib.hid hf
  clear hb hf
  clear hz
  have k00 := HN.out.cell 0 0 rfl rfl
  have f00 := HN.out.free 0 0 rfl
  have k01 := HN.out.cell 0 1 rfl rfl
  have f01 := HN.out.free 0 1 rfl
  have k02 := HN.out.cell 0 2 rfl rfl
  have f02 := HN.out.free 0 2 rfl
  have k03 := HN.out.cell 0 3 rfl rfl
  have f03 := HN.out.free 0 3 rfl
  have k04 := HN.out.cell 0 4 rfl rfl
  have f04 := HN.out.free 0 4 rfl
  have k05 := HN.out.cell 0 5 rfl rfl
  have f05 := HN.out.free 0 5 rfl
  have k06 := HN.out.cell 0 6 rfl rfl
  have f06 := HN.out.free 0 6 rfl
  have k07 := HN.out.cell 0 7 rfl rfl
  have f07 := HN.out.free 0 7 rfl
  have k08 := HN.out.cell 0 8 rfl rfl
  have f08 := HN.out.free 0 8 rfl
  have k09 := HN.out.cell 0 9 rfl rfl
  have f09 := HN.out.free 0 9 rfl
  have k010 := HN.out.cell 0 10 rfl rfl
  have f010 := HN.out.free 0 10 rfl
  have k011 := HN.out.cell 0 11 rfl rfl
  have f011 := HN.out.free 0 11 rfl
  have k012 := HN.out.cell 0 12 rfl rfl
  have f012 := HN.out.free 0 12 rfl
  have l0 := HN.out.lt 0 rfl
  have HP := Lib.hid (HN.out.alloc (p := w4.heap.size) rfl 50 [.int .i64 0, .string ⟨#[]⟩, .int .i64 0, .int .i64 0, .string ⟨#[]⟩, .int .i64 0, .int .i64 0, .int .i64 0, .int .i64 0, .bool false, .slice none 0 0, .slice none 0 0, .slice none 0 0] rfl)
  have k00p := HP.out.cell 0 0 rfl rfl
  have f00p := HP.out.free 0 0 rfl
  have k01p := HP.out.cell 0 1 rfl rfl
  have f01p := HP.out.free 0 1 rfl
  have k02p := HP.out.cell 0 2 rfl rfl
  have f02p := HP.out.free 0 2 rfl
  have k03p := HP.out.cell 0 3 rfl rfl
  have f03p := HP.out.free 0 3 rfl
  have k04p := HP.out.cell 0 4 rfl rfl
  have f04p := HP.out.free 0 4 rfl
  have k05p := HP.out.cell 0 5 rfl rfl
  have f05p := HP.out.free 0 5 rfl
  have k06p := HP.out.cell 0 6 rfl rfl
  have f06p := HP.out.free 0 6 rfl
  have k07p := HP.out.cell 0 7 rfl rfl
  have f07p := HP.out.free 0 7 rfl
  have k08p := HP.out.cell 0 8 rfl rfl
  have f08p := HP.out.free 0 8 rfl
  have k09p := HP.out.cell 0 9 rfl rfl
  have f09p := HP.out.free 0 9 rfl
  have k010p := HP.out.cell 0 10 rfl rfl
  have f010p := HP.out.free 0 10 rfl
  have k011p := HP.out.cell 0 11 rfl rfl
  have f011p := HP.out.free 0 11 rfl
  have k012p := HP.out.cell 0 12 rfl rfl
  have f012p := HP.out.free 0 12 rfl
  have k10p := HP.out.cell 1 0 rfl rfl
  have f10p := HP.out.free 1 0 rfl
  have k11p := HP.out.cell 1 1 rfl rfl
  have f11p := HP.out.free 1 1 rfl
  have k12p := HP.out.cell 1 2 rfl rfl
  have f12p := HP.out.free 1 2 rfl
  have k13p := HP.out.cell 1 3 rfl rfl
  have f13p := HP.out.free 1 3 rfl
  have k14p := HP.out.cell 1 4 rfl rfl
  have f14p := HP.out.free 1 4 rfl
  have k15p := HP.out.cell 1 5 rfl rfl
  have f15p := HP.out.free 1 5 rfl
  have k16p := HP.out.cell 1 6 rfl rfl
  have f16p := HP.out.free 1 6 rfl
  have k17p := HP.out.cell 1 7 rfl rfl
  have f17p := HP.out.free 1 7 rfl
  have k18p := HP.out.cell 1 8 rfl rfl
  have f18p := HP.out.free 1 8 rfl
  have k19p := HP.out.cell 1 9 rfl rfl
  have f19p := HP.out.free 1 9 rfl
  have k110p := HP.out.cell 1 10 rfl rfl
  have f110p := HP.out.free 1 10 rfl
  have k111p := HP.out.cell 1 11 rfl rfl
  have f111p := HP.out.free 1 11 rfl
  have k112p := HP.out.cell 1 12 rfl rfl
  have f112p := HP.out.free 1 12 rfl
  go_upto_region 7 with fail
  clear k00 f00 k01 f01 k02 f02 k03 f03 k04 f04 k05 f05 k06 f06 k07 f07 k08 f08 k09 f09 k010 f010 k011 f011 k012 f012 l0 k00p f00p k01p f01p k02p f02p k03p f03p k04p f04p k05p f05p k06p f06p k07p f07p k08p f08p k09p f09p k010p f010p k011p f011p k012p f012p k10p f10p k11p f11p k12p f12p k13p f13p k14p f14p k15p f15p k16p f16p k17p f17p k18p f18p k19p f19p k110p f110p k111p f111p k112p f112p HN
  have HN := HP
  clear HP
  replace HG := Lib.hid (show Hg (w4.alloc (.cells #[.int .i64 0, .string ⟨#[]⟩, .int .i64 0, .int .i64 0, .string ⟨#[]⟩, .int .i64 0, .int .i64 0, .int .i64 0, .int .i64 0, .bool false, .slice none 0 0, .slice none 0 0, .slice none 0 0] 50)) from HG.out.below (belowBox _ _) HG.out.lt)
  replace HE1 := Lib.hid (show EB (w4.alloc (.cells #[.int .i64 0, .string ⟨#[]⟩, .int .i64 0, .int .i64 0, .string ⟨#[]⟩, .int .i64 0, .int .i64 0, .int .i64 0, .int .i64 0, .bool false, .slice none 0 0, .slice none 0 0, .slice none 0 0] 50)) eb 90 at1 from HE1.out.below (belowBox _ _) HE1.out.lt)
  generalize (w4.alloc (.cells #[.int .i64 0, .string ⟨#[]⟩, .int .i64 0, .int .i64 0, .string ⟨#[]⟩, .int .i64 0, .int .i64 0, .int .i64 0, .int .i64 0, .bool false, .slice none 0 0, .slice none 0 0, .slice none 0 0] 50)) = wa5 at HN HG HE1 ⊢
  have HM3 := Lib.hid (HN.out.mid.alloc (.cells #[.int .u8 mb] 5))
  have HS3 := Lib.hid ((Sl.lit wa5 5 1 1 [BN mb] (by unfold maxLen; omega) rfl).src (P := Tryz.prog) Tryz.underlying32 (one_BN [mb]))
  have HW3 := Lib.hid (Nat.le_trans HN.out.st.bel.size (belowBox wa5 (.cells #[.int .u8 mb] 5)).size)
  have HB3 := Lib.hid (belowBox wa5 (.cells #[.int .u8 mb] 5))
  go_wp2_with (at_builtin; refine wpList_append_keep (v := .slice a2 z c2) rfl _ _ 32 32 rfl i0 (.int .u8 0) 1 Tryz.underlying32 hi hz0 hz1 hz2 rfl rfl HM3.out _ rfl 1 _ HS3.out (by unfold maxLen; omega) (by omega) HW3.out ?_; intro a5 c5 w5 hmo hgo hbo hke; have HP := Lib.hid (show YB _ _ _ a5 (z + 1) c5 (l ++ [mb]) w5 from HN.out.push (ys := [mb]) hmo hgo hbo); have HKS := Lib.hid hke; clear hmo hgo hbo hke; go_wp2_with fail)
  replace HG := Lib.hid (show Hg w5 from HKS.out _ _ _ (by omega) (show Hg _ from HG.out.below HB3.out HG.out.lt))
  replace HE1 := Lib.hid (show EB w5 eb 90 at1 from EB.kept (HE1.out.below HB3.out HE1.out.lt) fun b j u hj hc => HKS.out b j u (by omega) hc)
  clear HN HM3 HS3 HW3 HB3 HKS
  have HN := HP
  clear HP
  refine (HD2.out _ _ _ HN.out.bytes).mono ?_
  rintro e w15 ⟨ec, rfl, hf, hb⟩
  replace HG := Lib.hid (show Hg w15 from HG.out.below hb HG.out.lt)
  replace HE1 := Lib.hid (show EB w15 eb 90 at1 from HE1.out.below hb HE1.out.lt)
  replace HN := Lib.hid (HN.out.call hb)
  have HE2 := Lib.hid hf
  clear hb hf
  have k00 := HN.out.cell 0 0 rfl rfl
  have f00 := HN.out.free 0 0 rfl
  have k01 := HN.out.cell 0 1 rfl rfl
  have f01 := HN.out.free 0 1 rfl
  have k02 := HN.out.cell 0 2 rfl rfl
  have f02 := HN.out.free 0 2 rfl
  have k03 := HN.out.cell 0 3 rfl rfl
  have f03 := HN.out.free 0 3 rfl
  have k04 := HN.out.cell 0 4 rfl rfl
  have f04 := HN.out.free 0 4 rfl
  have k05 := HN.out.cell 0 5 rfl rfl
  have f05 := HN.out.free 0 5 rfl
  have k06 := HN.out.cell 0 6 rfl rfl
  have f06 := HN.out.free 0 6 rfl
  have k07 := HN.out.cell 0 7 rfl rfl
  have f07 := HN.out.free 0 7 rfl
  have k08 := HN.out.cell 0 8 rfl rfl
  have f08 := HN.out.free 0 8 rfl
  have k09 := HN.out.cell 0 9 rfl rfl
  have f09 := HN.out.free 0 9 rfl
  have k010 := HN.out.cell 0 10 rfl rfl
  have f010 := HN.out.free 0 10 rfl
  have k011 := HN.out.cell 0 11 rfl rfl
  have f011 := HN.out.free 0 11 rfl
  have k012 := HN.out.cell 0 12 rfl rfl
  have f012 := HN.out.free 0 12 rfl
  have l0 := HN.out.lt 0 rfl
  have k10 := HN.out.cell 1 0 rfl rfl
  have f10 := HN.out.free 1 0 rfl
  have k11 := HN.out.cell 1 1 rfl rfl
  have f11 := HN.out.free 1 1 rfl
  have k12 := HN.out.cell 1 2 rfl rfl
  have f12 := HN.out.free 1 2 rfl
  have k13 := HN.out.cell 1 3 rfl rfl
  have f13 := HN.out.free 1 3 rfl
  have k14 := HN.out.cell 1 4 rfl rfl
  have f14 := HN.out.free 1 4 rfl
  have k15 := HN.out.cell 1 5 rfl rfl
  have f15 := HN.out.free 1 5 rfl
  have k16 := HN.out.cell 1 6 rfl rfl
  have f16 := HN.out.free 1 6 rfl
  have k17 := HN.out.cell 1 7 rfl rfl
  have f17 := HN.out.free 1 7 rfl
  have k18 := HN.out.cell 1 8 rfl rfl
  have f18 := HN.out.free 1 8 rfl
  have k19 := HN.out.cell 1 9 rfl rfl
  have f19 := HN.out.free 1 9 rfl
  have k110 := HN.out.cell 1 10 rfl rfl
  have f110 := HN.out.free 1 10 rfl
  have k111 := HN.out.cell 1 11 rfl rfl
  have f111 := HN.out.free 1 11 rfl
  have k112 := HN.out.cell 1 12 rfl rfl
  have f112 := HN.out.free 1 12 rfl
  have l1 := HN.out.lt 1 rfl
  have HP := Lib.hid (HN.out.alloc (p := w15.heap.size) rfl 50 [.int .i64 0, .string ⟨#[]⟩, .int .i64 0, .int .i64 0, .string ⟨#[]⟩, .int .i64 0, .int .i64 0, .int .i64 0, .int .i64 0, .bool false, .slice none 0 0, .slice none 0 0, .slice none 0 0] rfl)
  have k00p := HP.out.cell 0 0 rfl rfl
  have f00p := HP.out.free 0 0 rfl
  have k01p := HP.out.cell 0 1 rfl rfl
  have f01p := HP.out.free 0 1 rfl
  have k02p := HP.out.cell 0 2 rfl rfl
  have f02p := HP.out.free 0 2 rfl
  have k03p := HP.out.cell 0 3 rfl rfl
  have f03p := HP.out.free 0 3 rfl
  have k04p := HP.out.cell 0 4 rfl rfl
  have f04p := HP.out.free 0 4 rfl
  have k05p := HP.out.cell 0 5 rfl rfl
  have f05p := HP.out.free 0 5 rfl
  have k06p := HP.out.cell 0 6 rfl rfl
  have f06p := HP.out.free 0 6 rfl
  have k07p := HP.out.cell 0 7 rfl rfl
  have f07p := HP.out.free 0 7 rfl
  have k08p := HP.out.cell 0 8 rfl rfl
  have f08p := HP.out.free 0 8 rfl
  have k09p := HP.out.cell 0 9 rfl rfl
  have f09p := HP.out.free 0 9 rfl
  have k010p := HP.out.cell 0 10 rfl rfl
  have f010p := HP.out.free 0 10 rfl
  have k011p := HP.out.cell 0 11 rfl rfl
  have f011p := HP.out.free 0 11 rfl
  have k012p := HP.out.cell 0 12 rfl rfl
  have f012p := HP.out.free 0 12 rfl
  have k10p := HP.out.cell 1 0 rfl rfl
  have f10p := HP.out.free 1 0 rfl
  have k11p := HP.out.cell 1 1 rfl rfl
  have f11p := HP.out.free 1 1 rfl
  have k12p := HP.out.cell 1 2 rfl rfl
  have f12p := HP.out.free 1 2 rfl
  have k13p := HP.out.cell 1 3 rfl rfl
  have f13p := HP.out.free 1 3 rfl
  have k14p := HP.out.cell 1 4 rfl rfl
  have f14p := HP.out.free 1 4 rfl
  have k15p := HP.out.cell 1 5 rfl rfl
  have f15p := HP.out.free 1 5 rfl
  have k16p := HP.out.cell 1 6 rfl rfl
  have f16p := HP.out.free 1 6 rfl
  have k17p := HP.out.cell 1 7 rfl rfl
  have f17p := HP.out.free 1 7 rfl
  have k18p := HP.out.cell 1 8 rfl rfl
  have f18p := HP.out.free 1 8 rfl
  have k19p := HP.out.cell 1 9 rfl rfl
  have f19p := HP.out.free 1 9 rfl
  have k110p := HP.out.cell 1 10 rfl rfl
  have f110p := HP.out.free 1 10 rfl
  have k111p := HP.out.cell 1 11 rfl rfl
  have f111p := HP.out.free 1 11 rfl
  have k112p := HP.out.cell 1 12 rfl rfl
  have f112p := HP.out.free 1 12 rfl
  have k20p := HP.out.cell 2 0 rfl rfl
  have f20p := HP.out.free 2 0 rfl
  have k21p := HP.out.cell 2 1 rfl rfl
  have f21p := HP.out.free 2 1 rfl
  have k22p := HP.out.cell 2 2 rfl rfl
  have f22p := HP.out.free 2 2 rfl
  have k23p := HP.out.cell 2 3 rfl rfl
  have f23p := HP.out.free 2 3 rfl
  have k24p := HP.out.cell 2 4 rfl rfl
  have f24p := HP.out.free 2 4 rfl
  have k25p := HP.out.cell 2 5 rfl rfl
  have f25p := HP.out.free 2 5 rfl
  have k26p := HP.out.cell 2 6 rfl rfl
  have f26p := HP.out.free 2 6 rfl
  have k27p := HP.out.cell 2 7 rfl rfl
  have f27p := HP.out.free 2 7 rfl
  have k28p := HP.out.cell 2 8 rfl rfl
  have f28p := HP.out.free 2 8 rfl
  have k29p := HP.out.cell 2 9 rfl rfl
  have f29p := HP.out.free 2 9 rfl
  have k210p := HP.out.cell 2 10 rfl rfl
  have f210p := HP.out.free 2 10 rfl
  have k211p := HP.out.cell 2 11 rfl rfl
  have f211p := HP.out.free 2 11 rfl
  have k212p := HP.out.cell 2 12 rfl rfl
  have f212p := HP.out.free 2 12 rfl
  go_wp2_with fail
  clear k00 f00 k01 f01 k02 f02 k03 f03 k04 f04 k05 f05 k06 f06 k07 f07 k08 f08 k09 f09 k010 f010 k011 f011 k012 f012 l0 k10 f10 k11 f11 k12 f12 k13 f13 k14 f14 k15 f15 k16 f16 k17 f17 k18 f18 k19 f19 k110 f110 k111 f111 k112 f112 l1 k00p f00p k01p f01p k02p f02p k03p f03p k04p f04p k05p f05p k06p f06p k07p f07p k08p f08p k09p f09p k010p f010p k011p f011p k012p f012p k10p f10p k11p f11p k12p f12p k13p f13p k14p f14p k15p f15p k16p f16p k17p f17p k18p f18p k19p f19p k110p f110p k111p f111p k112p f112p k20p f20p k21p f21p k22p f22p k23p f23p k24p f24p k25p f25p k26p f26p k27p f27p k28p f28p k29p f29p k210p f210p k211p f211p k212p f212p HN
  have HN := HP
  clear HP
  replace HG := Lib.hid (show Hg (w15.alloc (.cells #[.int .i64 0, .string ⟨#[]⟩, .int .i64 0, .int .i64 0, .string ⟨#[]⟩, .int .i64 0, .int .i64 0, .int .i64 0, .int .i64 0, .bool false, .slice none 0 0, .slice none 0 0, .slice none 0 0] 50)) from HG.out.below (belowBox _ _) HG.out.lt)
  replace HE1 := Lib.hid (show EB (w15.alloc (.cells #[.int .i64 0, .string ⟨#[]⟩, .int .i64 0, .int .i64 0, .string ⟨#[]⟩, .int .i64 0, .int .i64 0, .int .i64 0, .int .i64 0, .bool false, .slice none 0 0, .slice none 0 0, .slice none 0 0] 50)) eb 90 at1 from HE1.out.below (belowBox _ _) HE1.out.lt)
  replace HE2 := Lib.hid (show EB (w15.alloc (.cells #[.int .i64 0, .string ⟨#[]⟩, .int .i64 0, .int .i64 0, .string ⟨#[]⟩, .int .i64 0, .int .i64 0, .int .i64 0, .int .i64 0, .bool false, .slice none 0 0, .slice none 0 0, .slice none 0 0] 50)) ec 270 z from HE2.out.below (belowBox _ _) HE2.out.lt)
  generalize (w15.alloc (.cells #[.int .i64 0, .string ⟨#[]⟩, .int .i64 0, .int .i64 0, .string ⟨#[]⟩, .int .i64 0, .int .i64 0, .int .i64 0, .int .i64 0, .bool false, .slice none 0 0, .slice none 0 0, .slice none 0 0] 50)) = wa16 at HN HG HE1 HE2 ⊢
  refine (HI1.out _ _ HE1.out).mono ?_
  rintro e w17 ⟨rfl, hb⟩
  replace HG := Lib.hid (show Hg w17 from HG.out.below hb HG.out.lt)
  replace HE1 := Lib.hid (show EB w17 eb 90 at1 from HE1.out.below hb HE1.out.lt)
  replace HE2 := Lib.hid (show EB w17 ec 270 z from HE2.out.below hb HE2.out.lt)
  replace HN := Lib.hid (HN.out.call hb)
  clear hb 
  have k00 := HN.out.cell 0 0 rfl rfl
  have f00 := HN.out.free 0 0 rfl
  have k01 := HN.out.cell 0 1 rfl rfl
  have f01 := HN.out.free 0 1 rfl
  have k02 := HN.out.cell 0 2 rfl rfl
  have f02 := HN.out.free 0 2 rfl
  have k03 := HN.out.cell 0 3 rfl rfl
  have f03 := HN.out.free 0 3 rfl
  have k04 := HN.out.cell 0 4 rfl rfl
  have f04 := HN.out.free 0 4 rfl
  have k05 := HN.out.cell 0 5 rfl rfl
  have f05 := HN.out.free 0 5 rfl
  have k06 := HN.out.cell 0 6 rfl rfl
  have f06 := HN.out.free 0 6 rfl
  have k07 := HN.out.cell 0 7 rfl rfl
  have f07 := HN.out.free 0 7 rfl
  have k08 := HN.out.cell 0 8 rfl rfl
  have f08 := HN.out.free 0 8 rfl
  have k09 := HN.out.cell 0 9 rfl rfl
  have f09 := HN.out.free 0 9 rfl
  have k010 := HN.out.cell 0 10 rfl rfl
  have f010 := HN.out.free 0 10 rfl
  have k011 := HN.out.cell 0 11 rfl rfl
  have f011 := HN.out.free 0 11 rfl
  have k012 := HN.out.cell 0 12 rfl rfl
  have f012 := HN.out.free 0 12 rfl
  have k10 := HN.out.cell 1 0 rfl rfl
  have f10 := HN.out.free 1 0 rfl
  have k11 := HN.out.cell 1 1 rfl rfl
  have f11 := HN.out.free 1 1 rfl
  have k12 := HN.out.cell 1 2 rfl rfl
  have f12 := HN.out.free 1 2 rfl
  have k13 := HN.out.cell 1 3 rfl rfl
  have f13 := HN.out.free 1 3 rfl
  have k14 := HN.out.cell 1 4 rfl rfl
  have f14 := HN.out.free 1 4 rfl
  have k15 := HN.out.cell 1 5 rfl rfl
  have f15 := HN.out.free 1 5 rfl
  have k16 := HN.out.cell 1 6 rfl rfl
  have f16 := HN.out.free 1 6 rfl
  have k17 := HN.out.cell 1 7 rfl rfl
  have f17 := HN.out.free 1 7 rfl
  have k18 := HN.out.cell 1 8 rfl rfl
  have f18 := HN.out.free 1 8 rfl
  have k19 := HN.out.cell 1 9 rfl rfl
  have f19 := HN.out.free 1 9 rfl
  have k110 := HN.out.cell 1 10 rfl rfl
  have f110 := HN.out.free 1 10 rfl
  have k111 := HN.out.cell 1 11 rfl rfl
  have f111 := HN.out.free 1 11 rfl
  have k112 := HN.out.cell 1 12 rfl rfl
  have f112 := HN.out.free 1 12 rfl
  have k20 := HN.out.cell 2 0 rfl rfl
  have f20 := HN.out.free 2 0 rfl
  have k21 := HN.out.cell 2 1 rfl rfl
  have f21 := HN.out.free 2 1 rfl
  have k22 := HN.out.cell 2 2 rfl rfl
  have f22 := HN.out.free 2 2 rfl
  have k23 := HN.out.cell 2 3 rfl rfl
  have f23 := HN.out.free 2 3 rfl
  have k24 := HN.out.cell 2 4 rfl rfl
  have f24 := HN.out.free 2 4 rfl
  have k25 := HN.out.cell 2 5 rfl rfl
  have f25 := HN.out.free 2 5 rfl
  have k26 := HN.out.cell 2 6 rfl rfl
  have f26 := HN.out.free 2 6 rfl
  have k27 := HN.out.cell 2 7 rfl rfl
  have f27 := HN.out.free 2 7 rfl
  have k28 := HN.out.cell 2 8 rfl rfl
  have f28 := HN.out.free 2 8 rfl
  have k29 := HN.out.cell 2 9 rfl rfl
  have f29 := HN.out.free 2 9 rfl
  have k210 := HN.out.cell 2 10 rfl rfl
  have f210 := HN.out.free 2 10 rfl
  have k211 := HN.out.cell 2 11 rfl rfl
  have f211 := HN.out.free 2 11 rfl
  have k212 := HN.out.cell 2 12 rfl rfl
  have f212 := HN.out.free 2 12 rfl
  go_wp2_with fail
  clear k00 f00 k01 f01 k02 f02 k03 f03 k04 f04 k05 f05 k06 f06 k07 f07 k08 f08 k09 f09 k010 f010 k011 f011 k012 f012 k10 f10 k11 f11 k12 f12 k13 f13 k14 f14 k15 f15 k16 f16 k17 f17 k18 f18 k19 f19 k110 f110 k111 f111 k112 f112 k20 f20 k21 f21 k22 f22 k23 f23 k24 f24 k25 f25 k26 f26 k27 f27 k28 f28 k29 f29 k210 f210 k211 f211 k212 f212
  refine (HT1.out _ _ HG.out HE2.out).mono ?_
  rintro e w18 ⟨rfl, hb⟩
  replace HG := Lib.hid (show Hg w18 from HG.out.below hb HG.out.lt)
  replace HE1 := Lib.hid (show EB w18 eb 90 at1 from HE1.out.below hb HE1.out.lt)
  replace HE2 := Lib.hid (show EB w18 ec 270 z from HE2.out.below hb HE2.out.lt)
  replace HN := Lib.hid (HN.out.call hb)
  clear hb 
  have k00 := HN.out.cell 0 0 rfl rfl
  have f00 := HN.out.free 0 0 rfl
  have k01 := HN.out.cell 0 1 rfl rfl
  have f01 := HN.out.free 0 1 rfl
  have k02 := HN.out.cell 0 2 rfl rfl
  have f02 := HN.out.free 0 2 rfl
  have k03 := HN.out.cell 0 3 rfl rfl
  have f03 := HN.out.free 0 3 rfl
  have k04 := HN.out.cell 0 4 rfl rfl
  have f04 := HN.out.free 0 4 rfl
  have k05 := HN.out.cell 0 5 rfl rfl
  have f05 := HN.out.free 0 5 rfl
  have k06 := HN.out.cell 0 6 rfl rfl
  have f06 := HN.out.free 0 6 rfl
  have k07 := HN.out.cell 0 7 rfl rfl
  have f07 := HN.out.free 0 7 rfl
  have k08 := HN.out.cell 0 8 rfl rfl
  have f08 := HN.out.free 0 8 rfl
  have k09 := HN.out.cell 0 9 rfl rfl
  have f09 := HN.out.free 0 9 rfl
  have k010 := HN.out.cell 0 10 rfl rfl
  have f010 := HN.out.free 0 10 rfl
  have k011 := HN.out.cell 0 11 rfl rfl
  have f011 := HN.out.free 0 11 rfl
  have k012 := HN.out.cell 0 12 rfl rfl
  have f012 := HN.out.free 0 12 rfl
  have k10 := HN.out.cell 1 0 rfl rfl
  have f10 := HN.out.free 1 0 rfl
  have k11 := HN.out.cell 1 1 rfl rfl
  have f11 := HN.out.free 1 1 rfl
  have k12 := HN.out.cell 1 2 rfl rfl
  have f12 := HN.out.free 1 2 rfl
  have k13 := HN.out.cell 1 3 rfl rfl
  have f13 := HN.out.free 1 3 rfl
  have k14 := HN.out.cell 1 4 rfl rfl
  have f14 := HN.out.free 1 4 rfl
  have k15 := HN.out.cell 1 5 rfl rfl
  have f15 := HN.out.free 1 5 rfl
  have k16 := HN.out.cell 1 6 rfl rfl
  have f16 := HN.out.free 1 6 rfl
  have k17 := HN.out.cell 1 7 rfl rfl
  have f17 := HN.out.free 1 7 rfl
  have k18 := HN.out.cell 1 8 rfl rfl
  have f18 := HN.out.free 1 8 rfl
  have k19 := HN.out.cell 1 9 rfl rfl
  have f19 := HN.out.free 1 9 rfl
  have k110 := HN.out.cell 1 10 rfl rfl
  have f110 := HN.out.free 1 10 rfl
  have k111 := HN.out.cell 1 11 rfl rfl
  have f111 := HN.out.free 1 11 rfl
  have k112 := HN.out.cell 1 12 rfl rfl
  have f112 := HN.out.free 1 12 rfl
  have k20 := HN.out.cell 2 0 rfl rfl
  have f20 := HN.out.free 2 0 rfl
  have k21 := HN.out.cell 2 1 rfl rfl
  have f21 := HN.out.free 2 1 rfl
  have k22 := HN.out.cell 2 2 rfl rfl
  have f22 := HN.out.free 2 2 rfl
  have k23 := HN.out.cell 2 3 rfl rfl
  have f23 := HN.out.free 2 3 rfl
  have k24 := HN.out.cell 2 4 rfl rfl
  have f24 := HN.out.free 2 4 rfl
  have k25 := HN.out.cell 2 5 rfl rfl
  have f25 := HN.out.free 2 5 rfl
  have k26 := HN.out.cell 2 6 rfl rfl
  have f26 := HN.out.free 2 6 rfl
  have k27 := HN.out.cell 2 7 rfl rfl
  have f27 := HN.out.free 2 7 rfl
  have k28 := HN.out.cell 2 8 rfl rfl
  have f28 := HN.out.free 2 8 rfl
  have k29 := HN.out.cell 2 9 rfl rfl
  have f29 := HN.out.free 2 9 rfl
  have k210 := HN.out.cell 2 10 rfl rfl
  have f210 := HN.out.free 2 10 rfl
  have k211 := HN.out.cell 2 11 rfl rfl
  have f211 := HN.out.free 2 11 rfl
  have k212 := HN.out.cell 2 12 rfl rfl
  have f212 := HN.out.free 2 12 rfl
  go_wp2_with fail
  clear k00 f00 k01 f01 k02 f02 k03 f03 k04 f04 k05 f05 k06 f06 k07 f07 k08 f08 k09 f09 k010 f010 k011 f011 k012 f012 k10 f10 k11 f11 k12 f12 k13 f13 k14 f14 k15 f15 k16 f16 k17 f17 k18 f18 k19 f19 k110 f110 k111 f111 k112 f112 k20 f20 k21 f21 k22 f22 k23 f23 k24 f24 k25 f25 k26 f26 k27 f27 k28 f28 k29 f29 k210 f210 k211 f211 k212 f212
  refine (HB1.out _ _ HE1.out).mono ?_
  rintro e w19 ⟨rfl, hb⟩
  replace HG := Lib.hid (show Hg w19 from HG.out.below hb HG.out.lt)
  replace HE1 := Lib.hid (show EB w19 eb 90 at1 from HE1.out.below hb HE1.out.lt)
  replace HE2 := Lib.hid (show EB w19 ec 270 z from HE2.out.below hb HE2.out.lt)
  replace HN := Lib.hid (HN.out.call hb)
  clear hb 
  have k00 := HN.out.cell 0 0 rfl rfl
  have f00 := HN.out.free 0 0 rfl
  have k01 := HN.out.cell 0 1 rfl rfl
  have f01 := HN.out.free 0 1 rfl
  have k02 := HN.out.cell 0 2 rfl rfl
  have f02 := HN.out.free 0 2 rfl
  have k03 := HN.out.cell 0 3 rfl rfl
  have f03 := HN.out.free 0 3 rfl
  have k04 := HN.out.cell 0 4 rfl rfl
  have f04 := HN.out.free 0 4 rfl
  have k05 := HN.out.cell 0 5 rfl rfl
  have f05 := HN.out.free 0 5 rfl
  have k06 := HN.out.cell 0 6 rfl rfl
  have f06 := HN.out.free 0 6 rfl
  have k07 := HN.out.cell 0 7 rfl rfl
  have f07 := HN.out.free 0 7 rfl
  have k08 := HN.out.cell 0 8 rfl rfl
  have f08 := HN.out.free 0 8 rfl
  have k09 := HN.out.cell 0 9 rfl rfl
  have f09 := HN.out.free 0 9 rfl
  have k010 := HN.out.cell 0 10 rfl rfl
  have f010 := HN.out.free 0 10 rfl
  have k011 := HN.out.cell 0 11 rfl rfl
  have f011 := HN.out.free 0 11 rfl
  have k012 := HN.out.cell 0 12 rfl rfl
  have f012 := HN.out.free 0 12 rfl
  have k10 := HN.out.cell 1 0 rfl rfl
  have f10 := HN.out.free 1 0 rfl
  have k11 := HN.out.cell 1 1 rfl rfl
  have f11 := HN.out.free 1 1 rfl
  have k12 := HN.out.cell 1 2 rfl rfl
  have f12 := HN.out.free 1 2 rfl
  have k13 := HN.out.cell 1 3 rfl rfl
  have f13 := HN.out.free 1 3 rfl
  have k14 := HN.out.cell 1 4 rfl rfl
  have f14 := HN.out.free 1 4 rfl
  have k15 := HN.out.cell 1 5 rfl rfl
  have f15 := HN.out.free 1 5 rfl
  have k16 := HN.out.cell 1 6 rfl rfl
  have f16 := HN.out.free 1 6 rfl
  have k17 := HN.out.cell 1 7 rfl rfl
  have f17 := HN.out.free 1 7 rfl
  have k18 := HN.out.cell 1 8 rfl rfl
  have f18 := HN.out.free 1 8 rfl
  have k19 := HN.out.cell 1 9 rfl rfl
  have f19 := HN.out.free 1 9 rfl
  have k110 := HN.out.cell 1 10 rfl rfl
  have f110 := HN.out.free 1 10 rfl
  have k111 := HN.out.cell 1 11 rfl rfl
  have f111 := HN.out.free 1 11 rfl
  have k112 := HN.out.cell 1 12 rfl rfl
  have f112 := HN.out.free 1 12 rfl
  have k20 := HN.out.cell 2 0 rfl rfl
  have f20 := HN.out.free 2 0 rfl
  have k21 := HN.out.cell 2 1 rfl rfl
  have f21 := HN.out.free 2 1 rfl
  have k22 := HN.out.cell 2 2 rfl rfl
  have f22 := HN.out.free 2 2 rfl
  have k23 := HN.out.cell 2 3 rfl rfl
  have f23 := HN.out.free 2 3 rfl
  have k24 := HN.out.cell 2 4 rfl rfl
  have f24 := HN.out.free 2 4 rfl
  have k25 := HN.out.cell 2 5 rfl rfl
  have f25 := HN.out.free 2 5 rfl
  have k26 := HN.out.cell 2 6 rfl rfl
  have f26 := HN.out.free 2 6 rfl
  have k27 := HN.out.cell 2 7 rfl rfl
  have f27 := HN.out.free 2 7 rfl
  have k28 := HN.out.cell 2 8 rfl rfl
  have f28 := HN.out.free 2 8 rfl
  have k29 := HN.out.cell 2 9 rfl rfl
  have f29 := HN.out.free 2 9 rfl
  have k210 := HN.out.cell 2 10 rfl rfl
  have f210 := HN.out.free 2 10 rfl
  have k211 := HN.out.cell 2 11 rfl rfl
  have f211 := HN.out.free 2 11 rfl
  have k212 := HN.out.cell 2 12 rfl rfl
  have f212 := HN.out.free 2 12 rfl
  go_wp2_with fail
  clear k00 f00 k01 f01 k02 f02 k03 f03 k04 f04 k05 f05 k06 f06 k07 f07 k08 f08 k09 f09 k010 f010 k011 f011 k012 f012 k10 f10 k11 f11 k12 f12 k13 f13 k14 f14 k15 f15 k16 f16 k17 f17 k18 f18 k19 f19 k110 f110 k111 f111 k112 f112 k20 f20 k21 f21 k22 f22 k23 f23 k24 f24 k25 f25 k26 f26 k27 f27 k28 f28 k29 f29 k210 f210 k211 f211 k212 f212
  refine (HB2.out _ _ HE2.out).mono ?_
  rintro e w20 ⟨rfl, hb⟩
  replace HG := Lib.hid (show Hg w20 from HG.out.below hb HG.out.lt)
  replace HE1 := Lib.hid (show EB w20 eb 90 at1 from HE1.out.below hb HE1.out.lt)
  replace HE2 := Lib.hid (show EB w20 ec 270 z from HE2.out.below hb HE2.out.lt)
  replace HN := Lib.hid (HN.out.call hb)
  clear hb 
  have k00 := HN.out.cell 0 0 rfl rfl
  have f00 := HN.out.free 0 0 rfl
  have k01 := HN.out.cell 0 1 rfl rfl
  have f01 := HN.out.free 0 1 rfl
  have k02 := HN.out.cell 0 2 rfl rfl
  have f02 := HN.out.free 0 2 rfl
  have k03 := HN.out.cell 0 3 rfl rfl
  have f03 := HN.out.free 0 3 rfl
  have k04 := HN.out.cell 0 4 rfl rfl
  have f04 := HN.out.free 0 4 rfl
  have k05 := HN.out.cell 0 5 rfl rfl
  have f05 := HN.out.free 0 5 rfl
  have k06 := HN.out.cell 0 6 rfl rfl
  have f06 := HN.out.free 0 6 rfl
  have k07 := HN.out.cell 0 7 rfl rfl
  have f07 := HN.out.free 0 7 rfl
  have k08 := HN.out.cell 0 8 rfl rfl
  have f08 := HN.out.free 0 8 rfl
  have k09 := HN.out.cell 0 9 rfl rfl
  have f09 := HN.out.free 0 9 rfl
  have k010 := HN.out.cell 0 10 rfl rfl
  have f010 := HN.out.free 0 10 rfl
  have k011 := HN.out.cell 0 11 rfl rfl
  have f011 := HN.out.free 0 11 rfl
  have k012 := HN.out.cell 0 12 rfl rfl
  have f012 := HN.out.free 0 12 rfl
  have k10 := HN.out.cell 1 0 rfl rfl
  have f10 := HN.out.free 1 0 rfl
  have k11 := HN.out.cell 1 1 rfl rfl
  have f11 := HN.out.free 1 1 rfl
  have k12 := HN.out.cell 1 2 rfl rfl
  have f12 := HN.out.free 1 2 rfl
  have k13 := HN.out.cell 1 3 rfl rfl
  have f13 := HN.out.free 1 3 rfl
  have k14 := HN.out.cell 1 4 rfl rfl
  have f14 := HN.out.free 1 4 rfl
  have k15 := HN.out.cell 1 5 rfl rfl
  have f15 := HN.out.free 1 5 rfl
  have k16 := HN.out.cell 1 6 rfl rfl
  have f16 := HN.out.free 1 6 rfl
  have k17 := HN.out.cell 1 7 rfl rfl
  have f17 := HN.out.free 1 7 rfl
  have k18 := HN.out.cell 1 8 rfl rfl
  have f18 := HN.out.free 1 8 rfl
  have k19 := HN.out.cell 1 9 rfl rfl
  have f19 := HN.out.free 1 9 rfl
  have k110 := HN.out.cell 1 10 rfl rfl
  have f110 := HN.out.free 1 10 rfl
  have k111 := HN.out.cell 1 11 rfl rfl
  have f111 := HN.out.free 1 11 rfl
  have k112 := HN.out.cell 1 12 rfl rfl
  have f112 := HN.out.free 1 12 rfl
  have k20 := HN.out.cell 2 0 rfl rfl
  have f20 := HN.out.free 2 0 rfl
  have k21 := HN.out.cell 2 1 rfl rfl
  have f21 := HN.out.free 2 1 rfl
  have k22 := HN.out.cell 2 2 rfl rfl
  have f22 := HN.out.free 2 2 rfl
  have k23 := HN.out.cell 2 3 rfl rfl
  have f23 := HN.out.free 2 3 rfl
  have k24 := HN.out.cell 2 4 rfl rfl
  have f24 := HN.out.free 2 4 rfl
  have k25 := HN.out.cell 2 5 rfl rfl
  have f25 := HN.out.free 2 5 rfl
  have k26 := HN.out.cell 2 6 rfl rfl
  have f26 := HN.out.free 2 6 rfl
  have k27 := HN.out.cell 2 7 rfl rfl
  have f27 := HN.out.free 2 7 rfl
  have k28 := HN.out.cell 2 8 rfl rfl
  have f28 := HN.out.free 2 8 rfl
  have k29 := HN.out.cell 2 9 rfl rfl
  have f29 := HN.out.free 2 9 rfl
  have k210 := HN.out.cell 2 10 rfl rfl
  have f210 := HN.out.free 2 10 rfl
  have k211 := HN.out.cell 2 11 rfl rfl
  have f211 := HN.out.free 2 11 rfl
  have k212 := HN.out.cell 2 12 rfl rfl
  have f212 := HN.out.free 2 12 rfl
  have HE := Lib.hid (HN.out)
  go_wp2_with fail
  refine bodyPost_ret (v := .bool true) (by simp [results, Tryz.results9, go_sem, k00, k01, k02, k03, k04, k05, k06, k07, k08, k09, k010, k011, k012, k10, k11, k12, k13, k14, k15, k16, k17, k18, k19, k110, k111, k112, k20, k21, k22, k23, k24, k25, k26, k27, k28, k29, k210, k211, k212]) rfl ?_
  exact ⟨rfl, HE.out.bel⟩
end Go.Proofs.YtmhainidincjhaaGreatDoor
