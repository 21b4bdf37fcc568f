/-
  The walk of the law PackBack: what the functions answer, handed over.
  Printed by a program of this repository (wip/dg34.py).
-/
import Derived.Test.YtmhainidincjhaaGreatDoorJL
import Derived.Test.YtmhainidincjhaaGreatDoorJV
set_option linter.unusedVariables false
set_option linter.unusedSimpArgs false
namespace Go.Proofs.YtmhainidincjhaaGreatDoor
open Go.RowKit Go.Extern.Stop Go.Stop Go.Extern
theorem YB.made {w W W' : World} {bs : List Bk} {ns : List Nm} {a : Option Addr} {n c : Nat} {xs : List Nat} (h : BS w bs ns W) (hm : Mid W' W.heap.size 5 1 (.slice a n c) n (xs.map BN)) (hb : Below W.heap.size W W') : YB w bs ns a n c xs W' :=
  ⟨h.call hb, hm.mono h.bel.size, fun k hk b hb2 => by have h1 := (hm.lt k hk).1; have h2 := lt_of_block (h.box b hb2).1; omega⟩
theorem BytesN.srcN {W : World} {a : Option Addr} {n c : Nat} {l : List Nat} {P : Program} (h : BytesN W (.slice a n c) l) (hu : P.underlying 32 = some (.slice 5)) (hn : n = l.length) : Src P 1 32 (.slice a n c) n (l.map BN) W := by
  subst hn
  exact Sl.src (P := P) hu h (one_BN l)
set_option maxRecDepth 100000 in
set_option maxHeartbeats 8000000 in
theorem pback_walk (sg qs : Bool) (a b : Option Addr) (n c m d qn qd : Nat) (w : World) (f : Option Addr) (i j : Nat) (g : Option Addr) (k o : Nat) (t tq : ByteArray) (k1 k2 k3 : Bool) (z : Nat) (l lm : List Nat) (hz : z ≤ 100000) (hil : i ≤ 1099511627776) (HMO : Hid (BytesN w (.slice f i j) lm))
    (ys : Bool) (yn yd y : Nat) (lb : List Nat) (u : ByteArray) (HY0 : Hid (k2 = true → 1 ≤ y ∧ y ≤ k)) (HB : Hid (SB w g k o lb)) (xs : Bool) (xn xd : Nat)
    (HAW : Hid (∀ W, Below w.heap.size w W → Calls Tryz.prog 25 #[] W (fun e w' => e = .returned (.bool true) ∧ Below W.heap.size W w')))
    (HMK : Hid (∀ W, Below w.heap.size w W → Calls Tryz.prog 26 #[.agg #[.bool sg, .slice a n c, .slice b m d]] W (fun e w' => ∃ a8 c8 b9 d9, e = .returned (.agg #[.bool qs, .slice a8 (lenW qn) c8, .slice b9 (lenW qd) d9]) ∧ NatW w' a8 c8 qn ∧ NatW w' b9 d9 qd ∧ Below W.heap.size W w')))
    (HSM : Hid (∀ a6 c6 b7 d7 a8 c8 b9 d9 W, NatW W a6 c6 qn → NatW W b7 d7 qd → NatW W a8 c8 qn → NatW W b9 d9 qd → Calls Tryz.prog 34 #[.agg #[.bool qs, .slice a6 (lenW qn) c6, .slice b7 (lenW qd) d7], .agg #[.bool qs, .slice a8 (lenW qn) c8, .slice b9 (lenW qd) d9]] W (fun e w' => e = .returned (.bool true) ∧ Below W.heap.size W w')))
    (HTX : Hid (∀ a8 c8 b9 d9 W, NatW W a8 c8 qn → NatW W b9 d9 qd → Calls Tryz.prog 31 #[.agg #[.bool qs, .slice a8 (lenW qn) c8, .slice b9 (lenW qd) d9]] W fun e w' => e = .returned (.string tq) ∧ Below W.heap.size W w'))
    (HRT : Hid (∀ W, Calls Tryz.prog 35 #[.string tq] W fun e w' => ∃ a8 c8 b9 d9, e = .returned (.tuple #[.agg #[.bool qs, .slice a8 (lenW qn) c8, .slice b9 (lenW qd) d9], .nilIface]) ∧ NatW w' a8 c8 qn ∧ NatW w' b9 d9 qd ∧ Below W.heap.size W w'))
    (HEN : Hid (∀ a8 c8 b9 d9 W, NatW W a8 c8 qn → NatW W b9 d9 qd → Calls Tryz.prog 28 #[.agg #[.bool qs, .slice a8 (lenW qn) c8, .slice b9 (lenW qd) d9]] W fun e w' => ∃ a2 c2 v, e = .returned (.tuple #[.slice a2 z c2, v]) ∧ OptE k1 v ∧ Mid w' W.heap.size 5 1 (.slice a2 z c2) z (l.map BN) ∧ Below W.heap.size W w'))
    (HDM : Hid (k1 = true → ∀ a2 c2 W, BytesN W (.slice a2 (z + i) c2) (l ++ lm) → Calls Tryz.prog 33 #[.slice a2 (z + i) c2] W fun e w' => ∃ a8 c8 b9 d9, e = .returned (.tuple #[.agg #[.bool qs, .slice a8 (lenW qn) c8, .slice b9 (lenW qd) d9], .int .i64 z, .nilIface]) ∧ NatW w' a8 c8 qn ∧ NatW w' b9 d9 qd ∧ Below W.heap.size W w'))
    (HDB : Hid (∀ W, Below w.heap.size w W → Calls Tryz.prog 33 #[.slice g k o] W fun e w' => ∃ a8 c8 b9 d9 v, e = .returned (.tuple #[.agg #[.bool ys, .slice a8 (lenW yn) c8, .slice b9 (lenW yd) d9], .int .i64 y, v]) ∧ OptE k2 v ∧ NatW w' a8 c8 yn ∧ NatW w' b9 d9 yd ∧ Below W.heap.size W w'))
    (HEB : Hid (k2 = true → ∀ a8 c8 b9 d9 W, NatW W a8 c8 yn → NatW W b9 d9 yd → Calls Tryz.prog 28 #[.agg #[.bool ys, .slice a8 (lenW yn) c8, .slice b9 (lenW yd) d9]] W fun e w' => ∃ a2 c2, e = .returned (.tuple #[.slice a2 y c2, .nilIface]) ∧ SB w' a2 y c2 (lb.take y) ∧ Below W.heap.size W w'))
    (HC1 : Hid (k2 = true → ∀ a c W, SB W a y c (lb.take y) → (convert 32 9 (.slice a y c)).run Tryz.prog W = .ok (.string u) W))
    (HC2 : Hid (k2 = true → ∀ W, Below w.heap.size w W → (convert 32 9 (.slice g y o)).run Tryz.prog W = .ok (.string u) W))
    (HRS : Hid (∀ W, Calls Tryz.prog 35 #[.string t] W fun e w' => ∃ a8 c8 b9 d9 v, e = .returned (.tuple #[.agg #[.bool xs, .slice a8 (lenW xn) c8, .slice b9 (lenW xd) d9], v]) ∧ OptE k3 v ∧ NatW w' a8 c8 xn ∧ NatW w' b9 d9 xd ∧ Below W.heap.size W w'))
    (HTS : Hid (k3 = true → ∀ a8 c8 b9 d9 W, NatW W a8 c8 xn → NatW W b9 d9 xd → Calls Tryz.prog 31 #[.agg #[.bool xs, .slice a8 (lenW xn) c8, .slice b9 (lenW xd) d9]] W fun e w' => e = .returned (.string t) ∧ Below W.heap.size W w')) :
    Calls Tryz.prog 6 #[.agg #[.bool sg, .slice a n c, .slice b m d], .slice f i j, .slice g k o, .string t] w fun e w' => e = .returned (.bool true) ∧ Below w.heap.size w w' := by
  obtain ⟨i0, hi, hz0, hz1, hz2⟩ := info_parts Tryz.info_bytes
  obtain ⟨W0, hW0⟩ : ∃ W0, W0 = (w.alloc (.cells #[.bool sg, .slice a n c, .slice b m d] 26)) := ⟨_, rfl⟩
  have hbs : BS w [⟨w.heap.size, 26, [.bool sg, .slice a n c, .slice b m d]⟩] [] (w.alloc (.cells #[.bool sg, .slice a n c, .slice b m d] 26)) :=
      ((BS.start w).alloc (p := w.heap.size) rfl 26 [.bool sg, .slice a n c, .slice b m d] rfl)
  rw [← hW0] at hbs
  have HW0 := Lib.hid hW0
  have HN := Lib.hid hbs
  clear hW0 hbs
  go_enter Tryz.func6, Tryz.ntmps6
  go_wp2_with fail
  rw [← HW0.out]
  refine (HAW.out _ HN.out.bel).mono ?_
  rintro e w1 ⟨rfl, hb⟩
  replace HN := Lib.hid (HN.out.call hb)
  clear hb 
  have k00 := HN.out.cell 0 0 rfl rfl
  have f00 := HN.out.free 0 0 rfl
  have k01 := HN.out.cell 0 1 rfl rfl
  have f01 := HN.out.free 0 1 rfl
  have k02 := HN.out.cell 0 2 rfl rfl
  have f02 := HN.out.free 0 2 rfl
  go_wp2_with fail
  clear k00 f00 k01 f01 k02 f02
  refine (HMK.out _ HN.out.bel).mono ?_
  rintro e w2 ⟨a8, c8, b9, d9, rfl, hq0, hq1, hb⟩
  replace HN := Lib.hid (((HN.out.call hb).got hq0).got hq1)
  clear hb hq0 hq1
  have k00 := HN.out.cell 0 0 rfl rfl
  have f00 := HN.out.free 0 0 rfl
  have k01 := HN.out.cell 0 1 rfl rfl
  have f01 := HN.out.free 0 1 rfl
  have k02 := HN.out.cell 0 2 rfl rfl
  have f02 := HN.out.free 0 2 rfl
  have l0 := HN.out.lt 0 rfl
  have HP := Lib.hid (HN.out.alloc (p := w2.heap.size) rfl 45 [.bool qs, .slice a8 (lenW qn) c8, .slice b9 (lenW qd) d9] rfl)
  have k00p := HP.out.cell 0 0 rfl rfl
  have f00p := HP.out.free 0 0 rfl
  have k01p := HP.out.cell 0 1 rfl rfl
  have f01p := HP.out.free 0 1 rfl
  have k02p := HP.out.cell 0 2 rfl rfl
  have f02p := HP.out.free 0 2 rfl
  have k10p := HP.out.cell 1 0 rfl rfl
  have f10p := HP.out.free 1 0 rfl
  have k11p := HP.out.cell 1 1 rfl rfl
  have f11p := HP.out.free 1 1 rfl
  have k12p := HP.out.cell 1 2 rfl rfl
  have f12p := HP.out.free 1 2 rfl
  go_wp2_with fail
  clear k00 f00 k01 f01 k02 f02 l0 k00p f00p k01p f01p k02p f02p k10p f10p k11p f11p k12p f12p HN
  have HN := HP
  clear HP
  generalize (w2.alloc (.cells #[.bool qs, .slice a8 (lenW qn) c8, .slice b9 (lenW qd) d9] 45)) = wa3 at HN  ⊢
  refine (HEN.out _ _ _ _ _ (HN.out.nat 0 rfl) (HN.out.nat 1 rfl)).mono ?_
  rintro e w90 ⟨a2, c2, v1, rfl, ho, hm, hb⟩
  have HY := Lib.hid (YB.made HN.out hm hb)
  have HO := Lib.hid ho
  clear hm hb ho HN
  have HN := Lib.hid HY.out.st
  have z1 := fun w => HO.out.eql w
  have z2 := fun w => HO.out.guard .eql 34 33 w
  have k00 := HN.out.cell 0 0 rfl rfl
  have f00 := HN.out.free 0 0 rfl
  have k01 := HN.out.cell 0 1 rfl rfl
  have f01 := HN.out.free 0 1 rfl
  have k02 := HN.out.cell 0 2 rfl rfl
  have f02 := HN.out.free 0 2 rfl
  have k10 := HN.out.cell 1 0 rfl rfl
  have f10 := HN.out.free 1 0 rfl
  have k11 := HN.out.cell 1 1 rfl rfl
  have f11 := HN.out.free 1 1 rfl
  have k12 := HN.out.cell 1 2 rfl rfl
  have f12 := HN.out.free 1 2 rfl
  go_upto_if 34 with fail
  clear k00 f00 k01 f01 k02 f02 k10 f10 k11 f11 k12 f12
  clear z1 z2
  go_cut [8] (fun v8 wx => v8 = .bool false ∧ BS w [⟨w.heap.size, 26, [.bool sg, .slice a n c, .slice b m d]⟩, ⟨w2.heap.size, 45, [.bool qs, .slice a8 (lenW qn) c8, .slice b9 (lenW qd) d9]⟩] [⟨a8, c8, qn⟩, ⟨b9, d9, qd⟩] wx)
  case first =>
    cases k1 with
    | false =>
      obtain ⟨T1, u1, rfl⟩ := HO.out.err
      go_wp2_with fail
      go_meet
      exact ⟨rfl, HN.out.only (by simp) (fun z hz => by
        simp only [List.mem_cons, List.not_mem_nil, or_false] at hz
        rcases hz with rfl | rfl <;> simp)⟩
    | true =>
      obtain rfl := HO.out.ok
      have HM3 := Lib.hid HY.out.mid
      have HW3 := Lib.hid HY.out.st.bel.size
      have HMOL := Lib.hid HMO.out.len.1
      have HS3 := Lib.hid (BytesN.srcN (P := Tryz.prog) (BytesN.below HMO.out HY.out.st.bel) Tryz.underlying32 HMOL.out)
      go_wp2_with (at_builtin; refine wpList_append_mid (v := .slice a2 z c2) rfl _ _ 32 32 rfl i0 (.int .u8 0) 1 Tryz.underlying32 hi hz0 hz1 hz2 rfl rfl HM3.out _ rfl i _ HS3.out (by unfold maxLen; omega) (by omega) HW3.out ?_; intro a5 c5 w5 hmo hgo hbo; have HP := Lib.hid (HY.out.push0 (ys := lm) hmo hgo hbo); clear hmo hgo hbo; go_wp2_with fail)
      clear HM3 HW3 HS3 HN HMOL
      have HN := Lib.hid HP.out.st
      refine (HDM.out (by simp) _ _ _ HP.out.bytes).mono ?_
      rintro e w5 ⟨a6, c6, b7, d7, rfl, hq0, hq1, hb⟩
      replace HN := Lib.hid (((HN.out.call hb).got hq0).got hq1)
      clear hb hq0 hq1
      clear HP HY
      have k00 := HN.out.cell 0 0 rfl rfl
      have f00 := HN.out.free 0 0 rfl
      have k01 := HN.out.cell 0 1 rfl rfl
      have f01 := HN.out.free 0 1 rfl
      have k02 := HN.out.cell 0 2 rfl rfl
      have f02 := HN.out.free 0 2 rfl
      have l0 := HN.out.lt 0 rfl
      have k10 := HN.out.cell 1 0 rfl rfl
      have f10 := HN.out.free 1 0 rfl
      have k11 := HN.out.cell 1 1 rfl rfl
      have f11 := HN.out.free 1 1 rfl
      have k12 := HN.out.cell 1 2 rfl rfl
      have f12 := HN.out.free 1 2 rfl
      have l1 := HN.out.lt 1 rfl
      have HP := Lib.hid (HN.out.alloc (p := w5.heap.size) rfl 45 [.bool qs, .slice a6 (lenW qn) c6, .slice b7 (lenW qd) d7] rfl)
      have k00p := HP.out.cell 0 0 rfl rfl
      have f00p := HP.out.free 0 0 rfl
      have k01p := HP.out.cell 0 1 rfl rfl
      have f01p := HP.out.free 0 1 rfl
      have k02p := HP.out.cell 0 2 rfl rfl
      have f02p := HP.out.free 0 2 rfl
      have k10p := HP.out.cell 1 0 rfl rfl
      have f10p := HP.out.free 1 0 rfl
      have k11p := HP.out.cell 1 1 rfl rfl
      have f11p := HP.out.free 1 1 rfl
      have k12p := HP.out.cell 1 2 rfl rfl
      have f12p := HP.out.free 1 2 rfl
      have k20p := HP.out.cell 2 0 rfl rfl
      have f20p := HP.out.free 2 0 rfl
      have k21p := HP.out.cell 2 1 rfl rfl
      have f21p := HP.out.free 2 1 rfl
      have k22p := HP.out.cell 2 2 rfl rfl
      have f22p := HP.out.free 2 2 rfl
      go_wp2_with fail
      clear k00 f00 k01 f01 k02 f02 l0 k10 f10 k11 f11 k12 f12 l1 k00p f00p k01p f01p k02p f02p k10p f10p k11p f11p k12p f12p k20p f20p k21p f21p k22p f22p HN
      have HN := HP
      clear HP
      generalize (w5.alloc (.cells #[.bool qs, .slice a6 (lenW qn) c6, .slice b7 (lenW qd) d7] 45)) = wa6 at HN  ⊢
      refine (HSM.out _ _ _ _ _ _ _ _ _ (HN.out.nat 0 rfl) (HN.out.nat 1 rfl) (HN.out.nat 2 rfl) (HN.out.nat 3 rfl)).mono ?_
      rintro e w7 ⟨rfl, hb⟩
      replace HN := Lib.hid (HN.out.call hb)
      clear hb 
      have k00 := HN.out.cell 0 0 rfl rfl
      have f00 := HN.out.free 0 0 rfl
      have k01 := HN.out.cell 0 1 rfl rfl
      have f01 := HN.out.free 0 1 rfl
      have k02 := HN.out.cell 0 2 rfl rfl
      have f02 := HN.out.free 0 2 rfl
      have k10 := HN.out.cell 1 0 rfl rfl
      have f10 := HN.out.free 1 0 rfl
      have k11 := HN.out.cell 1 1 rfl rfl
      have f11 := HN.out.free 1 1 rfl
      have k12 := HN.out.cell 1 2 rfl rfl
      have f12 := HN.out.free 1 2 rfl
      have k20 := HN.out.cell 2 0 rfl rfl
      have f20 := HN.out.free 2 0 rfl
      have k21 := HN.out.cell 2 1 rfl rfl
      have f21 := HN.out.free 2 1 rfl
      have k22 := HN.out.cell 2 2 rfl rfl
      have f22 := HN.out.free 2 2 rfl
      go_wp2_with fail
      clear k00 f00 k01 f01 k02 f02 k10 f10 k11 f11 k12 f12 k20 f20 k21 f21 k22 f22
      go_wp2_with fail
      go_meet
      exact ⟨rfl, HN.out.only (by simp) (fun z hz => by
        simp only [List.mem_cons, List.not_mem_nil, or_false] at hz
        rcases hz with rfl | rfl <;> simp)⟩
  case rest =>
    obtain ⟨w5, rfl⟩ : ∃ w5 : World, w5 = wc := ⟨_, rfl⟩
    obtain ⟨rfl, hn0⟩ := hcut
    have HN := Lib.hid hn0
    clear hn0
    have k00 := HN.out.cell 0 0 rfl rfl
    have f00 := HN.out.free 0 0 rfl
    have k01 := HN.out.cell 0 1 rfl rfl
    have f01 := HN.out.free 0 1 rfl
    have k02 := HN.out.cell 0 2 rfl rfl
    have f02 := HN.out.free 0 2 rfl
    have k10 := HN.out.cell 1 0 rfl rfl
    have f10 := HN.out.free 1 0 rfl
    have k11 := HN.out.cell 1 1 rfl rfl
    have f11 := HN.out.free 1 1 rfl
    have k12 := HN.out.cell 1 2 rfl rfl
    have f12 := HN.out.free 1 2 rfl
    go_wp2_with fail
    clear k00 f00 k01 f01 k02 f02 k10 f10 k11 f11 k12 f12
    refine (HTX.out _ _ _ _ _ (HN.out.nat 0 rfl) (HN.out.nat 1 rfl)).mono ?_
    rintro e w6 ⟨rfl, hb⟩
    replace HN := Lib.hid (HN.out.call hb)
    clear hb 
    have k00 := HN.out.cell 0 0 rfl rfl
    have f00 := HN.out.free 0 0 rfl
    have k01 := HN.out.cell 0 1 rfl rfl
    have f01 := HN.out.free 0 1 rfl
    have k02 := HN.out.cell 0 2 rfl rfl
    have f02 := HN.out.free 0 2 rfl
    have k10 := HN.out.cell 1 0 rfl rfl
    have f10 := HN.out.free 1 0 rfl
    have k11 := HN.out.cell 1 1 rfl rfl
    have f11 := HN.out.free 1 1 rfl
    have k12 := HN.out.cell 1 2 rfl rfl
    have f12 := HN.out.free 1 2 rfl
    go_wp2_with fail
    clear k00 f00 k01 f01 k02 f02 k10 f10 k11 f11 k12 f12
    refine (HRT.out _).mono ?_
    rintro e w7 ⟨a3, c3, b4, d4, rfl, hq0, hq1, hb⟩
    replace HN := Lib.hid (((HN.out.call hb).got hq0).got hq1)
    clear hb hq0 hq1
    have k00 := HN.out.cell 0 0 rfl rfl
    have f00 := HN.out.free 0 0 rfl
    have k01 := HN.out.cell 0 1 rfl rfl
    have f01 := HN.out.free 0 1 rfl
    have k02 := HN.out.cell 0 2 rfl rfl
    have f02 := HN.out.free 0 2 rfl
    have l0 := HN.out.lt 0 rfl
    have k10 := HN.out.cell 1 0 rfl rfl
    have f10 := HN.out.free 1 0 rfl
    have k11 := HN.out.cell 1 1 rfl rfl
    have f11 := HN.out.free 1 1 rfl
    have k12 := HN.out.cell 1 2 rfl rfl
    have f12 := HN.out.free 1 2 rfl
    have l1 := HN.out.lt 1 rfl
    have HP := Lib.hid (HN.out.alloc (p := w7.heap.size) rfl 45 [.bool qs, .slice a3 (lenW qn) c3, .slice b4 (lenW qd) d4] rfl)
    have k00p := HP.out.cell 0 0 rfl rfl
    have f00p := HP.out.free 0 0 rfl
    have k01p := HP.out.cell 0 1 rfl rfl
    have f01p := HP.out.free 0 1 rfl
    have k02p := HP.out.cell 0 2 rfl rfl
    have f02p := HP.out.free 0 2 rfl
    have k10p := HP.out.cell 1 0 rfl rfl
    have f10p := HP.out.free 1 0 rfl
    have k11p := HP.out.cell 1 1 rfl rfl
    have f11p := HP.out.free 1 1 rfl
    have k12p := HP.out.cell 1 2 rfl rfl
    have f12p := HP.out.free 1 2 rfl
    have k20p := HP.out.cell 2 0 rfl rfl
    have f20p := HP.out.free 2 0 rfl
    have k21p := HP.out.cell 2 1 rfl rfl
    have f21p := HP.out.free 2 1 rfl
    have k22p := HP.out.cell 2 2 rfl rfl
    have f22p := HP.out.free 2 2 rfl
    go_wp2_with fail
    clear k00 f00 k01 f01 k02 f02 l0 k10 f10 k11 f11 k12 f12 l1 k00p f00p k01p f01p k02p f02p k10p f10p k11p f11p k12p f12p k20p f20p k21p f21p k22p f22p HN
    have HN := HP
    clear HP
    generalize (w7.alloc (.cells #[.bool qs, .slice a3 (lenW qn) c3, .slice b4 (lenW qd) d4] 45)) = wa8 at HN  ⊢
    refine (HSM.out _ _ _ _ _ _ _ _ _ (HN.out.nat 0 rfl) (HN.out.nat 1 rfl) (HN.out.nat 2 rfl) (HN.out.nat 3 rfl)).mono ?_
    rintro e w9 ⟨rfl, hb⟩
    replace HN := Lib.hid (HN.out.call hb)
    clear hb 
    have k00 := HN.out.cell 0 0 rfl rfl
    have f00 := HN.out.free 0 0 rfl
    have k01 := HN.out.cell 0 1 rfl rfl
    have f01 := HN.out.free 0 1 rfl
    have k02 := HN.out.cell 0 2 rfl rfl
    have f02 := HN.out.free 0 2 rfl
    have k10 := HN.out.cell 1 0 rfl rfl
    have f10 := HN.out.free 1 0 rfl
    have k11 := HN.out.cell 1 1 rfl rfl
    have f11 := HN.out.free 1 1 rfl
    have k12 := HN.out.cell 1 2 rfl rfl
    have f12 := HN.out.free 1 2 rfl
    have k20 := HN.out.cell 2 0 rfl rfl
    have f20 := HN.out.free 2 0 rfl
    have k21 := HN.out.cell 2 1 rfl rfl
    have f21 := HN.out.free 2 1 rfl
    have k22 := HN.out.cell 2 2 rfl rfl
    have f22 := HN.out.free 2 2 rfl
    go_wp2_with fail
    clear k00 f00 k01 f01 k02 f02 k10 f10 k11 f11 k12 f12 k20 f20 k21 f21 k22 f22
    refine (HDB.out _ HN.out.bel).mono ?_
    rintro e w10 ⟨e6, e7, e8, e9, v2, rfl, ho2, hq0, hq1, hb⟩
    replace HN := Lib.hid (((HN.out.call hb).got hq0).got hq1)
    have HO2 := Lib.hid ho2
    clear hb hq0 hq1 ho2
    have z1 := fun w => HO2.out.eql w
    have z2 := fun w => HO2.out.guard .eql 34 77 w
    have k00 := HN.out.cell 0 0 rfl rfl
    have f00 := HN.out.free 0 0 rfl
    have k01 := HN.out.cell 0 1 rfl rfl
    have f01 := HN.out.free 0 1 rfl
    have k02 := HN.out.cell 0 2 rfl rfl
    have f02 := HN.out.free 0 2 rfl
    have l0 := HN.out.lt 0 rfl
    have k10 := HN.out.cell 1 0 rfl rfl
    have f10 := HN.out.free 1 0 rfl
    have k11 := HN.out.cell 1 1 rfl rfl
    have f11 := HN.out.free 1 1 rfl
    have k12 := HN.out.cell 1 2 rfl rfl
    have f12 := HN.out.free 1 2 rfl
    have l1 := HN.out.lt 1 rfl
    have k20 := HN.out.cell 2 0 rfl rfl
    have f20 := HN.out.free 2 0 rfl
    have k21 := HN.out.cell 2 1 rfl rfl
    have f21 := HN.out.free 2 1 rfl
    have k22 := HN.out.cell 2 2 rfl rfl
    have f22 := HN.out.free 2 2 rfl
    have l2 := HN.out.lt 2 rfl
    have HP := Lib.hid (HN.out.alloc (p := w10.heap.size) rfl 45 [.bool ys, .slice e6 (lenW yn) e7, .slice e8 (lenW yd) e9] rfl)
    have k00p := HP.out.cell 0 0 rfl rfl
    have f00p := HP.out.free 0 0 rfl
    have k01p := HP.out.cell 0 1 rfl rfl
    have f01p := HP.out.free 0 1 rfl
    have k02p := HP.out.cell 0 2 rfl rfl
    have f02p := HP.out.free 0 2 rfl
    have k10p := HP.out.cell 1 0 rfl rfl
    have f10p := HP.out.free 1 0 rfl
    have k11p := HP.out.cell 1 1 rfl rfl
    have f11p := HP.out.free 1 1 rfl
    have k12p := HP.out.cell 1 2 rfl rfl
    have f12p := HP.out.free 1 2 rfl
    have k20p := HP.out.cell 2 0 rfl rfl
    have f20p := HP.out.free 2 0 rfl
    have k21p := HP.out.cell 2 1 rfl rfl
    have f21p := HP.out.free 2 1 rfl
    have k22p := HP.out.cell 2 2 rfl rfl
    have f22p := HP.out.free 2 2 rfl
    have k30p := HP.out.cell 3 0 rfl rfl
    have f30p := HP.out.free 3 0 rfl
    have k31p := HP.out.cell 3 1 rfl rfl
    have f31p := HP.out.free 3 1 rfl
    have k32p := HP.out.cell 3 2 rfl rfl
    have f32p := HP.out.free 3 2 rfl
    go_upto_if 78 with fail
    clear k00 f00 k01 f01 k02 f02 l0 k10 f10 k11 f11 k12 f12 l1 k20 f20 k21 f21 k22 f22 l2 k00p f00p k01p f01p k02p f02p k10p f10p k11p f11p k12p f12p k20p f20p k21p f21p k22p f22p k30p f30p k31p f31p k32p f32p HN
    have HN := HP
    clear HP
    generalize (w10.alloc (.cells #[.bool ys, .slice e6 (lenW yn) e7, .slice e8 (lenW yd) e9] 45)) = wa11 at HN  ⊢
    clear z1 z2
    go_cut [8] (fun v8 wx => v8 = .bool false ∧ BS w [⟨w.heap.size, 26, [.bool sg, .slice a n c, .slice b m d]⟩, ⟨w2.heap.size, 45, [.bool qs, .slice a8 (lenW qn) c8, .slice b9 (lenW qd) d9]⟩, ⟨w7.heap.size, 45, [.bool qs, .slice a3 (lenW qn) c3, .slice b4 (lenW qd) d4]⟩, ⟨w10.heap.size, 45, [.bool ys, .slice e6 (lenW yn) e7, .slice e8 (lenW yd) e9]⟩] [⟨a8, c8, qn⟩, ⟨b9, d9, qd⟩, ⟨a3, c3, qn⟩, ⟨b4, d4, qd⟩, ⟨e6, e7, yn⟩, ⟨e8, e9, yd⟩] wx)
    case first =>
      cases k2 with
      | false =>
        obtain ⟨T2, u2, rfl⟩ := HO2.out.err
        go_wp2_with fail
        go_meet
        exact ⟨rfl, HN.out.only (by simp) (fun z hz => by
          simp only [List.mem_cons, List.not_mem_nil, or_false] at hz
          rcases hz with rfl | rfl | rfl | rfl | rfl | rfl <;> simp)⟩
      | true =>
        obtain rfl := HO2.out.ok
        obtain ⟨hy0, hyk⟩ := HY0.out (by simp)
        have k00 := HN.out.cell 0 0 rfl rfl
        have f00 := HN.out.free 0 0 rfl
        have k01 := HN.out.cell 0 1 rfl rfl
        have f01 := HN.out.free 0 1 rfl
        have k02 := HN.out.cell 0 2 rfl rfl
        have f02 := HN.out.free 0 2 rfl
        have k10 := HN.out.cell 1 0 rfl rfl
        have f10 := HN.out.free 1 0 rfl
        have k11 := HN.out.cell 1 1 rfl rfl
        have f11 := HN.out.free 1 1 rfl
        have k12 := HN.out.cell 1 2 rfl rfl
        have f12 := HN.out.free 1 2 rfl
        have k20 := HN.out.cell 2 0 rfl rfl
        have f20 := HN.out.free 2 0 rfl
        have k21 := HN.out.cell 2 1 rfl rfl
        have f21 := HN.out.free 2 1 rfl
        have k22 := HN.out.cell 2 2 rfl rfl
        have f22 := HN.out.free 2 2 rfl
        have k30 := HN.out.cell 3 0 rfl rfl
        have f30 := HN.out.free 3 0 rfl
        have k31 := HN.out.cell 3 1 rfl rfl
        have f31 := HN.out.free 3 1 rfl
        have k32 := HN.out.cell 3 2 rfl rfl
        have f32 := HN.out.free 3 2 rfl
        go_wp2_with fail
        clear k00 f00 k01 f01 k02 f02 k10 f10 k11 f11 k12 f12 k20 f20 k21 f21 k22 f22 k30 f30 k31 f31 k32 f32
        refine (HEB.out (by simp) _ _ _ _ _ (HN.out.nat 4 rfl) (HN.out.nat 5 rfl)).mono ?_
        rintro e w12 ⟨a9, c9, rfl, hf, hb⟩
        replace HN := Lib.hid (HN.out.call hb)
        have HZ := Lib.hid hf
        clear hb hf
        have q1 := HB.out.caps
        have q2 := HZ.out.caps
        have r0 : y ≤ o := by omega
        have r1 : decide ((y : Int) < 1) = false := decide_eq_false (by omega)
        have r2 : decide (y < 1) = false := decide_eq_false (by omega)
        have r3 : decide (y = 0) = false := decide_eq_false (by omega)
        have r4 : decide (k < y) = false := decide_eq_false (by omega)
        have r5 : decide ((k : Int) < (y : Int)) = false := decide_eq_false (by omega)
        have k00 := HN.out.cell 0 0 rfl rfl
        have f00 := HN.out.free 0 0 rfl
        have k01 := HN.out.cell 0 1 rfl rfl
        have f01 := HN.out.free 0 1 rfl
        have k02 := HN.out.cell 0 2 rfl rfl
        have f02 := HN.out.free 0 2 rfl
        have k10 := HN.out.cell 1 0 rfl rfl
        have f10 := HN.out.free 1 0 rfl
        have k11 := HN.out.cell 1 1 rfl rfl
        have f11 := HN.out.free 1 1 rfl
        have k12 := HN.out.cell 1 2 rfl rfl
        have f12 := HN.out.free 1 2 rfl
        have k20 := HN.out.cell 2 0 rfl rfl
        have f20 := HN.out.free 2 0 rfl
        have k21 := HN.out.cell 2 1 rfl rfl
        have f21 := HN.out.free 2 1 rfl
        have k22 := HN.out.cell 2 2 rfl rfl
        have f22 := HN.out.free 2 2 rfl
        have k30 := HN.out.cell 3 0 rfl rfl
        have f30 := HN.out.free 3 0 rfl
        have k31 := HN.out.cell 3 1 rfl rfl
        have f31 := HN.out.free 3 1 rfl
        have k32 := HN.out.cell 3 2 rfl rfl
        have f32 := HN.out.free 3 2 rfl
        go_upto_region 15 with fail
        clear k00 f00 k01 f01 k02 f02 k10 f10 k11 f11 k12 f12 k20 f20 k21 f21 k22 f22 k30 f30 k31 f31 k32 f32
        replace HZ := Lib.hid (show SB w12.drew a9 y c9 (lb.take y) from HZ.out.below (Below.refl _ _).drew HZ.out.lt)
        replace HN := Lib.hid HN.out.drew
        refine wp_region_held_drew (S := fun W => (convert 32 9 (.slice a9 y c9)).run Tryz.prog W = .ok (.string u) W ∧ (convert 32 9 (.slice g y o)).run Tryz.prog W = .ok (.string u) W) (by kernel_rfl) (⟨HC1.out (by simp) _ _ _ HZ.out, HC2.out (by simp) _ HN.out.bel⟩) (fun hHeld => ?_)
        generalize w12.drew = wd at HN HZ hHeld ⊢
        refine tk 0 (some 84) (v := ?_) rfl rfl ?_ ?_
        rotate_left
        · (intro w _; go_simp; (try with_reducible rfl))
        simp only [Act.put, stB, stZ, stS]
        refine tk 1 (some 85) (v := ?_) rfl rfl ?_ ?_
        rotate_left
        · (intro w _; go_simp; (try with_reducible rfl))
        simp only [Act.put, stB, stZ, stS]
        refine tk 2 (some 86) (v := ?_) rfl rfl ?_ ?_
        rotate_left
        · (intro w _; go_simp; (try with_reducible rfl))
        simp only [Act.put, stB, stZ, stS]
        refine tk 3 (some 87) (v := ?_) rfl rfl ?_ ?_
        rotate_left
        · (intro w _; go_simp; (try with_reducible rfl))
        simp only [Act.put, stB, stZ, stS]
        refine tk 4 (some 88) (v := ?_) rfl rfl ?_ ?_
        rotate_left
        · (intro w _; go_simp; (try with_reducible rfl))
        simp only [Act.put, stB, stZ, stS]
        refine tk 5 (some 89) (v := ?_) rfl rfl ?_ ?_
        rotate_left
        · (intro w _; go_simp; (try with_reducible rfl))
        simp only [Act.put, stB, stZ, stS]
        refine tk 6 (some 90) (v := ?_) rfl rfl ?_ ?_
        rotate_left
        · (intro w _; go_simp; (try with_reducible rfl))
        simp only [Act.put, stB, stZ, stS]
        refine tk 7 (some 91) (v := ?_) rfl rfl ?_ ?_
        rotate_left
        · (intro w _; go_simp; (try with_reducible rfl))
        simp only [Act.put, stB, stZ, stS]
        refine tk 8 (some 92) (v := ?_) rfl rfl ?_ ?_
        rotate_left
        · (intro w _; go_simp; (try with_reducible rfl))
        simp only [Act.put, stB, stZ, stS]
        refine tk 9 (some 93) (v := ?_) rfl rfl ?_ ?_
        rotate_left
        · (intro w _; go_simp; (try with_reducible rfl))
        simp only [Act.put, stB, stZ, stS]
        refine tk 10 (some 94) (v := ?_) rfl rfl ?_ ?_
        rotate_left
        · (intro w _; go_simp; (try with_reducible rfl))
        simp only [Act.put, stB, stZ, stS]
        refine tk 11 (some 95) (v := ?_) rfl rfl ?_ ?_
        rotate_left
        · (intro w _; go_simp; (try with_reducible rfl))
        simp only [Act.put, stB, stZ, stS]
        refine tk 12 (some 96) (v := ?_) rfl rfl ?_ ?_
        rotate_left
        · (intro w _; go_simp; (try with_reducible rfl))
        simp only [Act.put, stB, stZ, stS]
        refine tk 13 (some 97) (v := ?_) rfl rfl ?_ ?_
        rotate_left
        · (intro w _; go_simp; (try with_reducible rfl))
        simp only [Act.put, stB, stZ, stS]
        refine tk 14 (some 98) (v := ?_) rfl rfl ?_ ?_
        rotate_left
        · (intro w hSw; (try dsimp only at hSw); go_simp; (try with_reducible rfl))
        simp only [Act.put, stB, stZ, stS]
        refine tk 15 (some 99) (v := ?_) rfl rfl ?_ ?_
        rotate_left
        · (intro w _; go_simp; (try with_reducible rfl))
        simp only [Act.put, stB, stZ, stS]
        refine tk 16 (some 100) (v := ?_) rfl rfl ?_ ?_
        rotate_left
        · (intro w _; go_simp; (try with_reducible rfl))
        simp only [Act.put, stB, stZ, stS]
        refine tk 17 (some 101) (v := ?_) rfl rfl ?_ ?_
        rotate_left
        · (intro w _; go_simp; (try with_reducible rfl))
        simp only [Act.put, stB, stZ, stS]
        refine tk 18 (some 102) (v := ?_) rfl rfl ?_ ?_
        rotate_left
        · (intro w hSw; (try dsimp only at hSw); go_simp; (try with_reducible rfl))
        simp only [Act.put, stB, stZ, stS]
        refine tk 19 (some 103) (v := ?_) rfl rfl ?_ ?_
        rotate_left
        · (intro w _; go_simp; (try with_reducible rfl))
        simp only [Act.put, stB, stZ, stS]
        refine tk 20 (some 104) (v := ?_) rfl rfl ?_ ?_
        rotate_left
        · (intro w _; go_simp; (try with_reducible rfl))
        simp only [Act.put, stB, stZ, stS]
        refine wpAnyH_done (by kernel_rfl) ?_ _
        go_wp2_with fail
        go_meet
        exact ⟨rfl, HN.out⟩
    case rest =>
      obtain ⟨w12, rfl⟩ : ∃ w12 : World, w12 = wc := ⟨_, rfl⟩
      obtain ⟨rfl, hn0⟩ := hcut
      have HN := Lib.hid hn0
      clear hn0
      have k00 := HN.out.cell 0 0 rfl rfl
      have f00 := HN.out.free 0 0 rfl
      have k01 := HN.out.cell 0 1 rfl rfl
      have f01 := HN.out.free 0 1 rfl
      have k02 := HN.out.cell 0 2 rfl rfl
      have f02 := HN.out.free 0 2 rfl
      have k10 := HN.out.cell 1 0 rfl rfl
      have f10 := HN.out.free 1 0 rfl
      have k11 := HN.out.cell 1 1 rfl rfl
      have f11 := HN.out.free 1 1 rfl
      have k12 := HN.out.cell 1 2 rfl rfl
      have f12 := HN.out.free 1 2 rfl
      have k20 := HN.out.cell 2 0 rfl rfl
      have f20 := HN.out.free 2 0 rfl
      have k21 := HN.out.cell 2 1 rfl rfl
      have f21 := HN.out.free 2 1 rfl
      have k22 := HN.out.cell 2 2 rfl rfl
      have f22 := HN.out.free 2 2 rfl
      have k30 := HN.out.cell 3 0 rfl rfl
      have f30 := HN.out.free 3 0 rfl
      have k31 := HN.out.cell 3 1 rfl rfl
      have f31 := HN.out.free 3 1 rfl
      have k32 := HN.out.cell 3 2 rfl rfl
      have f32 := HN.out.free 3 2 rfl
      go_wp2_with fail
      clear k00 f00 k01 f01 k02 f02 k10 f10 k11 f11 k12 f12 k20 f20 k21 f21 k22 f22 k30 f30 k31 f31 k32 f32
      refine (HRS.out _).mono ?_
      rintro e w13 ⟨h6, h7, h8, h9, v3, rfl, ho3, hq0, hq1, hb⟩
      replace HN := Lib.hid (((HN.out.call hb).got hq0).got hq1)
      have HO3 := Lib.hid ho3
      clear hb hq0 hq1 ho3
      cases k3 with
      | false =>
        obtain ⟨T3, u3, rfl⟩ := HO3.out.err
        have k00 := HN.out.cell 0 0 rfl rfl
        have f00 := HN.out.free 0 0 rfl
        have k01 := HN.out.cell 0 1 rfl rfl
        have f01 := HN.out.free 0 1 rfl
        have k02 := HN.out.cell 0 2 rfl rfl
        have f02 := HN.out.free 0 2 rfl
        have k10 := HN.out.cell 1 0 rfl rfl
        have f10 := HN.out.free 1 0 rfl
        have k11 := HN.out.cell 1 1 rfl rfl
        have f11 := HN.out.free 1 1 rfl
        have k12 := HN.out.cell 1 2 rfl rfl
        have f12 := HN.out.free 1 2 rfl
        have k20 := HN.out.cell 2 0 rfl rfl
        have f20 := HN.out.free 2 0 rfl
        have k21 := HN.out.cell 2 1 rfl rfl
        have f21 := HN.out.free 2 1 rfl
        have k22 := HN.out.cell 2 2 rfl rfl
        have f22 := HN.out.free 2 2 rfl
        have k30 := HN.out.cell 3 0 rfl rfl
        have f30 := HN.out.free 3 0 rfl
        have k31 := HN.out.cell 3 1 rfl rfl
        have f31 := HN.out.free 3 1 rfl
        have k32 := HN.out.cell 3 2 rfl rfl
        have f32 := HN.out.free 3 2 rfl
        have l0 := HN.out.lt 0 rfl
        have l1 := HN.out.lt 1 rfl
        have l2 := HN.out.lt 2 rfl
        have l3 := HN.out.lt 3 rfl
        have HP := Lib.hid (HN.out.alloc (p := w13.heap.size) rfl 45 [.bool xs, .slice h6 (lenW xn) h7, .slice h8 (lenW xd) h9] rfl)
        have k00p := HP.out.cell 0 0 rfl rfl
        have f00p := HP.out.free 0 0 rfl
        have k01p := HP.out.cell 0 1 rfl rfl
        have f01p := HP.out.free 0 1 rfl
        have k02p := HP.out.cell 0 2 rfl rfl
        have f02p := HP.out.free 0 2 rfl
        have k10p := HP.out.cell 1 0 rfl rfl
        have f10p := HP.out.free 1 0 rfl
        have k11p := HP.out.cell 1 1 rfl rfl
        have f11p := HP.out.free 1 1 rfl
        have k12p := HP.out.cell 1 2 rfl rfl
        have f12p := HP.out.free 1 2 rfl
        have k20p := HP.out.cell 2 0 rfl rfl
        have f20p := HP.out.free 2 0 rfl
        have k21p := HP.out.cell 2 1 rfl rfl
        have f21p := HP.out.free 2 1 rfl
        have k22p := HP.out.cell 2 2 rfl rfl
        have f22p := HP.out.free 2 2 rfl
        have k30p := HP.out.cell 3 0 rfl rfl
        have f30p := HP.out.free 3 0 rfl
        have k31p := HP.out.cell 3 1 rfl rfl
        have f31p := HP.out.free 3 1 rfl
        have k32p := HP.out.cell 3 2 rfl rfl
        have f32p := HP.out.free 3 2 rfl
        have k40p := HP.out.cell 4 0 rfl rfl
        have f40p := HP.out.free 4 0 rfl
        have k41p := HP.out.cell 4 1 rfl rfl
        have f41p := HP.out.free 4 1 rfl
        have k42p := HP.out.cell 4 2 rfl rfl
        have f42p := HP.out.free 4 2 rfl
        have HE := Lib.hid (HP.out)
        go_wp2_with fail
        refine bodyPost_ret (v := .bool true) (by simp [results, Tryz.results6, go_sem, k00, k01, k02, k10, k11, k12, k20, k21, k22, k30, k31, k32, k00p, k01p, k02p, k10p, k11p, k12p, k20p, k21p, k22p, k30p, k31p, k32p, k40p, k41p, k42p]) rfl ?_
        exact ⟨rfl, HE.out.bel⟩
      | true =>
        obtain rfl := HO3.out.ok
        have k00 := HN.out.cell 0 0 rfl rfl
        have f00 := HN.out.free 0 0 rfl
        have k01 := HN.out.cell 0 1 rfl rfl
        have f01 := HN.out.free 0 1 rfl
        have k02 := HN.out.cell 0 2 rfl rfl
        have f02 := HN.out.free 0 2 rfl
        have l0 := HN.out.lt 0 rfl
        have k10 := HN.out.cell 1 0 rfl rfl
        have f10 := HN.out.free 1 0 rfl
        have k11 := HN.out.cell 1 1 rfl rfl
        have f11 := HN.out.free 1 1 rfl
        have k12 := HN.out.cell 1 2 rfl rfl
        have f12 := HN.out.free 1 2 rfl
        have l1 := HN.out.lt 1 rfl
        have k20 := HN.out.cell 2 0 rfl rfl
        have f20 := HN.out.free 2 0 rfl
        have k21 := HN.out.cell 2 1 rfl rfl
        have f21 := HN.out.free 2 1 rfl
        have k22 := HN.out.cell 2 2 rfl rfl
        have f22 := HN.out.free 2 2 rfl
        have l2 := HN.out.lt 2 rfl
        have k30 := HN.out.cell 3 0 rfl rfl
        have f30 := HN.out.free 3 0 rfl
        have k31 := HN.out.cell 3 1 rfl rfl
        have f31 := HN.out.free 3 1 rfl
        have k32 := HN.out.cell 3 2 rfl rfl
        have f32 := HN.out.free 3 2 rfl
        have l3 := HN.out.lt 3 rfl
        have HP := Lib.hid (HN.out.alloc (p := w13.heap.size) rfl 45 [.bool xs, .slice h6 (lenW xn) h7, .slice h8 (lenW xd) h9] rfl)
        have k00p := HP.out.cell 0 0 rfl rfl
        have f00p := HP.out.free 0 0 rfl
        have k01p := HP.out.cell 0 1 rfl rfl
        have f01p := HP.out.free 0 1 rfl
        have k02p := HP.out.cell 0 2 rfl rfl
        have f02p := HP.out.free 0 2 rfl
        have k10p := HP.out.cell 1 0 rfl rfl
        have f10p := HP.out.free 1 0 rfl
        have k11p := HP.out.cell 1 1 rfl rfl
        have f11p := HP.out.free 1 1 rfl
        have k12p := HP.out.cell 1 2 rfl rfl
        have f12p := HP.out.free 1 2 rfl
        have k20p := HP.out.cell 2 0 rfl rfl
        have f20p := HP.out.free 2 0 rfl
        have k21p := HP.out.cell 2 1 rfl rfl
        have f21p := HP.out.free 2 1 rfl
        have k22p := HP.out.cell 2 2 rfl rfl
        have f22p := HP.out.free 2 2 rfl
        have k30p := HP.out.cell 3 0 rfl rfl
        have f30p := HP.out.free 3 0 rfl
        have k31p := HP.out.cell 3 1 rfl rfl
        have f31p := HP.out.free 3 1 rfl
        have k32p := HP.out.cell 3 2 rfl rfl
        have f32p := HP.out.free 3 2 rfl
        have k40p := HP.out.cell 4 0 rfl rfl
        have f40p := HP.out.free 4 0 rfl
        have k41p := HP.out.cell 4 1 rfl rfl
        have f41p := HP.out.free 4 1 rfl
        have k42p := HP.out.cell 4 2 rfl rfl
        have f42p := HP.out.free 4 2 rfl
        go_wp2_with fail
        clear k00 f00 k01 f01 k02 f02 l0 k10 f10 k11 f11 k12 f12 l1 k20 f20 k21 f21 k22 f22 l2 k30 f30 k31 f31 k32 f32 l3 k00p f00p k01p f01p k02p f02p k10p f10p k11p f11p k12p f12p k20p f20p k21p f21p k22p f22p k30p f30p k31p f31p k32p f32p k40p f40p k41p f41p k42p f42p HN
        have HN := HP
        clear HP
        generalize (w13.alloc (.cells #[.bool xs, .slice h6 (lenW xn) h7, .slice h8 (lenW xd) h9] 45)) = wa14 at HN  ⊢
        refine (HTS.out (by simp) _ _ _ _ _ (HN.out.nat 6 rfl) (HN.out.nat 7 rfl)).mono ?_
        rintro e w15 ⟨rfl, hb⟩
        replace HN := Lib.hid (HN.out.call hb)
        clear hb 
        have k00 := HN.out.cell 0 0 rfl rfl
        have f00 := HN.out.free 0 0 rfl
        have k01 := HN.out.cell 0 1 rfl rfl
        have f01 := HN.out.free 0 1 rfl
        have k02 := HN.out.cell 0 2 rfl rfl
        have f02 := HN.out.free 0 2 rfl
        have k10 := HN.out.cell 1 0 rfl rfl
        have f10 := HN.out.free 1 0 rfl
        have k11 := HN.out.cell 1 1 rfl rfl
        have f11 := HN.out.free 1 1 rfl
        have k12 := HN.out.cell 1 2 rfl rfl
        have f12 := HN.out.free 1 2 rfl
        have k20 := HN.out.cell 2 0 rfl rfl
        have f20 := HN.out.free 2 0 rfl
        have k21 := HN.out.cell 2 1 rfl rfl
        have f21 := HN.out.free 2 1 rfl
        have k22 := HN.out.cell 2 2 rfl rfl
        have f22 := HN.out.free 2 2 rfl
        have k30 := HN.out.cell 3 0 rfl rfl
        have f30 := HN.out.free 3 0 rfl
        have k31 := HN.out.cell 3 1 rfl rfl
        have f31 := HN.out.free 3 1 rfl
        have k32 := HN.out.cell 3 2 rfl rfl
        have f32 := HN.out.free 3 2 rfl
        have k40 := HN.out.cell 4 0 rfl rfl
        have f40 := HN.out.free 4 0 rfl
        have k41 := HN.out.cell 4 1 rfl rfl
        have f41 := HN.out.free 4 1 rfl
        have k42 := HN.out.cell 4 2 rfl rfl
        have f42 := HN.out.free 4 2 rfl
        have HE := Lib.hid (HN.out)
        go_wp2_with fail
        refine bodyPost_ret (v := .bool true) (by simp [results, Tryz.results6, go_sem, k00, k01, k02, k10, k11, k12, k20, k21, k22, k30, k31, k32, k40, k41, k42]) rfl ?_
        exact ⟨rfl, HE.out.bel⟩
end Go.Proofs.YtmhainidincjhaaGreatDoor
