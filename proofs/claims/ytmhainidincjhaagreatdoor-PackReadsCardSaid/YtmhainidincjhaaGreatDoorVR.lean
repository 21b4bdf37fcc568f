/-
 What the laws stand on, part R: contracts and plain laws of DRead2, DRead3; the conditions are each law's own.
-/
import Derived.Test.YtmhainidincjhaaGreatDoorVV
import Derived.Test.YtmhainidincjhaaGreatDoorVX
import Derived.Test.YtmhainidincjhaaGreatDoorVB
import Derived.Test.YtmhainidincjhaaGreatDoorVE
import Derived.Lib.SlicesS
set_option linter.unusedVariables false
set_option linter.unusedSimpArgs false
set_option maxRecDepth 100000
set_option maxHeartbeats 16000000
namespace Go.Proofs.YtmhainidincjhaaGreatDoor
open Go.RowKit Go.Extern.Stop Go.Stop Go.Extern
theorem BS.pick2 {w W : World} {bs : List Bk} {ns : List Nm} (h : BS w bs ns W) (i j : Nat) {x y : Bk} (hi : bs[i]? = some x) (hj : bs[j]? = some y) (hij : i ≠ j) : BS w [x, y] ns W := by
 have ne : x.p ≠ y.p := by
  obtain ⟨li, rfl⟩ := List.getElem?_eq_some_iff.1 hi
  obtain ⟨lj, rfl⟩ := List.getElem?_eq_some_iff.1 hj
  have hp := List.pairwise_iff_getElem.1 h.nod
  rcases Nat.lt_or_gt_of_ne hij with h1 | h1
  ·
   exact hp i j li lj h1
  ·
   exact fun e => hp j i lj li h1 e.symm
 refine ⟨h.bel, fun b hb => ?_, ?_, h.num⟩
 ·
  simp only [List.mem_cons, List.not_mem_nil, or_false] at hb
  rcases hb with rfl | rfl
  ·
   exact h.box _ (List.mem_of_getElem? hi)
  ·
   exact h.box _ (List.mem_of_getElem? hj)
 ·
  simp [ne]
theorem IsF.keeps2 {w w' : World} {S : Nat → Prop} {b : Nat} {s : ByteArray} {k n : Int} (h : IsF w b s k n) (hk : Keeps w w' S) (hn : ¬ S b) : IsF w' b s k n := by
 have hl := h.lt
 obtain ⟨h0, h1, h2⟩ := h
 exact ⟨(hk.cell (a := ⟨b, 0, none⟩) hl hn).trans h0, (hk.cell (a := ⟨b, 1, none⟩) hl hn).trans h1, (hk.cell (a := ⟨b, 2, none⟩) hl hn).trans h2⟩
theorem wrap_at2 (n : Int) (s : ByteArray) (k : Int) (w : World) : Calls Tryz.prog 79 #[.iface 52 (.int .i64 n), .string s, .int .i64 k] w fun e w' => ∃ pb, e = .returned (eF pb) ∧ w.heap.size ≤ pb ∧ IsF w' pb s k n ∧ Below w.heap.size w w' :=
 (wrap_E n s k w).mono fun _ _ h => ⟨_, h.1, Nat.le_refl _, h.2.1, h.2.2 ▸ belowBox _ _⟩
theorem pread_none (s x y : ByteArray) (sg : Bool) (zm : Nat) (w : World) (ok : Bool) (HC : Hid (∀ W, Calls Tryz.prog 89 #[.string s, .string ⟨#[47]⟩] W fun e w' => e = .returned (.tuple #[.string x, .string y, .bool ok]) ∧ Below W.heap.size W w')) (HIR : Hid (∀ W, Calls Tryz.prog 90 #[.string x] W fun e w' => ∃ a c, e = .returned (.tuple #[.agg #[.bool sg, .slice a (lenW zm) c], .bool false]) ∧ NatW w' a c zm ∧ Below W.heap.size W w')) :
  Calls Tryz.prog 35 #[.string s] w (fun e w' => ∃ v, e = .returned (.tuple #[.agg #[.bool false, .slice none 0 0, .slice none 0 0], v]) ∧ ErrW w' v ⟨91, some (sNum, 0)⟩ ∧ Below w.heap.size w w') := by
 have HWR := Lib.hid (fun (n : Int) (s : ByteArray) (k : Int) (W : World) => wrap_at2 n s k W)
 obtain ⟨W0, hW0⟩ : ∃ W0, W0 = (w.alloc (.cells #[.bool false, .slice none 0 0, .slice none 0 0] 45)) := ⟨_, rfl⟩
 have hbs : BS w [⟨w.heap.size, 45, [.bool false, .slice none 0 0, .slice none 0 0]⟩] [] (w.alloc (.cells #[.bool false, .slice none 0 0, .slice none 0 0] 45)) :=
   ((BS.start w).alloc (p := w.heap.size) rfl 45 [.bool false, .slice none 0 0, .slice none 0 0] rfl)
 rw [← hW0] at hbs
 have HW0 := Lib.hid hW0
 have HN := Lib.hid hbs
 clear hW0 hbs
 go_enter Tryz.func35, Tryz.ntmps35
 go_wp2_with fail
 rw [← HW0.out]
 refine (HC.out _).mono ?_
 rintro e w1 ⟨rfl, hb⟩
 replace HN := Lib.hid (HN.out.call hb)
 clear hb 
 have ⟨k00, f00, k01, f01, k02, f02⟩ := HN.out.cf3 0 rfl
 go_wp2_with fail
 clear k00 f00 k01 f01 k02 f02
 refine (HIR.out _).mono ?_
 rintro e w2 ⟨a2, c2, rfl, hq0, hb⟩
 replace HN := Lib.hid ((HN.out.call hb).got hq0)
 clear hb hq0
 have ⟨k00, f00, k01, f01, k02, f02⟩ := HN.out.cf3 0 rfl
 have l0 := HN.out.lt 0 rfl
 have HP := Lib.hid (HN.out.alloc (p := w2.heap.size) rfl 43 [.bool sg, .slice a2 (lenW zm) c2] rfl)
 have ⟨k00p, f00p, k01p, f01p, k02p, f02p⟩ := HP.out.cf3 0 rfl
 have ⟨k10p, f10p, k11p, f11p⟩ := HP.out.cf2 1 rfl
 go_wp2_with fail
 clear k00 f00 k01 f01 k02 f02 l0 k00p f00p k01p f01p k02p f02p k10p f10p k11p f11p HN
 have HN := HP
 clear HP
 generalize (w2.alloc (.cells #[.bool sg, .slice a2 (lenW zm) c2] 43)) = wa3 at HN  ⊢
 have HLT := Lib.hid (HN.out.lt 0 rfl)
 refine (HWR.out 91 ⟨#[110, 117, 109, 98, 101, 114]⟩ (0) _).mono ?_
 rintro e w4 ⟨pb, rfl, hpb, hf, hb⟩
 replace HN := Lib.hid (HN.out.call hb)
 have HF := Lib.hid hf
 have HPB := Lib.hid hpb
 clear hb hf hpb
 have ⟨k00, f00, k01, f01, k02, f02⟩ := HN.out.cf3 0 rfl
 have ⟨k10, f10, k11, f11⟩ := HN.out.cf2 1 rfl
 have HE := Lib.hid ((((HN.out).set 0 0 rfl rfl (fun _ => by simp) (.bool false)).set 0 1 rfl rfl (fun _ => by simp) (.slice none 0 0)).set 0 2 rfl rfl (fun _ => by simp) (.slice none 0 0))
 have j0_0 := HE.out.cell 0 0 rfl rfl
 have j1_0 := HE.out.cell 0 1 rfl rfl
 have j2_0 := HE.out.cell 0 2 rfl rfl
 go_wp2_with fail
 refine bodyPost_ret (v := .tuple #[.agg #[.bool false, .slice none 0 0, .slice none 0 0], eF pb]) (by simp [results, Tryz.results35, go_sem, j0_0, j1_0, j2_0, k00, k01, k02, k10, k11]) rfl ?_
 exact ⟨_, rfl, ⟨pb, rfl, HF.out.keeps2 (set3k _ _ _ _ _) (by have := HPB.out; have := HLT.out; omega)⟩, HE.out.bel⟩
theorem pread_whole (s x y : ByteArray) (sg : Bool) (zm : Nat) (w : World) (qs : Bool) (qn qd : Nat) (HC : Hid (∀ W, Calls Tryz.prog 89 #[.string s, .string ⟨#[47]⟩] W fun e w' => e = .returned (.tuple #[.string x, .string y, .bool false]) ∧ Below W.heap.size W w')) (HIR : Hid (∀ W, Calls Tryz.prog 90 #[.string x] W fun e w' => ∃ a c, e = .returned (.tuple #[.agg #[.bool sg, .slice a (lenW zm) c], .bool true]) ∧ NatW w' a c zm ∧ Below W.heap.size W w'))
  (HWH : Hid (∀ a c W, NatW W a c zm → Calls Tryz.prog 91 #[.agg #[.bool sg, .slice a (lenW zm) c]] W fun e w' => ∃ a8 c8 b9 d9, e = .returned (.agg #[.bool qs, .slice a8 (lenW qn) c8, .slice b9 (lenW qd) d9]) ∧ NatW w' a8 c8 qn ∧ NatW w' b9 d9 qd ∧ Below W.heap.size W w')) :
  Calls Tryz.prog 35 #[.string s] w (fun e w' => ∃ a8 c8 b9 d9, e = .returned (.tuple #[.agg #[.bool qs, .slice a8 (lenW qn) c8, .slice b9 (lenW qd) d9], .nilIface]) ∧ NatW w' a8 c8 qn ∧ NatW w' b9 d9 qd ∧ Below w.heap.size w w') := by
 have HWR := Lib.hid (fun (n : Int) (s : ByteArray) (k : Int) (W : World) => wrap_at2 n s k W)
 obtain ⟨W0, hW0⟩ : ∃ W0, W0 = (w.alloc (.cells #[.bool false, .slice none 0 0, .slice none 0 0] 45)) := ⟨_, rfl⟩
 have hbs : BS w [⟨w.heap.size, 45, [.bool false, .slice none 0 0, .slice none 0 0]⟩] [] (w.alloc (.cells #[.bool false, .slice none 0 0, .slice none 0 0] 45)) :=
   ((BS.start w).alloc (p := w.heap.size) rfl 45 [.bool false, .slice none 0 0, .slice none 0 0] rfl)
 rw [← hW0] at hbs
 have HW0 := Lib.hid hW0
 have HN := Lib.hid hbs
 clear hW0 hbs
 go_enter Tryz.func35, Tryz.ntmps35
 go_wp2_with fail
 rw [← HW0.out]
 refine (HC.out _).mono ?_
 rintro e w1 ⟨rfl, hb⟩
 replace HN := Lib.hid (HN.out.call hb)
 clear hb 
 have ⟨k00, f00, k01, f01, k02, f02⟩ := HN.out.cf3 0 rfl
 go_wp2_with fail
 clear k00 f00 k01 f01 k02 f02
 refine (HIR.out _).mono ?_
 rintro e w2 ⟨a2, c2, rfl, hq0, hb⟩
 replace HN := Lib.hid ((HN.out.call hb).got hq0)
 clear hb hq0
 have ⟨k00, f00, k01, f01, k02, f02⟩ := HN.out.cf3 0 rfl
 have l0 := HN.out.lt 0 rfl
 have HP := Lib.hid (HN.out.alloc (p := w2.heap.size) rfl 43 [.bool sg, .slice a2 (lenW zm) c2] rfl)
 have ⟨k00p, f00p, k01p, f01p, k02p, f02p⟩ := HP.out.cf3 0 rfl
 have ⟨k10p, f10p, k11p, f11p⟩ := HP.out.cf2 1 rfl
 go_wp2_with fail
 clear k00 f00 k01 f01 k02 f02 l0 k00p f00p k01p f01p k02p f02p k10p f10p k11p f11p HN
 have HN := HP
 clear HP
 generalize (w2.alloc (.cells #[.bool sg, .slice a2 (lenW zm) c2] 43)) = wa3 at HN  ⊢
 refine (HWH.out a2 c2 _ (HN.out.nat 0 rfl)).mono ?_
 rintro e w4 ⟨a8, c8, b9, d9, rfl, hq0, hq1, hb⟩
 replace HN := Lib.hid (((HN.out.call hb).got hq0).got hq1)
 clear hb hq0 hq1
 have ⟨k00, f00, k01, f01, k02, f02⟩ := HN.out.cf3 0 rfl
 have ⟨k10, f10, k11, f11⟩ := HN.out.cf2 1 rfl
 have HE := Lib.hid ((((HN.out).set 0 0 rfl rfl (fun _ => by simp) (.bool qs)).set 0 1 rfl rfl (fun _ => by simp) (.slice a8 (lenW qn) c8)).set 0 2 rfl rfl (fun _ => by simp) (.slice b9 (lenW qd) d9))
 have j0_0 := HE.out.cell 0 0 rfl rfl
 have j1_0 := HE.out.cell 0 1 rfl rfl
 have j2_0 := HE.out.cell 0 2 rfl rfl
 go_wp2_with fail
 refine bodyPost_ret (v := .tuple #[.agg #[.bool qs, .slice a8 (lenW qn) c8, .slice b9 (lenW qd) d9], .nilIface]) (by simp [results, Tryz.results35, go_sem, j0_0, j1_0, j2_0, k00, k01, k02, k10, k11]) rfl ?_
 exact ⟨a8, c8, b9, d9, rfl, HE.out.nat 1 rfl, HE.out.nat 2 rfl, HE.out.bel⟩
theorem pread_div (s x y : ByteArray) (sg : Bool) (zm : Nat) (w : World) (hx : x.size ≤ 4398046511104) (d : Nat) (HC : Hid (∀ W, Calls Tryz.prog 89 #[.string s, .string ⟨#[47]⟩] W fun e w' => e = .returned (.tuple #[.string x, .string y, .bool true]) ∧ Below W.heap.size W w')) (HIR : Hid (∀ W, Calls Tryz.prog 90 #[.string x] W fun e w' => ∃ a c, e = .returned (.tuple #[.agg #[.bool sg, .slice a (lenW zm) c], .bool true]) ∧ NatW w' a c zm ∧ Below W.heap.size W w')) (HNR : Hid (∀ W, Calls Tryz.prog 92 #[.string y] W fun e w' => ∃ a c, e = .returned (.tuple #[.agg #[.slice a (lenW d) c], .bool false]) ∧ NatW w' a c d ∧ Below W.heap.size W w')) :
  Calls Tryz.prog 35 #[.string s] w (fun e w' => ∃ v, e = .returned (.tuple #[.agg #[.bool false, .slice none 0 0, .slice none 0 0], v]) ∧ ErrW w' v ⟨91, some (sDiv, (x.size : Int) + 1)⟩ ∧ Below w.heap.size w w') := by
 have hx0 : (0 : Int) ≤ (x.size : Int) + 1 := by omega
 have hx1 : (x.size : Int) + 1 ≤ 9223372036854775807 := by omega
 clear hx
 have HWR := Lib.hid (fun (n : Int) (s : ByteArray) (k : Int) (W : World) => wrap_at2 n s k W)
 obtain ⟨W0, hW0⟩ : ∃ W0, W0 = (w.alloc (.cells #[.bool false, .slice none 0 0, .slice none 0 0] 45)) := ⟨_, rfl⟩
 have hbs : BS w [⟨w.heap.size, 45, [.bool false, .slice none 0 0, .slice none 0 0]⟩] [] (w.alloc (.cells #[.bool false, .slice none 0 0, .slice none 0 0] 45)) :=
   ((BS.start w).alloc (p := w.heap.size) rfl 45 [.bool false, .slice none 0 0, .slice none 0 0] rfl)
 rw [← hW0] at hbs
 have HW0 := Lib.hid hW0
 have HN := Lib.hid hbs
 clear hW0 hbs
 go_enter Tryz.func35, Tryz.ntmps35
 go_wp2_with fail
 rw [← HW0.out]
 refine (HC.out _).mono ?_
 rintro e w1 ⟨rfl, hb⟩
 replace HN := Lib.hid (HN.out.call hb)
 clear hb 
 have ⟨k00, f00, k01, f01, k02, f02⟩ := HN.out.cf3 0 rfl
 go_wp2_with fail
 clear k00 f00 k01 f01 k02 f02
 refine (HIR.out _).mono ?_
 rintro e w2 ⟨a2, c2, rfl, hq0, hb⟩
 replace HN := Lib.hid ((HN.out.call hb).got hq0)
 clear hb hq0
 have ⟨k00, f00, k01, f01, k02, f02⟩ := HN.out.cf3 0 rfl
 have l0 := HN.out.lt 0 rfl
 have HP := Lib.hid (HN.out.alloc (p := w2.heap.size) rfl 43 [.bool sg, .slice a2 (lenW zm) c2] rfl)
 have ⟨k00p, f00p, k01p, f01p, k02p, f02p⟩ := HP.out.cf3 0 rfl
 have ⟨k10p, f10p, k11p, f11p⟩ := HP.out.cf2 1 rfl
 go_wp2_with fail
 clear k00 f00 k01 f01 k02 f02 l0 k00p f00p k01p f01p k02p f02p k10p f10p k11p f11p HN
 have HN := HP
 clear HP
 generalize (w2.alloc (.cells #[.bool sg, .slice a2 (lenW zm) c2] 43)) = wa3 at HN  ⊢
 refine (HNR.out _).mono ?_
 rintro e w4 ⟨a3, c3, rfl, hq0, hb⟩
 replace HN := Lib.hid ((HN.out.call hb).got hq0)
 clear hb hq0
 have ⟨k00, f00, k01, f01, k02, f02⟩ := HN.out.cf3 0 rfl
 have l0 := HN.out.lt 0 rfl
 have ⟨k10, f10, k11, f11⟩ := HN.out.cf2 1 rfl
 have l1 := HN.out.lt 1 rfl
 have HP := Lib.hid (HN.out.alloc (p := w4.heap.size) rfl 41 [.slice a3 (lenW d) c3] rfl)
 have ⟨k00p, f00p, k01p, f01p, k02p, f02p⟩ := HP.out.cf3 0 rfl
 have ⟨k10p, f10p, k11p, f11p⟩ := HP.out.cf2 1 rfl
 have ⟨k20p, f20p⟩ := HP.out.cf1 2 rfl
 go_wp2_with fail
 clear k00 f00 k01 f01 k02 f02 l0 k10 f10 k11 f11 l1 k00p f00p k01p f01p k02p f02p k10p f10p k11p f11p k20p f20p HN
 have HN := HP
 clear HP
 generalize (w4.alloc (.cells #[.slice a3 (lenW d) c3] 41)) = wa5 at HN  ⊢
 have HLT := Lib.hid (HN.out.lt 0 rfl)
 refine (HWR.out 91 ⟨#[100, 105, 118, 105, 115, 111, 114]⟩ ((x.size : Int) + 1) _).mono ?_
 rintro e w6 ⟨pb, rfl, hpb, hf, hb⟩
 replace HN := Lib.hid (HN.out.call hb)
 have HF := Lib.hid hf
 have HPB := Lib.hid hpb
 clear hb hf hpb
 have ⟨k00, f00, k01, f01, k02, f02⟩ := HN.out.cf3 0 rfl
 have ⟨k10, f10, k11, f11⟩ := HN.out.cf2 1 rfl
 have ⟨k20, f20⟩ := HN.out.cf1 2 rfl
 have HE := Lib.hid ((((HN.out).set 0 0 rfl rfl (fun _ => by simp) (.bool false)).set 0 1 rfl rfl (fun _ => by simp) (.slice none 0 0)).set 0 2 rfl rfl (fun _ => by simp) (.slice none 0 0))
 have j0_0 := HE.out.cell 0 0 rfl rfl
 have j1_0 := HE.out.cell 0 1 rfl rfl
 have j2_0 := HE.out.cell 0 2 rfl rfl
 go_wp2_with fail
 refine bodyPost_ret (v := .tuple #[.agg #[.bool false, .slice none 0 0, .slice none 0 0], eF pb]) (by simp [results, Tryz.results35, go_sem, j0_0, j1_0, j2_0, k00, k01, k02, k10, k11, k20]) rfl ?_
 exact ⟨_, rfl, ⟨pb, rfl, HF.out.keeps2 (set3k _ _ _ _ _) (by have := HPB.out; have := HLT.out; omega)⟩, HE.out.bel⟩
theorem pread_nought (s x y : ByteArray) (sg : Bool) (zm : Nat) (w : World) (hx : x.size ≤ 4398046511104) (d : Nat) (HC : Hid (∀ W, Calls Tryz.prog 89 #[.string s, .string ⟨#[47]⟩] W fun e w' => e = .returned (.tuple #[.string x, .string y, .bool true]) ∧ Below W.heap.size W w')) (HIR : Hid (∀ W, Calls Tryz.prog 90 #[.string x] W fun e w' => ∃ a c, e = .returned (.tuple #[.agg #[.bool sg, .slice a (lenW zm) c], .bool true]) ∧ NatW w' a c zm ∧ Below W.heap.size W w')) (HNR : Hid (∀ W, Calls Tryz.prog 92 #[.string y] W fun e w' => ∃ a c, e = .returned (.tuple #[.agg #[.slice a (lenW d) c], .bool true]) ∧ NatW w' a c d ∧ Below W.heap.size W w')) (HZ : Hid (∀ a c W, Calls Tryz.prog 69 #[.agg #[.slice a (lenW d) c]] W fun e w' => e = .returned (.bool true) ∧ Below W.heap.size W w')) :
  Calls Tryz.prog 35 #[.string s] w (fun e w' => ∃ v, e = .returned (.tuple #[.agg #[.bool false, .slice none 0 0, .slice none 0 0], v]) ∧ ErrW w' v ⟨91, some (sDiv, (x.size : Int) + 1)⟩ ∧ Below w.heap.size w w') := by
 have hx0 : (0 : Int) ≤ (x.size : Int) + 1 := by omega
 have hx1 : (x.size : Int) + 1 ≤ 9223372036854775807 := by omega
 clear hx
 have HWR := Lib.hid (fun (n : Int) (s : ByteArray) (k : Int) (W : World) => wrap_at2 n s k W)
 obtain ⟨W0, hW0⟩ : ∃ W0, W0 = (w.alloc (.cells #[.bool false, .slice none 0 0, .slice none 0 0] 45)) := ⟨_, rfl⟩
 have hbs : BS w [⟨w.heap.size, 45, [.bool false, .slice none 0 0, .slice none 0 0]⟩] [] (w.alloc (.cells #[.bool false, .slice none 0 0, .slice none 0 0] 45)) :=
   ((BS.start w).alloc (p := w.heap.size) rfl 45 [.bool false, .slice none 0 0, .slice none 0 0] rfl)
 rw [← hW0] at hbs
 have HW0 := Lib.hid hW0
 have HN := Lib.hid hbs
 clear hW0 hbs
 go_enter Tryz.func35, Tryz.ntmps35
 go_wp2_with fail
 rw [← HW0.out]
 refine (HC.out _).mono ?_
 rintro e w1 ⟨rfl, hb⟩
 replace HN := Lib.hid (HN.out.call hb)
 clear hb 
 have ⟨k00, f00, k01, f01, k02, f02⟩ := HN.out.cf3 0 rfl
 go_wp2_with fail
 clear k00 f00 k01 f01 k02 f02
 refine (HIR.out _).mono ?_
 rintro e w2 ⟨a2, c2, rfl, hq0, hb⟩
 replace HN := Lib.hid ((HN.out.call hb).got hq0)
 clear hb hq0
 have ⟨k00, f00, k01, f01, k02, f02⟩ := HN.out.cf3 0 rfl
 have l0 := HN.out.lt 0 rfl
 have HP := Lib.hid (HN.out.alloc (p := w2.heap.size) rfl 43 [.bool sg, .slice a2 (lenW zm) c2] rfl)
 have ⟨k00p, f00p, k01p, f01p, k02p, f02p⟩ := HP.out.cf3 0 rfl
 have ⟨k10p, f10p, k11p, f11p⟩ := HP.out.cf2 1 rfl
 go_wp2_with fail
 clear k00 f00 k01 f01 k02 f02 l0 k00p f00p k01p f01p k02p f02p k10p f10p k11p f11p HN
 have HN := HP
 clear HP
 generalize (w2.alloc (.cells #[.bool sg, .slice a2 (lenW zm) c2] 43)) = wa3 at HN  ⊢
 refine (HNR.out _).mono ?_
 rintro e w4 ⟨a3, c3, rfl, hq0, hb⟩
 replace HN := Lib.hid ((HN.out.call hb).got hq0)
 clear hb hq0
 have ⟨k00, f00, k01, f01, k02, f02⟩ := HN.out.cf3 0 rfl
 have l0 := HN.out.lt 0 rfl
 have ⟨k10, f10, k11, f11⟩ := HN.out.cf2 1 rfl
 have l1 := HN.out.lt 1 rfl
 have HP := Lib.hid (HN.out.alloc (p := w4.heap.size) rfl 41 [.slice a3 (lenW d) c3] rfl)
 have ⟨k00p, f00p, k01p, f01p, k02p, f02p⟩ := HP.out.cf3 0 rfl
 have ⟨k10p, f10p, k11p, f11p⟩ := HP.out.cf2 1 rfl
 have ⟨k20p, f20p⟩ := HP.out.cf1 2 rfl
 go_wp2_with fail
 clear k00 f00 k01 f01 k02 f02 l0 k10 f10 k11 f11 l1 k00p f00p k01p f01p k02p f02p k10p f10p k11p f11p k20p f20p HN
 have HN := HP
 clear HP
 generalize (w4.alloc (.cells #[.slice a3 (lenW d) c3] 41)) = wa5 at HN  ⊢
 refine (HZ.out a3 c3 _).mono ?_
 rintro e w6 ⟨rfl, hb⟩
 replace HN := Lib.hid (HN.out.call hb)
 clear hb 
 have ⟨k00, f00, k01, f01, k02, f02⟩ := HN.out.cf3 0 rfl
 have ⟨k10, f10, k11, f11⟩ := HN.out.cf2 1 rfl
 have ⟨k20, f20⟩ := HN.out.cf1 2 rfl
 go_wp2_with fail
 clear k00 f00 k01 f01 k02 f02 k10 f10 k11 f11 k20 f20
 have HLT := Lib.hid (HN.out.lt 0 rfl)
 refine (HWR.out 91 ⟨#[100, 105, 118, 105, 115, 111, 114]⟩ ((x.size : Int) + 1) _).mono ?_
 rintro e w7 ⟨pb, rfl, hpb, hf, hb⟩
 replace HN := Lib.hid (HN.out.call hb)
 have HF := Lib.hid hf
 have HPB := Lib.hid hpb
 clear hb hf hpb
 have ⟨k00, f00, k01, f01, k02, f02⟩ := HN.out.cf3 0 rfl
 have ⟨k10, f10, k11, f11⟩ := HN.out.cf2 1 rfl
 have ⟨k20, f20⟩ := HN.out.cf1 2 rfl
 have HE := Lib.hid ((((HN.out).set 0 0 rfl rfl (fun _ => by simp) (.bool false)).set 0 1 rfl rfl (fun _ => by simp) (.slice none 0 0)).set 0 2 rfl rfl (fun _ => by simp) (.slice none 0 0))
 have j0_0 := HE.out.cell 0 0 rfl rfl
 have j1_0 := HE.out.cell 0 1 rfl rfl
 have j2_0 := HE.out.cell 0 2 rfl rfl
 go_wp2_with fail
 refine bodyPost_ret (v := .tuple #[.agg #[.bool false, .slice none 0 0, .slice none 0 0], eF pb]) (by simp [results, Tryz.results35, go_sem, j0_0, j1_0, j2_0, k00, k01, k02, k10, k11, k20]) rfl ?_
 exact ⟨_, rfl, ⟨pb, rfl, HF.out.keeps2 (set3k _ _ _ _ _) (by have := HPB.out; have := HLT.out; omega)⟩, HE.out.bel⟩
theorem pread_other (s x y : ByteArray) (sg : Bool) (zm : Nat) (w : World) (d dm qn qd : Nat) (ds qs : Bool) (st : ByteArray) (hst : st ≠ s) (HC : Hid (∀ W, Calls Tryz.prog 89 #[.string s, .string ⟨#[47]⟩] W fun e w' => e = .returned (.tuple #[.string x, .string y, .bool true]) ∧ Below W.heap.size W w')) (HIR : Hid (∀ W, Calls Tryz.prog 90 #[.string x] W fun e w' => ∃ a c, e = .returned (.tuple #[.agg #[.bool sg, .slice a (lenW zm) c], .bool true]) ∧ NatW w' a c zm ∧ Below W.heap.size W w')) (HNR : Hid (∀ W, Calls Tryz.prog 92 #[.string y] W fun e w' => ∃ a c, e = .returned (.tuple #[.agg #[.slice a (lenW d) c], .bool true]) ∧ NatW w' a c d ∧ Below W.heap.size W w')) (HZ : Hid (∀ a c W, Calls Tryz.prog 69 #[.agg #[.slice a (lenW d) c]] W fun e w' => e = .returned (.bool false) ∧ Below W.heap.size W w'))
  (HI2 : Hid (∀ a c W, NatW W a c d → Calls Tryz.prog 72 #[.bool false, .agg #[.slice a (lenW d) c]] W fun e w' => ∃ a2 c2, e = .returned (.agg #[.bool ds, .slice a2 (lenW dm) c2]) ∧ NatW w' a2 c2 dm ∧ Below W.heap.size W w'))
  (HRN : Hid (∀ a c a2 c2 W, NatW W a c zm → NatW W a2 c2 dm → Calls Tryz.prog 70 #[.agg #[.bool sg, .slice a (lenW zm) c], .agg #[.bool ds, .slice a2 (lenW dm) c2]] W fun e w' => ∃ a8 c8 b9 d9, e = .returned (.tuple #[.agg #[.bool qs, .slice a8 (lenW qn) c8, .slice b9 (lenW qd) d9], .bool true]) ∧ NatW w' a8 c8 qn ∧ NatW w' b9 d9 qd ∧ Below W.heap.size W w'))
  (HRT : Hid (∀ a8 c8 b9 d9 W, NatW W a8 c8 qn → NatW W b9 d9 qd → Calls Tryz.prog 31 #[.agg #[.bool qs, .slice a8 (lenW qn) c8, .slice b9 (lenW qd) d9]] W fun e w' => e = .returned (.string st) ∧ Below W.heap.size W w')) :
  Calls Tryz.prog 35 #[.string s] w (fun e w' => ∃ v, e = .returned (.tuple #[.agg #[.bool false, .slice none 0 0, .slice none 0 0], v]) ∧ ErrW w' v ⟨91, none⟩ ∧ Below w.heap.size w w') := by
 have hst3 : (st.toList == s.toList) = false := (Lib.bytes_beq_false_iff st s).2 hst
 have hst4 : (!(st.toList == s.toList)) = true := by rw [hst3]; rfl
 clear hst
 have HWR := Lib.hid (fun (n : Int) (s : ByteArray) (k : Int) (W : World) => wrap_at2 n s k W)
 obtain ⟨W0, hW0⟩ : ∃ W0, W0 = (w.alloc (.cells #[.bool false, .slice none 0 0, .slice none 0 0] 45)) := ⟨_, rfl⟩
 have hbs : BS w [⟨w.heap.size, 45, [.bool false, .slice none 0 0, .slice none 0 0]⟩] [] (w.alloc (.cells #[.bool false, .slice none 0 0, .slice none 0 0] 45)) :=
   ((BS.start w).alloc (p := w.heap.size) rfl 45 [.bool false, .slice none 0 0, .slice none 0 0] rfl)
 rw [← hW0] at hbs
 have HW0 := Lib.hid hW0
 have HN := Lib.hid hbs
 clear hW0 hbs
 go_enter Tryz.func35, Tryz.ntmps35
 go_wp2_with fail
 rw [← HW0.out]
 refine (HC.out _).mono ?_
 rintro e w1 ⟨rfl, hb⟩
 replace HN := Lib.hid (HN.out.call hb)
 clear hb 
 have ⟨k00, f00, k01, f01, k02, f02⟩ := HN.out.cf3 0 rfl
 go_wp2_with fail
 clear k00 f00 k01 f01 k02 f02
 refine (HIR.out _).mono ?_
 rintro e w2 ⟨a2, c2, rfl, hq0, hb⟩
 replace HN := Lib.hid ((HN.out.call hb).got hq0)
 clear hb hq0
 have ⟨k00, f00, k01, f01, k02, f02⟩ := HN.out.cf3 0 rfl
 have l0 := HN.out.lt 0 rfl
 have HP := Lib.hid (HN.out.alloc (p := w2.heap.size) rfl 43 [.bool sg, .slice a2 (lenW zm) c2] rfl)
 have ⟨k00p, f00p, k01p, f01p, k02p, f02p⟩ := HP.out.cf3 0 rfl
 have ⟨k10p, f10p, k11p, f11p⟩ := HP.out.cf2 1 rfl
 go_wp2_with fail
 clear k00 f00 k01 f01 k02 f02 l0 k00p f00p k01p f01p k02p f02p k10p f10p k11p f11p HN
 have HN := HP
 clear HP
 generalize (w2.alloc (.cells #[.bool sg, .slice a2 (lenW zm) c2] 43)) = wa3 at HN  ⊢
 refine (HNR.out _).mono ?_
 rintro e w4 ⟨a3, c3, rfl, hq0, hb⟩
 replace HN := Lib.hid ((HN.out.call hb).got hq0)
 clear hb hq0
 have ⟨k00, f00, k01, f01, k02, f02⟩ := HN.out.cf3 0 rfl
 have l0 := HN.out.lt 0 rfl
 have ⟨k10, f10, k11, f11⟩ := HN.out.cf2 1 rfl
 have l1 := HN.out.lt 1 rfl
 have HP := Lib.hid (HN.out.alloc (p := w4.heap.size) rfl 41 [.slice a3 (lenW d) c3] rfl)
 have ⟨k00p, f00p, k01p, f01p, k02p, f02p⟩ := HP.out.cf3 0 rfl
 have ⟨k10p, f10p, k11p, f11p⟩ := HP.out.cf2 1 rfl
 have ⟨k20p, f20p⟩ := HP.out.cf1 2 rfl
 go_wp2_with fail
 clear k00 f00 k01 f01 k02 f02 l0 k10 f10 k11 f11 l1 k00p f00p k01p f01p k02p f02p k10p f10p k11p f11p k20p f20p HN
 have HN := HP
 clear HP
 generalize (w4.alloc (.cells #[.slice a3 (lenW d) c3] 41)) = wa5 at HN  ⊢
 refine (HZ.out a3 c3 _).mono ?_
 rintro e w6 ⟨rfl, hb⟩
 replace HN := Lib.hid (HN.out.call hb)
 clear hb 
 have ⟨k00, f00, k01, f01, k02, f02⟩ := HN.out.cf3 0 rfl
 have ⟨k10, f10, k11, f11⟩ := HN.out.cf2 1 rfl
 have ⟨k20, f20⟩ := HN.out.cf1 2 rfl
 go_upto_region 10 with fail
 clear k00 f00 k01 f01 k02 f02 k10 f10 k11 f11 k20 f20
 go_cut [10] (fun v10 wx => ∃ p10 a8 c8 b9 d9, v10 = .pointer (some ⟨p10, 0, none⟩) ∧ BS w [⟨w.heap.size, 45, [.bool false, .slice none 0 0, .slice none 0 0]⟩, ⟨p10, 45, [.bool qs, .slice a8 (lenW qn) c8, .slice b9 (lenW qd) d9]⟩] [⟨a8, c8, qn⟩, ⟨b9, d9, qd⟩] wx)
 case first =>
  replace HN := Lib.hid HN.out.drew
  refine wp_region_held_drew (S := fun W => W.cell? ⟨w2.heap.size, 0, none⟩ = some (.bool sg) ∧ W.cell? ⟨w2.heap.size, 1, none⟩ = some (.slice a2 (lenW zm) c2) ∧ W.cell? ⟨w4.heap.size, 0, none⟩ = some (.slice a3 (lenW d) c3)) (by kernel_rfl) (⟨HN.out.cell 1 0 rfl rfl, HN.out.cell 1 1 rfl rfl, HN.out.cell 2 0 rfl rfl⟩) (fun hHeld => ?_)
  generalize w6.drew = wd at HN hHeld ⊢
  refine tk 0 (some 50) (v := ?_) rfl rfl ?_ ?_
  rotate_left
  ·
   (intro w hSw; (try dsimp only at hSw); go_simp; (try with_reducible rfl))
  simp only [Act.put, stB, stZ, stS]
  refine tk 1 (some 51) (v := ?_) rfl rfl ?_ ?_
  rotate_left
  ·
   (intro w hSw; (try dsimp only at hSw); go_simp; (try with_reducible rfl))
  simp only [Act.put, stB, stZ, stS]
  refine wpAnyH_ready (rs := [2, 7]) (by kernel_rfl) (by simp) ?_
  refine (AllReadyH.cons rfl (fun K hK => ?_) (AllReadyH.cons rfl (fun K hK => ?_) AllReadyH.nil))
  ·
   skip
   go_simp
   refine (HI2.out _ _ _ (HN.out.nat 1 rfl)).mono ?_
   rintro e w7 ⟨a4, c4, rfl, hq0, hb⟩
   replace HN := Lib.hid ((HN.out.call hb).got hq0)
   clear hb hq0
   go_wp2_with fail
   refine hK.out _ _ (⟨HN.out.cell 1 0 rfl rfl, HN.out.cell 1 1 rfl rfl, HN.out.cell 2 0 rfl rfl⟩) (fun hHeld2 => ?_)
   clear hK K hHeld
   rename _ => hHeld
   try simp only [Act.put, stB, stZ, stS]
   refine wpAnyH_ready (rs := [3, 7]) (by kernel_rfl) (by simp) ?_
   refine (AllReadyH.cons rfl (fun K hK => ?_) (AllReadyH.cons rfl (fun K hK => ?_) AllReadyH.nil))
   ·
    skip
    go_simp
    refine (HRN.out _ _ _ _ _ (HN.out.nat 0 rfl) (HN.out.nat 2 rfl)).mono ?_
    rintro e w8 ⟨a8, c8, b9, d9, rfl, hq0, hq1, hb⟩
    replace HN := Lib.hid (((HN.out.call hb).got hq0).got hq1)
    clear hb hq0 hq1
    go_wp2_with fail
    refine hK.out _ _ (⟨HN.out.cell 1 0 rfl rfl, HN.out.cell 1 1 rfl rfl, HN.out.cell 2 0 rfl rfl⟩) (fun hHeld2 => ?_)
    clear hK K hHeld
    rename _ => hHeld
    try simp only [Act.put, stB, stZ, stS]
    refine tk 4 (some 49) (v := ?_) rfl rfl ?_ ?_
    rotate_left
    ·
     (intro w _; go_simp; (try with_reducible rfl))
    simp only [Act.put, stB, stZ, stS]
    refine tk 5 (some 54) (v := ?_) rfl rfl ?_ ?_
    rotate_left
    ·
     (intro w _; go_simp; (try with_reducible rfl))
    simp only [Act.put, stB, stZ, stS]
    refine tk 6 (some 55) (v := ?_) rfl rfl ?_ ?_
    rotate_left
    ·
     (intro w _; go_simp; (try with_reducible rfl))
    simp only [Act.put, stB, stZ, stS]
    refine wpAnyH_ready (rs := [7]) (by kernel_rfl) (by simp) ?_
    refine (AllReadyH.cons rfl (fun K hK => ?_) AllReadyH.nil)
    go_simp
    replace HN := Lib.hid (HN.out.alloc (p := w8.heap.size) rfl 45 [.bool false, .slice none 0 0, .slice none 0 0] rfl)
    generalize w8.alloc (.cells #[.bool false, .slice none 0 0, .slice none 0 0] 45) = wa9 at HN ⊢
    refine hK.out _ _ (⟨HN.out.cell 1 0 rfl rfl, HN.out.cell 1 1 rfl rfl, HN.out.cell 2 0 rfl rfl⟩) (fun hHeld2 => ?_)
    clear hK K hHeld
    rename _ => hHeld
    try simp only [Act.put, stB, stZ, stS]
    refine wpAnyH_ready (rs := [8]) (by kernel_rfl) (by simp) ?_
    refine (AllReadyH.cons rfl (fun K hK => ?_) AllReadyH.nil)
    have hc0 := HN.out.cell 3 0 rfl rfl
    have hf0 := HN.out.free 3 0 rfl
    have hc1 := HN.out.cell 3 1 rfl rfl
    have hf1 := HN.out.free 3 1 rfl
    have hc2 := HN.out.cell 3 2 rfl rfl
    have hf2 := HN.out.free 3 2 rfl
    go_simp
    clear hc0 hf0 hc1 hf1 hc2 hf2
    replace HN := Lib.hid ((((HN.out).set 3 0 rfl rfl (fun _ => by simp) (.bool qs)).set 3 1 rfl rfl (fun _ => by simp) (.slice a8 (lenW qn) c8)).set 3 2 rfl rfl (fun _ => by simp) (.slice b9 (lenW qd) d9))
    generalize (((wa9.setCell ⟨w8.heap.size, 0, none⟩ (.bool qs)).setCell ⟨w8.heap.size, 1, none⟩ (.slice a8 (lenW qn) c8)).setCell ⟨w8.heap.size, 2, none⟩ (.slice b9 (lenW qd) d9)) = wa10 at HN ⊢
    refine hK.out _ _ (⟨HN.out.cell 1 0 rfl rfl, HN.out.cell 1 1 rfl rfl, HN.out.cell 2 0 rfl rfl⟩) (fun hHeld2 => ?_)
    clear hK K hHeld
    rename _ => hHeld
    try simp only [Act.put, stB, stZ, stS]
    refine tk 9 (some 11) (v := ?_) rfl rfl ?_ ?_
    rotate_left
    ·
     (intro w _; go_simp; (try with_reducible rfl))
    simp only [Act.put, stB, stZ, stS]
    refine wpAnyH_done (by kernel_rfl) ?_ _
    go_wp2_with fail
    go_meet
    exact ⟨_, _, _, _, _, rfl, (HN.out.pick2 0 3 rfl rfl (by decide)).only (List.Sublist.refl _) (fun z hz => by
     simp only [List.mem_cons, List.not_mem_nil, or_false] at hz
     rcases hz with rfl | rfl <;> simp)⟩
   ·
    skip
    go_simp
    replace HN := Lib.hid (HN.out.alloc (p := w7.heap.size) rfl 45 [.bool false, .slice none 0 0, .slice none 0 0] rfl)
    generalize w7.alloc (.cells #[.bool false, .slice none 0 0, .slice none 0 0] 45) = wa8 at HN ⊢
    refine hK.out _ _ (⟨HN.out.cell 1 0 rfl rfl, HN.out.cell 1 1 rfl rfl, HN.out.cell 2 0 rfl rfl⟩) (fun hHeld2 => ?_)
    clear hK K hHeld
    rename _ => hHeld
    try simp only [Act.put, stB, stZ, stS]
    refine wpAnyH_ready (rs := [3]) (by kernel_rfl) (by simp) ?_
    refine (AllReadyH.cons rfl (fun K hK => ?_) AllReadyH.nil)
    go_simp
    refine (HRN.out _ _ _ _ _ (HN.out.nat 0 rfl) (HN.out.nat 2 rfl)).mono ?_
    rintro e w9 ⟨a8, c8, b9, d9, rfl, hq0, hq1, hb⟩
    replace HN := Lib.hid (((HN.out.call hb).got hq0).got hq1)
    clear hb hq0 hq1
    go_wp2_with fail
    refine hK.out _ _ (⟨HN.out.cell 1 0 rfl rfl, HN.out.cell 1 1 rfl rfl, HN.out.cell 2 0 rfl rfl⟩) (fun hHeld2 => ?_)
    clear hK K hHeld
    rename _ => hHeld
    try simp only [Act.put, stB, stZ, stS]
    refine tk 4 (some 49) (v := ?_) rfl rfl ?_ ?_
    rotate_left
    ·
     (intro w _; go_simp; (try with_reducible rfl))
    simp only [Act.put, stB, stZ, stS]
    refine tk 5 (some 54) (v := ?_) rfl rfl ?_ ?_
    rotate_left
    ·
     (intro w _; go_simp; (try with_reducible rfl))
    simp only [Act.put, stB, stZ, stS]
    refine tk 6 (some 55) (v := ?_) rfl rfl ?_ ?_
    rotate_left
    ·
     (intro w _; go_simp; (try with_reducible rfl))
    simp only [Act.put, stB, stZ, stS]
    refine wpAnyH_ready (rs := [8]) (by kernel_rfl) (by simp) ?_
    refine (AllReadyH.cons rfl (fun K hK => ?_) AllReadyH.nil)
    have hc0 := HN.out.cell 3 0 rfl rfl
    have hf0 := HN.out.free 3 0 rfl
    have hc1 := HN.out.cell 3 1 rfl rfl
    have hf1 := HN.out.free 3 1 rfl
    have hc2 := HN.out.cell 3 2 rfl rfl
    have hf2 := HN.out.free 3 2 rfl
    go_simp
    clear hc0 hf0 hc1 hf1 hc2 hf2
    replace HN := Lib.hid ((((HN.out).set 3 0 rfl rfl (fun _ => by simp) (.bool qs)).set 3 1 rfl rfl (fun _ => by simp) (.slice a8 (lenW qn) c8)).set 3 2 rfl rfl (fun _ => by simp) (.slice b9 (lenW qd) d9))
    generalize (((w9.setCell ⟨w7.heap.size, 0, none⟩ (.bool qs)).setCell ⟨w7.heap.size, 1, none⟩ (.slice a8 (lenW qn) c8)).setCell ⟨w7.heap.size, 2, none⟩ (.slice b9 (lenW qd) d9)) = wa10 at HN ⊢
    refine hK.out _ _ (⟨HN.out.cell 1 0 rfl rfl, HN.out.cell 1 1 rfl rfl, HN.out.cell 2 0 rfl rfl⟩) (fun hHeld2 => ?_)
    clear hK K hHeld
    rename _ => hHeld
    try simp only [Act.put, stB, stZ, stS]
    refine tk 9 (some 11) (v := ?_) rfl rfl ?_ ?_
    rotate_left
    ·
     (intro w _; go_simp; (try with_reducible rfl))
    simp only [Act.put, stB, stZ, stS]
    refine wpAnyH_done (by kernel_rfl) ?_ _
    go_wp2_with fail
    go_meet
    exact ⟨_, _, _, _, _, rfl, (HN.out.pick2 0 3 rfl rfl (by decide)).only (List.Sublist.refl _) (fun z hz => by
     simp only [List.mem_cons, List.not_mem_nil, or_false] at hz
     rcases hz with rfl | rfl <;> simp)⟩
  ·
   skip
   go_simp
   replace HN := Lib.hid (HN.out.alloc (p := wd.heap.size) rfl 45 [.bool false, .slice none 0 0, .slice none 0 0] rfl)
   generalize wd.alloc (.cells #[.bool false, .slice none 0 0, .slice none 0 0] 45) = wa7 at HN ⊢
   refine hK.out _ _ (⟨HN.out.cell 1 0 rfl rfl, HN.out.cell 1 1 rfl rfl, HN.out.cell 2 0 rfl rfl⟩) (fun hHeld2 => ?_)
   clear hK K hHeld
   rename _ => hHeld
   try simp only [Act.put, stB, stZ, stS]
   refine wpAnyH_ready (rs := [2]) (by kernel_rfl) (by simp) ?_
   refine (AllReadyH.cons rfl (fun K hK => ?_) AllReadyH.nil)
   go_simp
   refine (HI2.out _ _ _ (HN.out.nat 1 rfl)).mono ?_
   rintro e w8 ⟨a4, c4, rfl, hq0, hb⟩
   replace HN := Lib.hid ((HN.out.call hb).got hq0)
   clear hb hq0
   go_wp2_with fail
   refine hK.out _ _ (⟨HN.out.cell 1 0 rfl rfl, HN.out.cell 1 1 rfl rfl, HN.out.cell 2 0 rfl rfl⟩) (fun hHeld2 => ?_)
   clear hK K hHeld
   rename _ => hHeld
   try simp only [Act.put, stB, stZ, stS]
   refine wpAnyH_ready (rs := [3]) (by kernel_rfl) (by simp) ?_
   refine (AllReadyH.cons rfl (fun K hK => ?_) AllReadyH.nil)
   go_simp
   refine (HRN.out _ _ _ _ _ (HN.out.nat 0 rfl) (HN.out.nat 2 rfl)).mono ?_
   rintro e w9 ⟨a8, c8, b9, d9, rfl, hq0, hq1, hb⟩
   replace HN := Lib.hid (((HN.out.call hb).got hq0).got hq1)
   clear hb hq0 hq1
   go_wp2_with fail
   refine hK.out _ _ (⟨HN.out.cell 1 0 rfl rfl, HN.out.cell 1 1 rfl rfl, HN.out.cell 2 0 rfl rfl⟩) (fun hHeld2 => ?_)
   clear hK K hHeld
   rename _ => hHeld
   try simp only [Act.put, stB, stZ, stS]
   refine tk 4 (some 49) (v := ?_) rfl rfl ?_ ?_
   rotate_left
   ·
    (intro w _; go_simp; (try with_reducible rfl))
   simp only [Act.put, stB, stZ, stS]
   refine tk 5 (some 54) (v := ?_) rfl rfl ?_ ?_
   rotate_left
   ·
    (intro w _; go_simp; (try with_reducible rfl))
   simp only [Act.put, stB, stZ, stS]
   refine tk 6 (some 55) (v := ?_) rfl rfl ?_ ?_
   rotate_left
   ·
    (intro w _; go_simp; (try with_reducible rfl))
   simp only [Act.put, stB, stZ, stS]
   refine wpAnyH_ready (rs := [8]) (by kernel_rfl) (by simp) ?_
   refine (AllReadyH.cons rfl (fun K hK => ?_) AllReadyH.nil)
   have hc0 := HN.out.cell 3 0 rfl rfl
   have hf0 := HN.out.free 3 0 rfl
   have hc1 := HN.out.cell 3 1 rfl rfl
   have hf1 := HN.out.free 3 1 rfl
   have hc2 := HN.out.cell 3 2 rfl rfl
   have hf2 := HN.out.free 3 2 rfl
   go_simp
   clear hc0 hf0 hc1 hf1 hc2 hf2
   replace HN := Lib.hid ((((HN.out).set 3 0 rfl rfl (fun _ => by simp) (.bool qs)).set 3 1 rfl rfl (fun _ => by simp) (.slice a8 (lenW qn) c8)).set 3 2 rfl rfl (fun _ => by simp) (.slice b9 (lenW qd) d9))
   generalize (((w9.setCell ⟨wd.heap.size, 0, none⟩ (.bool qs)).setCell ⟨wd.heap.size, 1, none⟩ (.slice a8 (lenW qn) c8)).setCell ⟨wd.heap.size, 2, none⟩ (.slice b9 (lenW qd) d9)) = wa10 at HN ⊢
   refine hK.out _ _ (⟨HN.out.cell 1 0 rfl rfl, HN.out.cell 1 1 rfl rfl, HN.out.cell 2 0 rfl rfl⟩) (fun hHeld2 => ?_)
   clear hK K hHeld
   rename _ => hHeld
   try simp only [Act.put, stB, stZ, stS]
   refine tk 9 (some 11) (v := ?_) rfl rfl ?_ ?_
   rotate_left
   ·
    (intro w _; go_simp; (try with_reducible rfl))
   simp only [Act.put, stB, stZ, stS]
   refine wpAnyH_done (by kernel_rfl) ?_ _
   go_wp2_with fail
   go_meet
   exact ⟨_, _, _, _, _, rfl, (HN.out.pick2 0 3 rfl rfl (by decide)).only (List.Sublist.refl _) (fun z hz => by
    simp only [List.mem_cons, List.not_mem_nil, or_false] at hz
    rcases hz with rfl | rfl <;> simp)⟩
 case rest =>
  obtain ⟨w7, rfl⟩ : ∃ w7 : World, w7 = wc := ⟨_, rfl⟩
  obtain ⟨p10, a8, c8, b9, d9, rfl, hn0⟩ := hcut
  have HN := Lib.hid hn0
  clear hn0
  have ⟨k00, f00, k01, f01, k02, f02⟩ := HN.out.cf3 0 rfl
  have ⟨k10, f10, k11, f11, k12, f12⟩ := HN.out.cf3 1 rfl
  go_wp2_with fail
  clear k00 f00 k01 f01 k02 f02 k10 f10 k11 f11 k12 f12
  refine (HRT.out a8 c8 b9 d9 _ (HN.out.nat 0 rfl) (HN.out.nat 1 rfl)).mono ?_
  rintro e w8 ⟨rfl, hb⟩
  replace HN := Lib.hid (HN.out.call hb)
  clear hb 
  have ⟨k00, f00, k01, f01, k02, f02⟩ := HN.out.cf3 0 rfl
  have ⟨k10, f10, k11, f11, k12, f12⟩ := HN.out.cf3 1 rfl
  have HE := Lib.hid ((((HN.out).set 0 0 rfl rfl (fun _ => by simp) (.bool false)).set 0 1 rfl rfl (fun _ => by simp) (.slice none 0 0)).set 0 2 rfl rfl (fun _ => by simp) (.slice none 0 0))
  have j0_0 := HE.out.cell 0 0 rfl rfl
  have j1_0 := HE.out.cell 0 1 rfl rfl
  have j2_0 := HE.out.cell 0 2 rfl rfl
  go_wp2_with fail
  refine bodyPost_ret (v := .tuple #[.agg #[.bool false, .slice none 0 0, .slice none 0 0], eE 91]) (by simp [results, Tryz.results35, go_sem, j0_0, j1_0, j2_0, k00, k01, k02, k10, k11, k12, eE]) rfl ?_
  exact ⟨_, rfl, rfl, HE.out.bel⟩
theorem pread_frac (s x y : ByteArray) (sg : Bool) (zm : Nat) (w : World) (d dm qn qd : Nat) (ds qs : Bool) (HC : Hid (∀ W, Calls Tryz.prog 89 #[.string s, .string ⟨#[47]⟩] W fun e w' => e = .returned (.tuple #[.string x, .string y, .bool true]) ∧ Below W.heap.size W w')) (HIR : Hid (∀ W, Calls Tryz.prog 90 #[.string x] W fun e w' => ∃ a c, e = .returned (.tuple #[.agg #[.bool sg, .slice a (lenW zm) c], .bool true]) ∧ NatW w' a c zm ∧ Below W.heap.size W w')) (HNR : Hid (∀ W, Calls Tryz.prog 92 #[.string y] W fun e w' => ∃ a c, e = .returned (.tuple #[.agg #[.slice a (lenW d) c], .bool true]) ∧ NatW w' a c d ∧ Below W.heap.size W w')) (HZ : Hid (∀ a c W, Calls Tryz.prog 69 #[.agg #[.slice a (lenW d) c]] W fun e w' => e = .returned (.bool false) ∧ Below W.heap.size W w'))
  (HI2 : Hid (∀ a c W, NatW W a c d → Calls Tryz.prog 72 #[.bool false, .agg #[.slice a (lenW d) c]] W fun e w' => ∃ a2 c2, e = .returned (.agg #[.bool ds, .slice a2 (lenW dm) c2]) ∧ NatW w' a2 c2 dm ∧ Below W.heap.size W w'))
  (HRN : Hid (∀ a c a2 c2 W, NatW W a c zm → NatW W a2 c2 dm → Calls Tryz.prog 70 #[.agg #[.bool sg, .slice a (lenW zm) c], .agg #[.bool ds, .slice a2 (lenW dm) c2]] W fun e w' => ∃ a8 c8 b9 d9, e = .returned (.tuple #[.agg #[.bool qs, .slice a8 (lenW qn) c8, .slice b9 (lenW qd) d9], .bool true]) ∧ NatW w' a8 c8 qn ∧ NatW w' b9 d9 qd ∧ Below W.heap.size W w'))
  (HRT : Hid (∀ a8 c8 b9 d9 W, NatW W a8 c8 qn → NatW W b9 d9 qd → Calls Tryz.prog 31 #[.agg #[.bool qs, .slice a8 (lenW qn) c8, .slice b9 (lenW qd) d9]] W fun e w' => e = .returned (.string s) ∧ Below W.heap.size W w')) :
  Calls Tryz.prog 35 #[.string s] w (fun e w' => ∃ a8 c8 b9 d9, e = .returned (.tuple #[.agg #[.bool qs, .slice a8 (lenW qn) c8, .slice b9 (lenW qd) d9], .nilIface]) ∧ NatW w' a8 c8 qn ∧ NatW w' b9 d9 qd ∧ Below w.heap.size w w') := by
 have HWR := Lib.hid (fun (n : Int) (s : ByteArray) (k : Int) (W : World) => wrap_at2 n s k W)
 obtain ⟨W0, hW0⟩ : ∃ W0, W0 = (w.alloc (.cells #[.bool false, .slice none 0 0, .slice none 0 0] 45)) := ⟨_, rfl⟩
 have hbs : BS w [⟨w.heap.size, 45, [.bool false, .slice none 0 0, .slice none 0 0]⟩] [] (w.alloc (.cells #[.bool false, .slice none 0 0, .slice none 0 0] 45)) :=
   ((BS.start w).alloc (p := w.heap.size) rfl 45 [.bool false, .slice none 0 0, .slice none 0 0] rfl)
 rw [← hW0] at hbs
 have HW0 := Lib.hid hW0
 have HN := Lib.hid hbs
 clear hW0 hbs
 go_enter Tryz.func35, Tryz.ntmps35
 go_wp2_with fail
 rw [← HW0.out]
 refine (HC.out _).mono ?_
 rintro e w1 ⟨rfl, hb⟩
 replace HN := Lib.hid (HN.out.call hb)
 clear hb 
 have ⟨k00, f00, k01, f01, k02, f02⟩ := HN.out.cf3 0 rfl
 go_wp2_with fail
 clear k00 f00 k01 f01 k02 f02
 refine (HIR.out _).mono ?_
 rintro e w2 ⟨a2, c2, rfl, hq0, hb⟩
 replace HN := Lib.hid ((HN.out.call hb).got hq0)
 clear hb hq0
 have ⟨k00, f00, k01, f01, k02, f02⟩ := HN.out.cf3 0 rfl
 have l0 := HN.out.lt 0 rfl
 have HP := Lib.hid (HN.out.alloc (p := w2.heap.size) rfl 43 [.bool sg, .slice a2 (lenW zm) c2] rfl)
 have ⟨k00p, f00p, k01p, f01p, k02p, f02p⟩ := HP.out.cf3 0 rfl
 have ⟨k10p, f10p, k11p, f11p⟩ := HP.out.cf2 1 rfl
 go_wp2_with fail
 clear k00 f00 k01 f01 k02 f02 l0 k00p f00p k01p f01p k02p f02p k10p f10p k11p f11p HN
 have HN := HP
 clear HP
 generalize (w2.alloc (.cells #[.bool sg, .slice a2 (lenW zm) c2] 43)) = wa3 at HN  ⊢
 refine (HNR.out _).mono ?_
 rintro e w4 ⟨a3, c3, rfl, hq0, hb⟩
 replace HN := Lib.hid ((HN.out.call hb).got hq0)
 clear hb hq0
 have ⟨k00, f00, k01, f01, k02, f02⟩ := HN.out.cf3 0 rfl
 have l0 := HN.out.lt 0 rfl
 have ⟨k10, f10, k11, f11⟩ := HN.out.cf2 1 rfl
 have l1 := HN.out.lt 1 rfl
 have HP := Lib.hid (HN.out.alloc (p := w4.heap.size) rfl 41 [.slice a3 (lenW d) c3] rfl)
 have ⟨k00p, f00p, k01p, f01p, k02p, f02p⟩ := HP.out.cf3 0 rfl
 have ⟨k10p, f10p, k11p, f11p⟩ := HP.out.cf2 1 rfl
 have ⟨k20p, f20p⟩ := HP.out.cf1 2 rfl
 go_wp2_with fail
 clear k00 f00 k01 f01 k02 f02 l0 k10 f10 k11 f11 l1 k00p f00p k01p f01p k02p f02p k10p f10p k11p f11p k20p f20p HN
 have HN := HP
 clear HP
 generalize (w4.alloc (.cells #[.slice a3 (lenW d) c3] 41)) = wa5 at HN  ⊢
 refine (HZ.out a3 c3 _).mono ?_
 rintro e w6 ⟨rfl, hb⟩
 replace HN := Lib.hid (HN.out.call hb)
 clear hb 
 have ⟨k00, f00, k01, f01, k02, f02⟩ := HN.out.cf3 0 rfl
 have ⟨k10, f10, k11, f11⟩ := HN.out.cf2 1 rfl
 have ⟨k20, f20⟩ := HN.out.cf1 2 rfl
 go_upto_region 10 with fail
 clear k00 f00 k01 f01 k02 f02 k10 f10 k11 f11 k20 f20
 go_cut [10] (fun v10 wx => ∃ p10 a8 c8 b9 d9, v10 = .pointer (some ⟨p10, 0, none⟩) ∧ BS w [⟨w.heap.size, 45, [.bool false, .slice none 0 0, .slice none 0 0]⟩, ⟨p10, 45, [.bool qs, .slice a8 (lenW qn) c8, .slice b9 (lenW qd) d9]⟩] [⟨a8, c8, qn⟩, ⟨b9, d9, qd⟩] wx)
 case first =>
  replace HN := Lib.hid HN.out.drew
  refine wp_region_held_drew (S := fun W => W.cell? ⟨w2.heap.size, 0, none⟩ = some (.bool sg) ∧ W.cell? ⟨w2.heap.size, 1, none⟩ = some (.slice a2 (lenW zm) c2) ∧ W.cell? ⟨w4.heap.size, 0, none⟩ = some (.slice a3 (lenW d) c3)) (by kernel_rfl) (⟨HN.out.cell 1 0 rfl rfl, HN.out.cell 1 1 rfl rfl, HN.out.cell 2 0 rfl rfl⟩) (fun hHeld => ?_)
  generalize w6.drew = wd at HN hHeld ⊢
  refine tk 0 (some 50) (v := ?_) rfl rfl ?_ ?_
  rotate_left
  ·
   (intro w hSw; (try dsimp only at hSw); go_simp; (try with_reducible rfl))
  simp only [Act.put, stB, stZ, stS]
  refine tk 1 (some 51) (v := ?_) rfl rfl ?_ ?_
  rotate_left
  ·
   (intro w hSw; (try dsimp only at hSw); go_simp; (try with_reducible rfl))
  simp only [Act.put, stB, stZ, stS]
  refine wpAnyH_ready (rs := [2, 7]) (by kernel_rfl) (by simp) ?_
  refine (AllReadyH.cons rfl (fun K hK => ?_) (AllReadyH.cons rfl (fun K hK => ?_) AllReadyH.nil))
  ·
   skip
   go_simp
   refine (HI2.out _ _ _ (HN.out.nat 1 rfl)).mono ?_
   rintro e w7 ⟨a4, c4, rfl, hq0, hb⟩
   replace HN := Lib.hid ((HN.out.call hb).got hq0)
   clear hb hq0
   go_wp2_with fail
   refine hK.out _ _ (⟨HN.out.cell 1 0 rfl rfl, HN.out.cell 1 1 rfl rfl, HN.out.cell 2 0 rfl rfl⟩) (fun hHeld2 => ?_)
   clear hK K hHeld
   rename _ => hHeld
   try simp only [Act.put, stB, stZ, stS]
   refine wpAnyH_ready (rs := [3, 7]) (by kernel_rfl) (by simp) ?_
   refine (AllReadyH.cons rfl (fun K hK => ?_) (AllReadyH.cons rfl (fun K hK => ?_) AllReadyH.nil))
   ·
    skip
    go_simp
    refine (HRN.out _ _ _ _ _ (HN.out.nat 0 rfl) (HN.out.nat 2 rfl)).mono ?_
    rintro e w8 ⟨a8, c8, b9, d9, rfl, hq0, hq1, hb⟩
    replace HN := Lib.hid (((HN.out.call hb).got hq0).got hq1)
    clear hb hq0 hq1
    go_wp2_with fail
    refine hK.out _ _ (⟨HN.out.cell 1 0 rfl rfl, HN.out.cell 1 1 rfl rfl, HN.out.cell 2 0 rfl rfl⟩) (fun hHeld2 => ?_)
    clear hK K hHeld
    rename _ => hHeld
    try simp only [Act.put, stB, stZ, stS]
    refine tk 4 (some 49) (v := ?_) rfl rfl ?_ ?_
    rotate_left
    ·
     (intro w _; go_simp; (try with_reducible rfl))
    simp only [Act.put, stB, stZ, stS]
    refine tk 5 (some 54) (v := ?_) rfl rfl ?_ ?_
    rotate_left
    ·
     (intro w _; go_simp; (try with_reducible rfl))
    simp only [Act.put, stB, stZ, stS]
    refine tk 6 (some 55) (v := ?_) rfl rfl ?_ ?_
    rotate_left
    ·
     (intro w _; go_simp; (try with_reducible rfl))
    simp only [Act.put, stB, stZ, stS]
    refine wpAnyH_ready (rs := [7]) (by kernel_rfl) (by simp) ?_
    refine (AllReadyH.cons rfl (fun K hK => ?_) AllReadyH.nil)
    go_simp
    replace HN := Lib.hid (HN.out.alloc (p := w8.heap.size) rfl 45 [.bool false, .slice none 0 0, .slice none 0 0] rfl)
    generalize w8.alloc (.cells #[.bool false, .slice none 0 0, .slice none 0 0] 45) = wa9 at HN ⊢
    refine hK.out _ _ (⟨HN.out.cell 1 0 rfl rfl, HN.out.cell 1 1 rfl rfl, HN.out.cell 2 0 rfl rfl⟩) (fun hHeld2 => ?_)
    clear hK K hHeld
    rename _ => hHeld
    try simp only [Act.put, stB, stZ, stS]
    refine wpAnyH_ready (rs := [8]) (by kernel_rfl) (by simp) ?_
    refine (AllReadyH.cons rfl (fun K hK => ?_) AllReadyH.nil)
    have hc0 := HN.out.cell 3 0 rfl rfl
    have hf0 := HN.out.free 3 0 rfl
    have hc1 := HN.out.cell 3 1 rfl rfl
    have hf1 := HN.out.free 3 1 rfl
    have hc2 := HN.out.cell 3 2 rfl rfl
    have hf2 := HN.out.free 3 2 rfl
    go_simp
    clear hc0 hf0 hc1 hf1 hc2 hf2
    replace HN := Lib.hid ((((HN.out).set 3 0 rfl rfl (fun _ => by simp) (.bool qs)).set 3 1 rfl rfl (fun _ => by simp) (.slice a8 (lenW qn) c8)).set 3 2 rfl rfl (fun _ => by simp) (.slice b9 (lenW qd) d9))
    generalize (((wa9.setCell ⟨w8.heap.size, 0, none⟩ (.bool qs)).setCell ⟨w8.heap.size, 1, none⟩ (.slice a8 (lenW qn) c8)).setCell ⟨w8.heap.size, 2, none⟩ (.slice b9 (lenW qd) d9)) = wa10 at HN ⊢
    refine hK.out _ _ (⟨HN.out.cell 1 0 rfl rfl, HN.out.cell 1 1 rfl rfl, HN.out.cell 2 0 rfl rfl⟩) (fun hHeld2 => ?_)
    clear hK K hHeld
    rename _ => hHeld
    try simp only [Act.put, stB, stZ, stS]
    refine tk 9 (some 11) (v := ?_) rfl rfl ?_ ?_
    rotate_left
    ·
     (intro w _; go_simp; (try with_reducible rfl))
    simp only [Act.put, stB, stZ, stS]
    refine wpAnyH_done (by kernel_rfl) ?_ _
    go_wp2_with fail
    go_meet
    exact ⟨_, _, _, _, _, rfl, (HN.out.pick2 0 3 rfl rfl (by decide)).only (List.Sublist.refl _) (fun z hz => by
     simp only [List.mem_cons, List.not_mem_nil, or_false] at hz
     rcases hz with rfl | rfl <;> simp)⟩
   ·
    skip
    go_simp
    replace HN := Lib.hid (HN.out.alloc (p := w7.heap.size) rfl 45 [.bool false, .slice none 0 0, .slice none 0 0] rfl)
    generalize w7.alloc (.cells #[.bool false, .slice none 0 0, .slice none 0 0] 45) = wa8 at HN ⊢
    refine hK.out _ _ (⟨HN.out.cell 1 0 rfl rfl, HN.out.cell 1 1 rfl rfl, HN.out.cell 2 0 rfl rfl⟩) (fun hHeld2 => ?_)
    clear hK K hHeld
    rename _ => hHeld
    try simp only [Act.put, stB, stZ, stS]
    refine wpAnyH_ready (rs := [3]) (by kernel_rfl) (by simp) ?_
    refine (AllReadyH.cons rfl (fun K hK => ?_) AllReadyH.nil)
    go_simp
    refine (HRN.out _ _ _ _ _ (HN.out.nat 0 rfl) (HN.out.nat 2 rfl)).mono ?_
    rintro e w9 ⟨a8, c8, b9, d9, rfl, hq0, hq1, hb⟩
    replace HN := Lib.hid (((HN.out.call hb).got hq0).got hq1)
    clear hb hq0 hq1
    go_wp2_with fail
    refine hK.out _ _ (⟨HN.out.cell 1 0 rfl rfl, HN.out.cell 1 1 rfl rfl, HN.out.cell 2 0 rfl rfl⟩) (fun hHeld2 => ?_)
    clear hK K hHeld
    rename _ => hHeld
    try simp only [Act.put, stB, stZ, stS]
    refine tk 4 (some 49) (v := ?_) rfl rfl ?_ ?_
    rotate_left
    ·
     (intro w _; go_simp; (try with_reducible rfl))
    simp only [Act.put, stB, stZ, stS]
    refine tk 5 (some 54) (v := ?_) rfl rfl ?_ ?_
    rotate_left
    ·
     (intro w _; go_simp; (try with_reducible rfl))
    simp only [Act.put, stB, stZ, stS]
    refine tk 6 (some 55) (v := ?_) rfl rfl ?_ ?_
    rotate_left
    ·
     (intro w _; go_simp; (try with_reducible rfl))
    simp only [Act.put, stB, stZ, stS]
    refine wpAnyH_ready (rs := [8]) (by kernel_rfl) (by simp) ?_
    refine (AllReadyH.cons rfl (fun K hK => ?_) AllReadyH.nil)
    have hc0 := HN.out.cell 3 0 rfl rfl
    have hf0 := HN.out.free 3 0 rfl
    have hc1 := HN.out.cell 3 1 rfl rfl
    have hf1 := HN.out.free 3 1 rfl
    have hc2 := HN.out.cell 3 2 rfl rfl
    have hf2 := HN.out.free 3 2 rfl
    go_simp
    clear hc0 hf0 hc1 hf1 hc2 hf2
    replace HN := Lib.hid ((((HN.out).set 3 0 rfl rfl (fun _ => by simp) (.bool qs)).set 3 1 rfl rfl (fun _ => by simp) (.slice a8 (lenW qn) c8)).set 3 2 rfl rfl (fun _ => by simp) (.slice b9 (lenW qd) d9))
    generalize (((w9.setCell ⟨w7.heap.size, 0, none⟩ (.bool qs)).setCell ⟨w7.heap.size, 1, none⟩ (.slice a8 (lenW qn) c8)).setCell ⟨w7.heap.size, 2, none⟩ (.slice b9 (lenW qd) d9)) = wa10 at HN ⊢
    refine hK.out _ _ (⟨HN.out.cell 1 0 rfl rfl, HN.out.cell 1 1 rfl rfl, HN.out.cell 2 0 rfl rfl⟩) (fun hHeld2 => ?_)
    clear hK K hHeld
    rename _ => hHeld
    try simp only [Act.put, stB, stZ, stS]
    refine tk 9 (some 11) (v := ?_) rfl rfl ?_ ?_
    rotate_left
    ·
     (intro w _; go_simp; (try with_reducible rfl))
    simp only [Act.put, stB, stZ, stS]
    refine wpAnyH_done (by kernel_rfl) ?_ _
    go_wp2_with fail
    go_meet
    exact ⟨_, _, _, _, _, rfl, (HN.out.pick2 0 3 rfl rfl (by decide)).only (List.Sublist.refl _) (fun z hz => by
     simp only [List.mem_cons, List.not_mem_nil, or_false] at hz
     rcases hz with rfl | rfl <;> simp)⟩
  ·
   skip
   go_simp
   replace HN := Lib.hid (HN.out.alloc (p := wd.heap.size) rfl 45 [.bool false, .slice none 0 0, .slice none 0 0] rfl)
   generalize wd.alloc (.cells #[.bool false, .slice none 0 0, .slice none 0 0] 45) = wa7 at HN ⊢
   refine hK.out _ _ (⟨HN.out.cell 1 0 rfl rfl, HN.out.cell 1 1 rfl rfl, HN.out.cell 2 0 rfl rfl⟩) (fun hHeld2 => ?_)
   clear hK K hHeld
   rename _ => hHeld
   try simp only [Act.put, stB, stZ, stS]
   refine wpAnyH_ready (rs := [2]) (by kernel_rfl) (by simp) ?_
   refine (AllReadyH.cons rfl (fun K hK => ?_) AllReadyH.nil)
   go_simp
   refine (HI2.out _ _ _ (HN.out.nat 1 rfl)).mono ?_
   rintro e w8 ⟨a4, c4, rfl, hq0, hb⟩
   replace HN := Lib.hid ((HN.out.call hb).got hq0)
   clear hb hq0
   go_wp2_with fail
   refine hK.out _ _ (⟨HN.out.cell 1 0 rfl rfl, HN.out.cell 1 1 rfl rfl, HN.out.cell 2 0 rfl rfl⟩) (fun hHeld2 => ?_)
   clear hK K hHeld
   rename _ => hHeld
   try simp only [Act.put, stB, stZ, stS]
   refine wpAnyH_ready (rs := [3]) (by kernel_rfl) (by simp) ?_
   refine (AllReadyH.cons rfl (fun K hK => ?_) AllReadyH.nil)
   go_simp
   refine (HRN.out _ _ _ _ _ (HN.out.nat 0 rfl) (HN.out.nat 2 rfl)).mono ?_
   rintro e w9 ⟨a8, c8, b9, d9, rfl, hq0, hq1, hb⟩
   replace HN := Lib.hid (((HN.out.call hb).got hq0).got hq1)
   clear hb hq0 hq1
   go_wp2_with fail
   refine hK.out _ _ (⟨HN.out.cell 1 0 rfl rfl, HN.out.cell 1 1 rfl rfl, HN.out.cell 2 0 rfl rfl⟩) (fun hHeld2 => ?_)
   clear hK K hHeld
   rename _ => hHeld
   try simp only [Act.put, stB, stZ, stS]
   refine tk 4 (some 49) (v := ?_) rfl rfl ?_ ?_
   rotate_left
   ·
    (intro w _; go_simp; (try with_reducible rfl))
   simp only [Act.put, stB, stZ, stS]
   refine tk 5 (some 54) (v := ?_) rfl rfl ?_ ?_
   rotate_left
   ·
    (intro w _; go_simp; (try with_reducible rfl))
   simp only [Act.put, stB, stZ, stS]
   refine tk 6 (some 55) (v := ?_) rfl rfl ?_ ?_
   rotate_left
   ·
    (intro w _; go_simp; (try with_reducible rfl))
   simp only [Act.put, stB, stZ, stS]
   refine wpAnyH_ready (rs := [8]) (by kernel_rfl) (by simp) ?_
   refine (AllReadyH.cons rfl (fun K hK => ?_) AllReadyH.nil)
   have hc0 := HN.out.cell 3 0 rfl rfl
   have hf0 := HN.out.free 3 0 rfl
   have hc1 := HN.out.cell 3 1 rfl rfl
   have hf1 := HN.out.free 3 1 rfl
   have hc2 := HN.out.cell 3 2 rfl rfl
   have hf2 := HN.out.free 3 2 rfl
   go_simp
   clear hc0 hf0 hc1 hf1 hc2 hf2
   replace HN := Lib.hid ((((HN.out).set 3 0 rfl rfl (fun _ => by simp) (.bool qs)).set 3 1 rfl rfl (fun _ => by simp) (.slice a8 (lenW qn) c8)).set 3 2 rfl rfl (fun _ => by simp) (.slice b9 (lenW qd) d9))
   generalize (((w9.setCell ⟨wd.heap.size, 0, none⟩ (.bool qs)).setCell ⟨wd.heap.size, 1, none⟩ (.slice a8 (lenW qn) c8)).setCell ⟨wd.heap.size, 2, none⟩ (.slice b9 (lenW qd) d9)) = wa10 at HN ⊢
   refine hK.out _ _ (⟨HN.out.cell 1 0 rfl rfl, HN.out.cell 1 1 rfl rfl, HN.out.cell 2 0 rfl rfl⟩) (fun hHeld2 => ?_)
   clear hK K hHeld
   rename _ => hHeld
   try simp only [Act.put, stB, stZ, stS]
   refine tk 9 (some 11) (v := ?_) rfl rfl ?_ ?_
   rotate_left
   ·
    (intro w _; go_simp; (try with_reducible rfl))
   simp only [Act.put, stB, stZ, stS]
   refine wpAnyH_done (by kernel_rfl) ?_ _
   go_wp2_with fail
   go_meet
   exact ⟨_, _, _, _, _, rfl, (HN.out.pick2 0 3 rfl rfl (by decide)).only (List.Sublist.refl _) (fun z hz => by
    simp only [List.mem_cons, List.not_mem_nil, or_false] at hz
    rcases hz with rfl | rfl <;> simp)⟩
 case rest =>
  obtain ⟨w7, rfl⟩ : ∃ w7 : World, w7 = wc := ⟨_, rfl⟩
  obtain ⟨p10, a8, c8, b9, d9, rfl, hn0⟩ := hcut
  have HN := Lib.hid hn0
  clear hn0
  have ⟨k00, f00, k01, f01, k02, f02⟩ := HN.out.cf3 0 rfl
  have ⟨k10, f10, k11, f11, k12, f12⟩ := HN.out.cf3 1 rfl
  go_wp2_with fail
  clear k00 f00 k01 f01 k02 f02 k10 f10 k11 f11 k12 f12
  refine (HRT.out a8 c8 b9 d9 _ (HN.out.nat 0 rfl) (HN.out.nat 1 rfl)).mono ?_
  rintro e w8 ⟨rfl, hb⟩
  replace HN := Lib.hid (HN.out.call hb)
  clear hb 
  have ⟨k00, f00, k01, f01, k02, f02⟩ := HN.out.cf3 0 rfl
  have ⟨k10, f10, k11, f11, k12, f12⟩ := HN.out.cf3 1 rfl
  have HE := Lib.hid ((((HN.out).set 0 0 rfl rfl (fun _ => by simp) (.bool qs)).set 0 1 rfl rfl (fun _ => by simp) (.slice a8 (lenW qn) c8)).set 0 2 rfl rfl (fun _ => by simp) (.slice b9 (lenW qd) d9))
  have j0_0 := HE.out.cell 0 0 rfl rfl
  have j1_0 := HE.out.cell 0 1 rfl rfl
  have j2_0 := HE.out.cell 0 2 rfl rfl
  go_wp2_with fail
  refine bodyPost_ret (v := .tuple #[.agg #[.bool qs, .slice a8 (lenW qn) c8, .slice b9 (lenW qd) d9], .nilIface]) (by simp [results, Tryz.results35, go_sem, j0_0, j1_0, j2_0, k00, k01, k02, k10, k11, k12]) rfl ?_
  exact ⟨a8, c8, b9, d9, rfl, HE.out.nat 0 rfl, HE.out.nat 1 rfl, HE.out.bel⟩
def RetR9 (r : Except Flt Rat) (w : World) (e : Ending) (w' : World) : Prop := match r with
 | .error f => ∃ v, e = .returned (.tuple #[.agg #[.bool false, .slice none 0 0, .slice none 0 0], v]) ∧ ErrW w' v f ∧ Below w.heap.size w w'
 | .ok q => ∃ a c b d, e = .returned (.tuple #[ratV a c b d q, .nilIface]) ∧ NatW w' a c q.num.natAbs ∧ NatW w' b d (denN q.den) ∧ Below w.heap.size w w'
theorem strB_natB (s : ByteArray) : strB (natB s) = s := by
 apply ByteArray.ext
 unfold strB natB
 rw [List.map_map, show (UInt8.ofNat ∘ UInt8.toNat) = id from funext fun x => by simp, List.map_id]
theorem natB_strB {l : List Nat} (h : ∀ c, c ∈ l → c < 256) : natB (strB l) = l := by
 unfold natB strB
 rw [List.toList_toArray, List.map_map]
 conv => rhs; rw [← List.map_id l]
 apply List.map_congr_left
 intro c hc
 simp only [Function.comp, id]
 exact UInt8.toNat_ofNat_of_lt' (by have := h c hc; omega)
theorem readN_small {l : List Nat} {n : Nat} (h : readN l = some n) : lenW n ≤ l.length := by
 have h1 := text_read h
 have h2 : (textN n).length = l.length := by rw [h1]
 unfold textN at h2
 split at h2
 ·
  rename_i h0; subst h0; rw [lenW_zero]; omega
 ·
  rename_i h0
  rw [List.length_map, dig_len] at h2
  have h3 := lt_ndig (B := 10) (by omega) n
  rw [h2] at h3
  exact lenW_le (Nat.lt_of_lt_of_le h3 (Nat.pow_le_pow_left (by unfold W64; omega) _))
theorem readZ_small {l : List Nat} {z : Int} (h : readZ l = some z) : lenW z.natAbs ≤ l.length := by
 unfold readZ at h
 split at h
 ·
  cases hr : readN l.tail with
  | none => rw [hr] at h; cases h
  | some n =>
   rw [hr] at h
   simp only at h
   split at h
   ·
    cases h
   ·
    injection h with h
    subst h
    rw [Int.natAbs_neg, Int.natAbs_natCast]
    exact Nat.le_trans (readN_small hr) (by rw [List.length_tail]; omega)
 ·
  cases hr : readN l with
  | none => rw [hr] at h; cases h
  | some n =>
   rw [hr] at h
   injection h with h
   subst h
   rw [Int.natAbs_natCast]; exact readN_small hr
theorem den_le (z d : Int) (hd : d ≠ 0) : lenW (Rat.divInt z d).den ≤ lenW d.natAbs := by
 rw [rat_den z d hd]; exact lenW_mono (Nat.div_le_self _ _)
theorem num_le (z d : Int) (hd : d ≠ 0) : lenW (Rat.divInt z d).num.natAbs ≤ lenW z.natAbs := by
 rw [rat_num z d hd, newI_abs]; exact lenW_mono (Nat.div_le_self _ _)
theorem whole_walk (sg : Bool) (a : Option Addr) (lm c : Nat) (w : World) : Calls Tryz.prog 91 #[.agg #[.bool sg, .slice a lm c]] w fun e w' => e = .returned (.agg #[.bool sg, .slice a lm c, .slice none 0 0]) ∧ Below w.heap.size w w' := by
 go_enter Tryz.func91, Tryz.ntmps91
 go_wp2
 refine bodyPost_ret (v := .agg #[.bool sg, .slice a lm c, .slice none 0 0]) (by simp [results, Tryz.results91, go_sem]) rfl ?_
 exact ⟨rfl, bthen (belowBox w _) (belowBox _ _)⟩
theorem whole_any (z : Int) (a : Option Addr) (c : Nat) (w : World) (h : NatW w a c z.natAbs) : Calls Tryz.prog 91 #[.agg #[.bool (decide (z < 0)), .slice a (lenW z.natAbs) c]] w fun e w' => ∃ a8 c8 b9 d9, e = .returned (.agg #[.bool (decide ((z : Rat).num < 0)), .slice a8 (lenW (z : Rat).num.natAbs) c8, .slice b9 (lenW (denN (z : Rat).den)) d9]) ∧ NatW w' a8 c8 (z : Rat).num.natAbs ∧ NatW w' b9 d9 (denN (z : Rat).den) ∧ Below w.heap.size w w' := by
 refine (whole_walk _ a _ c w).mono ?_
 rintro e w' ⟨rfl, hb⟩
 have hn : (z : Rat).num = z := Rat.num_intCast z
 have hd : denN (z : Rat).den = 0 := by rw [Rat.den_intCast]; rfl
 rw [hn, hd, lenW_zero]
 exact ⟨a, c, none, 0, rfl, h.below hb, NatW.zero _, hb⟩
theorem textZ_lt (z : Int) : ∀ c, c ∈ textZ z → c < 256 := fun c hc => by
 unfold textZ at hc
 split at hc
 ·
  rcases List.mem_cons.1 hc with h | h
  ·
   omega
  ·
   have := textN_digits _ c h; omega
 ·
  have := textN_digits _ c hc; omega
theorem textR_lt (q : Rat) : ∀ c, c ∈ textR q → c < 256 := fun c hc => by
 unfold textR at hc
 split at hc
 ·
  exact textZ_lt _ c hc
 ·
  rcases List.mem_append.1 hc with h | h
  ·
   exact textZ_lt _ c h
  ·
   rcases List.mem_cons.1 h with h | h
   ·
    omega
   ·
    have := textN_digits _ c h; omega
theorem pread_any (s : ByteArray) (w : World) (hs : s.size ≤ 549755813888) : Calls Tryz.prog 35 #[.string s] w (RetR9 (readR (natB s)) w) := by
 have key : ∀ x y : ByteArray, ∀ ok : Bool, x.size ≤ 549755813888 → y.size ≤ 549755813888 →
   (∀ w, Calls Tryz.prog 89 #[.string s, .string ⟨#[47]⟩] w fun e w' => e = .returned (.tuple #[.string x, .string y, .bool ok]) ∧ Below w.heap.size w w') →
   (natB s).takeWhile (· != 47) = natB x → (natB s).dropWhile (· != 47) = (if ok then 47 :: natB y else []) →
   Calls Tryz.prog 35 #[.string s] w (RetR9 (readR (natB s)) w) := by
  intro x y ok hx hy hc ht hd
  have hir := fun (W : World) => iread_any x W (by omega)
  unfold readR
  rw [ht, hd]
  cases hz : readZ (natB x) with
  | none =>
   rw [hz] at hir
   exact pread_none s x y false 0 w ok (Lib.hid hc) (Lib.hid hir)
  | some z =>
   rw [hz] at hir
   have hzs := readZ_small hz
   rw [natB_len] at hzs
   cases ok with
   | false =>
    rw [if_neg (by simp)]
    exact pread_whole s x y (decide (z < 0)) z.natAbs w (decide ((z : Rat).num < 0)) (z : Rat).num.natAbs (denN (z : Rat).den) (Lib.hid hc) (Lib.hid hir) (Lib.hid fun a c W h => whole_any z a c W h)
   | true =>
    rw [if_pos rfl]
    simp only
    have hnr := fun (W : World) => read_any y W (by omega)
    cases hn : readN (natB y) with
    | none =>
     rw [hn] at hnr
     have := pread_div s x y (decide (z < 0)) z.natAbs w (by omega) 0 (Lib.hid hc) (Lib.hid hir) (Lib.hid hnr)
     rw [natB_len]; exact this
    | some d =>
     rw [hn] at hnr
     have hds := readN_small hn
     rw [natB_len] at hds
     by_cases h0 : d = 0
     ·
      subst h0
      have := pread_nought s x y (decide (z < 0)) z.natAbs w (by omega) 0 (Lib.hid hc) (Lib.hid hir) (Lib.hid hnr) (Lib.hid fun a c W => nzero_is a c 0 W rfl)
      simp only
      rw [if_pos trivial, natB_len]; exact this
     ·
      simp only
      rw [if_neg h0]
      have hdi : (d : Int) ≠ 0 := by omega
      have hn1 := num_le z d hdi
      have hd1 := den_le z d hdi
      rw [Int.natAbs_natCast] at hd1
      obtain ⟨q, hq⟩ : ∃ q, Rat.divInt z (d : Int) = q := ⟨_, rfl⟩
      have hI2 := fun (a : Option Addr) (c : Nat) (W : World) (h : NatW W a c d) => (newI_false d ▸ inew_any false a c d W h : Calls Tryz.prog 72 #[.bool false, .agg #[.slice a (lenW d) c]] W (RetI (d : Int) W))
      have hRN := fun (a : Option Addr) (c : Nat) (a2 : Option Addr) (c2 : Nat) (W : World) (q1 : NatW W a c z.natAbs) (q2 : NatW W a2 c2 (d : Int).natAbs) => rnew_any (Nat.le_refl 4398046511104) div_upto z (d : Int) a a2 c c2 W q1 q2 (by omega) (by rw [Int.natAbs_natCast]; omega) hdi
      have hRT := fun (a8 : Option Addr) (c8 : Nat) (b9 : Option Addr) (d9 : Nat) (W : World) (q1 : NatW W a8 c8 q.num.natAbs) (q2 : NatW W b9 d9 (denN q.den)) => rtext_any a8 b9 c8 d9 q W q1 q2 (by rw [← hq]; omega) (by rw [← hq]; omega)
      rw [hq] at hRN
      rw [hq]
      by_cases he : textR q = natB s
      ·
       rw [if_pos he]
       rw [he, strB_natB] at hRT
       exact pread_frac s x y (decide (z < 0)) z.natAbs w d (d : Int).natAbs q.num.natAbs (denN q.den) (decide ((d : Int) < 0)) (decide (q.num < 0)) (Lib.hid hc) (Lib.hid hir) (Lib.hid hnr) (Lib.hid fun a c W => nzero_no a c d W h0) (Lib.hid hI2) (Lib.hid hRN) (Lib.hid hRT)
      ·
       rw [if_neg he]
       exact pread_other s x y (decide (z < 0)) z.natAbs w d (d : Int).natAbs q.num.natAbs (denN q.den) (decide ((d : Int) < 0)) (decide (q.num < 0)) (strB (textR q)) (fun e => he (by rw [← e, natB_strB (textR_lt q)])) (Lib.hid hc) (Lib.hid hir) (Lib.hid hnr) (Lib.hid fun a c W => nzero_no a c d W h0) (Lib.hid hI2) (Lib.hid hRN) (Lib.hid hRT)
 rcases scut_any s (by omega) with ⟨h1, h2⟩ | ⟨x, y, h1, h2, h3⟩
 ·
  have hp := cut_plain_no h1
  exact key s ⟨#[]⟩ false hs (by decide) h2 hp.1 hp.2
 ·
  have hp := cut_plain (m := natB y) h2
  rw [← h1] at hp
  have hl := congrArg List.length h1
  rw [List.length_append, List.length_cons, natB_len, natB_len, natB_len] at hl
  exact key x y true (by omega) (by omega) h3 hp.1 hp.2
end Go.Proofs.YtmhainidincjhaaGreatDoor
