/-
 What the laws stand on, part Rd: contracts and plain laws of FPart, FLay, FEnc27, FPrt, FQst; the conditions are each law's own.
-/
import Derived.Test.YtmhainidincjhaaGreatDoorYRc
import Derived.Test.YtmhainidincjhaaGreatDoorYN
import Derived.Lib.ConvBytes
set_option linter.unusedVariables false
set_option linter.unusedSimpArgs false
set_option maxRecDepth 100000
set_option maxHeartbeats 16000000
namespace Go.Proofs.YtmhainidincjhaaGreatDoor
open Go.RowKit Go.Extern.Stop Go.Stop Go.Extern
theorem f27num (n lo hi : Int) (w : World) : Calls Tryz.prog 125 #[.int .i64 n, .int .i64 lo, .int .i64 hi] w fun e w' => e = .returned (.agg #[.int .i64 1, .int .i64 lo, .int .i64 hi, .int .i64 n, .string ⟨#[]⟩, .bool false, .slice none 0 0, .slice none 0 0]) ∧ Below w.heap.size w w' := by
 obtain ⟨W0, hW0⟩ : ∃ W0, W0 = (w.alloc (.cells #[.int .i64 0, .int .i64 0, .int .i64 0, .int .i64 0, .string ⟨#[]⟩, .bool false, .slice none 0 0, .slice none 0 0] 152)) := ⟨_, rfl⟩
 have hbs : BS w [⟨w.heap.size, 152, [.int .i64 0, .int .i64 0, .int .i64 0, .int .i64 0, .string ⟨#[]⟩, .bool false, .slice none 0 0, .slice none 0 0]⟩] [] (w.alloc (.cells #[.int .i64 0, .int .i64 0, .int .i64 0, .int .i64 0, .string ⟨#[]⟩, .bool false, .slice none 0 0, .slice none 0 0] 152)) :=
   ((BS.start w).alloc (p := w.heap.size) rfl 152 [.int .i64 0, .int .i64 0, .int .i64 0, .int .i64 0, .string ⟨#[]⟩, .bool false, .slice none 0 0, .slice none 0 0] rfl)
 rw [← hW0] at hbs
 have HW0 := Lib.hid hW0
 have HN := Lib.hid hbs
 clear hW0 hbs
 go_enter Tryz.func125, Tryz.ntmps125
 go_upto_region 1 with fail
 rw [← HW0.out]
 have ⟨k00, f00, k01, f01, k02, f02, k03, f03, k04, f04, k05, f05, k06, f06, k07, f07⟩ := HN.out.cf8 0 rfl
 have HE := Lib.hid (((((((((HN.out).set 0 0 rfl rfl (fun _ => by simp) (.int .i64 1)).set 0 1 rfl rfl (fun _ => by simp) (.int .i64 lo)).set 0 2 rfl rfl (fun _ => by simp) (.int .i64 hi)).set 0 3 rfl rfl (fun _ => by simp) (.int .i64 n)).set 0 4 rfl rfl (fun _ => by simp) (.string ⟨#[]⟩)).set 0 5 rfl rfl (fun _ => by simp) (.bool false)).set 0 6 rfl rfl (fun _ => by simp) (.slice none 0 0)).set 0 7 rfl rfl (fun _ => by simp) (.slice none 0 0))
 have ⟨j0_0, j1_0, j2_0, j3_0, j4_0, j5_0, j6_0, j7_0⟩ := HE.out.cg8 0 rfl
 go_wp2_with fail
 refine bodyPost_ret (v := .agg #[.int .i64 1, .int .i64 lo, .int .i64 hi, .int .i64 n, .string ⟨#[]⟩, .bool false, .slice none 0 0, .slice none 0 0]) (by simp [results, Tryz.results125, go_sem, j0_0, j1_0, j2_0, j3_0, j4_0, j5_0, j6_0, j7_0, k00, k01, k02, k03, k04, k05, k06, k07]) rfl ?_
 exact ⟨rfl, HE.out.bel⟩
theorem f27idn (n : Int) (w : World) : Calls Tryz.prog 127 #[.int .i64 n] w fun e w' => e = .returned (.agg #[.int .i64 2, .int .i64 0, .int .i64 0, .int .i64 n, .string ⟨#[]⟩, .bool false, .slice none 0 0, .slice none 0 0]) ∧ Below w.heap.size w w' := by
 obtain ⟨W0, hW0⟩ : ∃ W0, W0 = (w.alloc (.cells #[.int .i64 0, .int .i64 0, .int .i64 0, .int .i64 0, .string ⟨#[]⟩, .bool false, .slice none 0 0, .slice none 0 0] 152)) := ⟨_, rfl⟩
 have hbs : BS w [⟨w.heap.size, 152, [.int .i64 0, .int .i64 0, .int .i64 0, .int .i64 0, .string ⟨#[]⟩, .bool false, .slice none 0 0, .slice none 0 0]⟩] [] (w.alloc (.cells #[.int .i64 0, .int .i64 0, .int .i64 0, .int .i64 0, .string ⟨#[]⟩, .bool false, .slice none 0 0, .slice none 0 0] 152)) :=
   ((BS.start w).alloc (p := w.heap.size) rfl 152 [.int .i64 0, .int .i64 0, .int .i64 0, .int .i64 0, .string ⟨#[]⟩, .bool false, .slice none 0 0, .slice none 0 0] rfl)
 rw [← hW0] at hbs
 have HW0 := Lib.hid hW0
 have HN := Lib.hid hbs
 clear hW0 hbs
 go_enter Tryz.func127, Tryz.ntmps127
 go_upto_region 1 with fail
 rw [← HW0.out]
 have ⟨k00, f00, k01, f01, k02, f02, k03, f03, k04, f04, k05, f05, k06, f06, k07, f07⟩ := HN.out.cf8 0 rfl
 have HE := Lib.hid (((((((((HN.out).set 0 0 rfl rfl (fun _ => by simp) (.int .i64 2)).set 0 1 rfl rfl (fun _ => by simp) (.int .i64 0)).set 0 2 rfl rfl (fun _ => by simp) (.int .i64 0)).set 0 3 rfl rfl (fun _ => by simp) (.int .i64 n)).set 0 4 rfl rfl (fun _ => by simp) (.string ⟨#[]⟩)).set 0 5 rfl rfl (fun _ => by simp) (.bool false)).set 0 6 rfl rfl (fun _ => by simp) (.slice none 0 0)).set 0 7 rfl rfl (fun _ => by simp) (.slice none 0 0))
 have ⟨j0_0, j1_0, j2_0, j3_0, j4_0, j5_0, j6_0, j7_0⟩ := HE.out.cg8 0 rfl
 go_wp2_with fail
 refine bodyPost_ret (v := .agg #[.int .i64 2, .int .i64 0, .int .i64 0, .int .i64 n, .string ⟨#[]⟩, .bool false, .slice none 0 0, .slice none 0 0]) (by simp [results, Tryz.results127, go_sem, j0_0, j1_0, j2_0, j3_0, j4_0, j5_0, j6_0, j7_0, k00, k01, k02, k03, k04, k05, k06, k07]) rfl ?_
 exact ⟨rfl, HE.out.bel⟩
theorem f27tok (t : ByteArray) (w : World) : Calls Tryz.prog 126 #[.string t] w fun e w' => e = .returned (.agg #[.int .i64 3, .int .i64 0, .int .i64 0, .int .i64 0, .string t, .bool false, .slice none 0 0, .slice none 0 0]) ∧ Below w.heap.size w w' := by
 obtain ⟨W0, hW0⟩ : ∃ W0, W0 = (w.alloc (.cells #[.int .i64 0, .int .i64 0, .int .i64 0, .int .i64 0, .string ⟨#[]⟩, .bool false, .slice none 0 0, .slice none 0 0] 152)) := ⟨_, rfl⟩
 have hbs : BS w [⟨w.heap.size, 152, [.int .i64 0, .int .i64 0, .int .i64 0, .int .i64 0, .string ⟨#[]⟩, .bool false, .slice none 0 0, .slice none 0 0]⟩] [] (w.alloc (.cells #[.int .i64 0, .int .i64 0, .int .i64 0, .int .i64 0, .string ⟨#[]⟩, .bool false, .slice none 0 0, .slice none 0 0] 152)) :=
   ((BS.start w).alloc (p := w.heap.size) rfl 152 [.int .i64 0, .int .i64 0, .int .i64 0, .int .i64 0, .string ⟨#[]⟩, .bool false, .slice none 0 0, .slice none 0 0] rfl)
 rw [← hW0] at hbs
 have HW0 := Lib.hid hW0
 have HN := Lib.hid hbs
 clear hW0 hbs
 go_enter Tryz.func126, Tryz.ntmps126
 go_upto_region 1 with fail
 rw [← HW0.out]
 have ⟨k00, f00, k01, f01, k02, f02, k03, f03, k04, f04, k05, f05, k06, f06, k07, f07⟩ := HN.out.cf8 0 rfl
 have HE := Lib.hid (((((((((HN.out).set 0 0 rfl rfl (fun _ => by simp) (.int .i64 3)).set 0 1 rfl rfl (fun _ => by simp) (.int .i64 0)).set 0 2 rfl rfl (fun _ => by simp) (.int .i64 0)).set 0 3 rfl rfl (fun _ => by simp) (.int .i64 0)).set 0 4 rfl rfl (fun _ => by simp) (.string t)).set 0 5 rfl rfl (fun _ => by simp) (.bool false)).set 0 6 rfl rfl (fun _ => by simp) (.slice none 0 0)).set 0 7 rfl rfl (fun _ => by simp) (.slice none 0 0))
 have ⟨j0_0, j1_0, j2_0, j3_0, j4_0, j5_0, j6_0, j7_0⟩ := HE.out.cg8 0 rfl
 go_wp2_with fail
 refine bodyPost_ret (v := .agg #[.int .i64 3, .int .i64 0, .int .i64 0, .int .i64 0, .string t, .bool false, .slice none 0 0, .slice none 0 0]) (by simp [results, Tryz.results126, go_sem, j0_0, j1_0, j2_0, j3_0, j4_0, j5_0, j6_0, j7_0, k00, k01, k02, k03, k04, k05, k06, k07]) rfl ?_
 exact ⟨rfl, HE.out.bel⟩
theorem f27rat (qs : Bool) (a b : Option Addr) (n c m d : Nat) (w : World) : Calls Tryz.prog 176 #[.agg #[.bool qs, .slice a n c, .slice b m d]] w fun e w' => e = .returned (.agg #[.int .i64 4, .int .i64 0, .int .i64 0, .int .i64 0, .string ⟨#[]⟩, .bool qs, .slice a n c, .slice b m d]) ∧ Below w.heap.size w w' := by
 obtain ⟨W0, hW0⟩ : ∃ W0, W0 = ((w.alloc (.cells #[.bool qs, .slice a n c, .slice b m d] 60)).alloc (.cells #[.int .i64 0, .int .i64 0, .int .i64 0, .int .i64 0, .string ⟨#[]⟩, .bool false, .slice none 0 0, .slice none 0 0] 152)) := ⟨_, rfl⟩
 have hbs : BS w [⟨w.heap.size, 60, [.bool qs, .slice a n c, .slice b m d]⟩, ⟨w.heap.size + 1, 152, [.int .i64 0, .int .i64 0, .int .i64 0, .int .i64 0, .string ⟨#[]⟩, .bool false, .slice none 0 0, .slice none 0 0]⟩] [] ((w.alloc (.cells #[.bool qs, .slice a n c, .slice b m d] 60)).alloc (.cells #[.int .i64 0, .int .i64 0, .int .i64 0, .int .i64 0, .string ⟨#[]⟩, .bool false, .slice none 0 0, .slice none 0 0] 152)) :=
   (((BS.start w).alloc (p := w.heap.size) rfl 60 [.bool qs, .slice a n c, .slice b m d] rfl).alloc (p := w.heap.size + 1) (by simp) 152 [.int .i64 0, .int .i64 0, .int .i64 0, .int .i64 0, .string ⟨#[]⟩, .bool false, .slice none 0 0, .slice none 0 0] rfl)
 rw [← hW0] at hbs
 have HW0 := Lib.hid hW0
 have HN := Lib.hid hbs
 clear hW0 hbs
 go_enter Tryz.func176, Tryz.ntmps176
 go_upto_region 1 with fail
 rw [← HW0.out]
 have ⟨k00, f00, k01, f01, k02, f02⟩ := HN.out.cf3 0 rfl
 have ⟨k10, f10, k11, f11, k12, f12, k13, f13, k14, f14, k15, f15, k16, f16, k17, f17⟩ := HN.out.cf8 1 rfl
 have HE := Lib.hid (((((((((HN.out).set 1 0 rfl rfl (fun _ => by simp) (.int .i64 4)).set 1 1 rfl rfl (fun _ => by simp) (.int .i64 0)).set 1 2 rfl rfl (fun _ => by simp) (.int .i64 0)).set 1 3 rfl rfl (fun _ => by simp) (.int .i64 0)).set 1 4 rfl rfl (fun _ => by simp) (.string ⟨#[]⟩)).set 1 5 rfl rfl (fun _ => by simp) (.bool qs)).set 1 6 rfl rfl (fun _ => by simp) (.slice a n c)).set 1 7 rfl rfl (fun _ => by simp) (.slice b m d))
 have ⟨j0_1, j1_1, j2_1, j3_1, j4_1, j5_1, j6_1, j7_1⟩ := HE.out.cg8 1 rfl
 go_wp2_with fail
 refine bodyPost_ret (v := .agg #[.int .i64 4, .int .i64 0, .int .i64 0, .int .i64 0, .string ⟨#[]⟩, .bool qs, .slice a n c, .slice b m d]) (by simp [results, Tryz.results176, go_sem, j0_1, j1_1, j2_1, j3_1, j4_1, j5_1, j6_1, j7_1, k00, k01, k02, k10, k11, k12, k13, k14, k15, k16, k17]) rfl ?_
 exact ⟨rfl, HE.out.bel⟩
theorem bytes_bel (w : World) (t : ByteArray) : Below w.heap.size w (Go.Lib.bytesWorld w 5 t) := ⟨rfl, rfl, rfl, by rw [Go.Lib.bytesWorld_size]; omega, fun k hk => Go.Lib.bytesWorld_at_old w 5 t k hk⟩
theorem tok_bytes (w : World) (t : ByteArray) (ht : t.size ≤ maxLen) : BytesN (Go.Lib.bytesWorld w 5 t) (.slice (some ⟨w.heap.size, 0, none⟩) t.size (grownCap w t.size 0 5)) (natB t) := by
 have hl := natB_len t
 unfold BytesN
 rw [hl]
 refine ⟨by rw [List.length_map, hl, Nat.mul_one], .inr ⟨w.heap.size, 0, _, rfl, grownCap_ge w t.size 0 5, grownCap_le_maxLen w t.size 0 5 ht, by rw [Go.Lib.bytesWorld_size]; omega, fun j u hj => ?_⟩⟩
 have hjl : j < t.size := by have := (List.getElem?_eq_some_iff.1 hj).1; rw [List.length_map, hl] at this; exact this
 rw [List.getElem?_map, natB_at t j hjl] at hj
 injection hj with hj
 rw [Nat.zero_add, Go.Lib.bytesWorld_cell w 5 t j hjl, ← hj]
 congr 3
 rw [List.getD_eq_getElem?_getD, List.getElem?_eq_getElem (by rw [Array.length_toList]; exact hjl)]
 simp
 rfl
theorem lay_num_low (n lo hi : Int) (w : World) (h : n < lo) : Calls Tryz.prog 61 #[.agg #[.int .i64 1, .int .i64 lo, .int .i64 hi, .int .i64 n, .string ⟨#[]⟩, .bool false, .slice none 0 0, .slice none 0 0]] w fun e w' => e = .returned (.tuple #[.slice none 0 0, .int .i64 270]) ∧ Below w.heap.size w w' := by
 obtain ⟨W0, hW0⟩ : ∃ W0, W0 = (w.alloc (.cells #[.int .i64 1, .int .i64 lo, .int .i64 hi, .int .i64 n, .string ⟨#[]⟩, .bool false, .slice none 0 0, .slice none 0 0] 152)) := ⟨_, rfl⟩
 have hbs : BS w [⟨w.heap.size, 152, [.int .i64 1, .int .i64 lo, .int .i64 hi, .int .i64 n, .string ⟨#[]⟩, .bool false, .slice none 0 0, .slice none 0 0]⟩] [] (w.alloc (.cells #[.int .i64 1, .int .i64 lo, .int .i64 hi, .int .i64 n, .string ⟨#[]⟩, .bool false, .slice none 0 0, .slice none 0 0] 152)) :=
   ((BS.start w).alloc (p := w.heap.size) rfl 152 [.int .i64 1, .int .i64 lo, .int .i64 hi, .int .i64 n, .string ⟨#[]⟩, .bool false, .slice none 0 0, .slice none 0 0] rfl)
 rw [← hW0] at hbs
 have HW0 := Lib.hid hW0
 have HN := Lib.hid hbs
 clear hW0 hbs
 go_enter Tryz.func61, Tryz.ntmps61
 go_upto_region 1 with fail
 rw [← HW0.out]
 have ⟨k00, k01, k02, k03, k04, k05, k06, k07⟩ := HN.out.cg8 0 rfl
 go_wp2_with fail
 go_ret2
 exact ⟨rfl, HN.out.bel⟩
theorem lay_num_high (n lo hi : Int) (w : World) (h : ¬ n < lo) (h2 : hi < n) : Calls Tryz.prog 61 #[.agg #[.int .i64 1, .int .i64 lo, .int .i64 hi, .int .i64 n, .string ⟨#[]⟩, .bool false, .slice none 0 0, .slice none 0 0]] w fun e w' => e = .returned (.tuple #[.slice none 0 0, .int .i64 270]) ∧ Below w.heap.size w w' := by
 obtain ⟨W0, hW0⟩ : ∃ W0, W0 = (w.alloc (.cells #[.int .i64 1, .int .i64 lo, .int .i64 hi, .int .i64 n, .string ⟨#[]⟩, .bool false, .slice none 0 0, .slice none 0 0] 152)) := ⟨_, rfl⟩
 have hbs : BS w [⟨w.heap.size, 152, [.int .i64 1, .int .i64 lo, .int .i64 hi, .int .i64 n, .string ⟨#[]⟩, .bool false, .slice none 0 0, .slice none 0 0]⟩] [] (w.alloc (.cells #[.int .i64 1, .int .i64 lo, .int .i64 hi, .int .i64 n, .string ⟨#[]⟩, .bool false, .slice none 0 0, .slice none 0 0] 152)) :=
   ((BS.start w).alloc (p := w.heap.size) rfl 152 [.int .i64 1, .int .i64 lo, .int .i64 hi, .int .i64 n, .string ⟨#[]⟩, .bool false, .slice none 0 0, .slice none 0 0] rfl)
 rw [← hW0] at hbs
 have HW0 := Lib.hid hW0
 have HN := Lib.hid hbs
 clear hW0 hbs
 go_enter Tryz.func61, Tryz.ntmps61
 go_upto_region 1 with fail
 rw [← HW0.out]
 have ⟨k00, k01, k02, k03, k04, k05, k06, k07⟩ := HN.out.cg8 0 rfl
 go_wp2_with fail
 go_ret2
 exact ⟨rfl, HN.out.bel⟩
theorem lay_num_ok (n lo hi : Int) (y : Nat) (w : World) (h : ¬ n < lo) (h2 : ¬ hi < n) (hy : IntKind.u8.wrap n = (y : Int)) : Calls Tryz.prog 61 #[.agg #[.int .i64 1, .int .i64 lo, .int .i64 hi, .int .i64 n, .string ⟨#[]⟩, .bool false, .slice none 0 0, .slice none 0 0]] w fun e w' => ∃ a c, e = .returned (.tuple #[.slice a 1 c, .int .i64 0]) ∧ BytesN w' (.slice a 1 c) [y] ∧ Below w.heap.size w w' := by
 obtain ⟨W0, hW0⟩ : ∃ W0, W0 = (w.alloc (.cells #[.int .i64 1, .int .i64 lo, .int .i64 hi, .int .i64 n, .string ⟨#[]⟩, .bool false, .slice none 0 0, .slice none 0 0] 152)) := ⟨_, rfl⟩
 have hbs : BS w [⟨w.heap.size, 152, [.int .i64 1, .int .i64 lo, .int .i64 hi, .int .i64 n, .string ⟨#[]⟩, .bool false, .slice none 0 0, .slice none 0 0]⟩] [] (w.alloc (.cells #[.int .i64 1, .int .i64 lo, .int .i64 hi, .int .i64 n, .string ⟨#[]⟩, .bool false, .slice none 0 0, .slice none 0 0] 152)) :=
   ((BS.start w).alloc (p := w.heap.size) rfl 152 [.int .i64 1, .int .i64 lo, .int .i64 hi, .int .i64 n, .string ⟨#[]⟩, .bool false, .slice none 0 0, .slice none 0 0] rfl)
 rw [← hW0] at hbs
 have HW0 := Lib.hid hW0
 have HN := Lib.hid hbs
 clear hW0 hbs
 go_enter Tryz.func61, Tryz.ntmps61
 go_upto_region 1 with fail
 rw [← HW0.out]
 have ⟨k00, k01, k02, k03, k04, k05, k06, k07⟩ := HN.out.cg8 0 rfl
 have HL := Lib.hid (show BytesN (W0.alloc (.cells #[.int .u8 ((y : Nat) : Int)] 5)) (.slice (some ⟨W0.heap.size, 0, none⟩) 1 1) [y] from Sl.lit W0 5 1 1 [BN y] (by unfold maxLen; omega) rfl)
 go_wp2_with fail
 go_ret2
 exact ⟨_, _, rfl, HL.out, bthen HN.out.bel (belowBox _ _)⟩
theorem lay_idn_low (n : Int) (w : World) (h : n < 0) : Calls Tryz.prog 61 #[.agg #[.int .i64 2, .int .i64 0, .int .i64 0, .int .i64 n, .string ⟨#[]⟩, .bool false, .slice none 0 0, .slice none 0 0]] w fun e w' => e = .returned (.tuple #[.slice none 0 0, .int .i64 270]) ∧ Below w.heap.size w w' := by
 obtain ⟨W0, hW0⟩ : ∃ W0, W0 = (w.alloc (.cells #[.int .i64 2, .int .i64 0, .int .i64 0, .int .i64 n, .string ⟨#[]⟩, .bool false, .slice none 0 0, .slice none 0 0] 152)) := ⟨_, rfl⟩
 have hbs : BS w [⟨w.heap.size, 152, [.int .i64 2, .int .i64 0, .int .i64 0, .int .i64 n, .string ⟨#[]⟩, .bool false, .slice none 0 0, .slice none 0 0]⟩] [] (w.alloc (.cells #[.int .i64 2, .int .i64 0, .int .i64 0, .int .i64 n, .string ⟨#[]⟩, .bool false, .slice none 0 0, .slice none 0 0] 152)) :=
   ((BS.start w).alloc (p := w.heap.size) rfl 152 [.int .i64 2, .int .i64 0, .int .i64 0, .int .i64 n, .string ⟨#[]⟩, .bool false, .slice none 0 0, .slice none 0 0] rfl)
 rw [← hW0] at hbs
 have HW0 := Lib.hid hW0
 have HN := Lib.hid hbs
 clear hW0 hbs
 go_enter Tryz.func61, Tryz.ntmps61
 go_upto_region 1 with fail
 rw [← HW0.out]
 have ⟨k00, k01, k02, k03, k04, k05, k06, k07⟩ := HN.out.cg8 0 rfl
 go_wp2_with fail
 go_ret2
 exact ⟨rfl, HN.out.bel⟩
theorem lay_idn_high (n : Int) (w : World) (h : ¬ n < 0) (h2 : 2147483647 < n) : Calls Tryz.prog 61 #[.agg #[.int .i64 2, .int .i64 0, .int .i64 0, .int .i64 n, .string ⟨#[]⟩, .bool false, .slice none 0 0, .slice none 0 0]] w fun e w' => e = .returned (.tuple #[.slice none 0 0, .int .i64 270]) ∧ Below w.heap.size w w' := by
 obtain ⟨W0, hW0⟩ : ∃ W0, W0 = (w.alloc (.cells #[.int .i64 2, .int .i64 0, .int .i64 0, .int .i64 n, .string ⟨#[]⟩, .bool false, .slice none 0 0, .slice none 0 0] 152)) := ⟨_, rfl⟩
 have hbs : BS w [⟨w.heap.size, 152, [.int .i64 2, .int .i64 0, .int .i64 0, .int .i64 n, .string ⟨#[]⟩, .bool false, .slice none 0 0, .slice none 0 0]⟩] [] (w.alloc (.cells #[.int .i64 2, .int .i64 0, .int .i64 0, .int .i64 n, .string ⟨#[]⟩, .bool false, .slice none 0 0, .slice none 0 0] 152)) :=
   ((BS.start w).alloc (p := w.heap.size) rfl 152 [.int .i64 2, .int .i64 0, .int .i64 0, .int .i64 n, .string ⟨#[]⟩, .bool false, .slice none 0 0, .slice none 0 0] rfl)
 rw [← hW0] at hbs
 have HW0 := Lib.hid hW0
 have HN := Lib.hid hbs
 clear hW0 hbs
 go_enter Tryz.func61, Tryz.ntmps61
 go_upto_region 1 with fail
 rw [← HW0.out]
 have ⟨k00, k01, k02, k03, k04, k05, k06, k07⟩ := HN.out.cg8 0 rfl
 go_wp2_with fail
 go_ret2
 exact ⟨rfl, HN.out.bel⟩
theorem lay_idn_ok (n d0 d1 d2 : Int) (y0 y1 y2 y3 : Nat) (w : World) (h : ¬ n < 0) (h2 : ¬ 2147483647 < n) (q0 : n.tdiv 16777216 = d0) (w0 : wrap64 d0 % 256 = (y0 : Int)) (q1 : n.tdiv 65536 = d1) (r1 : (wrap64 d1).tmod 256 % 256 = (y1 : Int))
  (q2 : n.tdiv 256 = d2) (r2 : (wrap64 d2).tmod 256 % 256 = (y2 : Int)) (r3 : n.tmod 256 = (y3 : Int)) (w3 : IntKind.u8.wrap (y3 : Int) = (y3 : Int)) : Calls Tryz.prog 61 #[.agg #[.int .i64 2, .int .i64 0, .int .i64 0, .int .i64 n, .string ⟨#[]⟩, .bool false, .slice none 0 0, .slice none 0 0]] w fun e w' => ∃ a c, e = .returned (.tuple #[.slice a 4 c, .int .i64 0]) ∧ BytesN w' (.slice a 4 c) [y0, y1, y2, y3] ∧ Below w.heap.size w w' := by
 obtain ⟨W0, hW0⟩ : ∃ W0, W0 = (w.alloc (.cells #[.int .i64 2, .int .i64 0, .int .i64 0, .int .i64 n, .string ⟨#[]⟩, .bool false, .slice none 0 0, .slice none 0 0] 152)) := ⟨_, rfl⟩
 have hbs : BS w [⟨w.heap.size, 152, [.int .i64 2, .int .i64 0, .int .i64 0, .int .i64 n, .string ⟨#[]⟩, .bool false, .slice none 0 0, .slice none 0 0]⟩] [] (w.alloc (.cells #[.int .i64 2, .int .i64 0, .int .i64 0, .int .i64 n, .string ⟨#[]⟩, .bool false, .slice none 0 0, .slice none 0 0] 152)) :=
   ((BS.start w).alloc (p := w.heap.size) rfl 152 [.int .i64 2, .int .i64 0, .int .i64 0, .int .i64 n, .string ⟨#[]⟩, .bool false, .slice none 0 0, .slice none 0 0] rfl)
 rw [← hW0] at hbs
 have HW0 := Lib.hid hW0
 have HN := Lib.hid hbs
 clear hW0 hbs
 go_enter Tryz.func61, Tryz.ntmps61
 go_upto_region 1 with fail
 rw [← HW0.out]
 have ⟨k00, k01, k02, k03, k04, k05, k06, k07⟩ := HN.out.cg8 0 rfl
 have HL := Lib.hid (show BytesN (W0.alloc (.cells #[.int .u8 ((y0 : Nat) : Int), .int .u8 ((y1 : Nat) : Int), .int .u8 ((y2 : Nat) : Int), .int .u8 ((y3 : Nat) : Int)] 5)) (.slice (some ⟨W0.heap.size, 0, none⟩) 4 4) [y0, y1, y2, y3] from Sl.lit W0 5 1 4 [BN y0, BN y1, BN y2, BN y3] (by unfold maxLen; omega) rfl)
 go_wp2_with fail
 go_ret2
 exact ⟨_, _, rfl, HL.out, bthen HN.out.bel (belowBox _ _)⟩
theorem lay_tok_bad (t : ByteArray) (w : World) (h : ((t.size : Int) != 8) = true) : Calls Tryz.prog 61 #[.agg #[.int .i64 3, .int .i64 0, .int .i64 0, .int .i64 0, .string t, .bool false, .slice none 0 0, .slice none 0 0]] w fun e w' => e = .returned (.tuple #[.slice none 0 0, .int .i64 270]) ∧ Below w.heap.size w w' := by
 obtain ⟨W0, hW0⟩ : ∃ W0, W0 = (w.alloc (.cells #[.int .i64 3, .int .i64 0, .int .i64 0, .int .i64 0, .string t, .bool false, .slice none 0 0, .slice none 0 0] 152)) := ⟨_, rfl⟩
 have hbs : BS w [⟨w.heap.size, 152, [.int .i64 3, .int .i64 0, .int .i64 0, .int .i64 0, .string t, .bool false, .slice none 0 0, .slice none 0 0]⟩] [] (w.alloc (.cells #[.int .i64 3, .int .i64 0, .int .i64 0, .int .i64 0, .string t, .bool false, .slice none 0 0, .slice none 0 0] 152)) :=
   ((BS.start w).alloc (p := w.heap.size) rfl 152 [.int .i64 3, .int .i64 0, .int .i64 0, .int .i64 0, .string t, .bool false, .slice none 0 0, .slice none 0 0] rfl)
 rw [← hW0] at hbs
 have HW0 := Lib.hid hW0
 have HN := Lib.hid hbs
 clear hW0 hbs
 go_enter Tryz.func61, Tryz.ntmps61
 go_upto_region 1 with fail
 rw [← HW0.out]
 have ⟨k00, k01, k02, k03, k04, k05, k06, k07⟩ := HN.out.cg8 0 rfl
 go_wp2_with fail
 go_ret2
 exact ⟨rfl, HN.out.bel⟩
theorem lay_tok_ok (t : ByteArray) (w : World) (h8 : t.size = 8) (h : ((t.size : Int) != 8) = false) : Calls Tryz.prog 61 #[.agg #[.int .i64 3, .int .i64 0, .int .i64 0, .int .i64 0, .string t, .bool false, .slice none 0 0, .slice none 0 0]] w fun e w' => ∃ a c, e = .returned (.tuple #[.slice a 8 c, .int .i64 0]) ∧ BytesN w' (.slice a 8 c) (natB t) ∧ Below w.heap.size w w' := by
 obtain ⟨W0, hW0⟩ : ∃ W0, W0 = (w.alloc (.cells #[.int .i64 3, .int .i64 0, .int .i64 0, .int .i64 0, .string t, .bool false, .slice none 0 0, .slice none 0 0] 152)) := ⟨_, rfl⟩
 have hbs : BS w [⟨w.heap.size, 152, [.int .i64 3, .int .i64 0, .int .i64 0, .int .i64 0, .string t, .bool false, .slice none 0 0, .slice none 0 0]⟩] [] (w.alloc (.cells #[.int .i64 3, .int .i64 0, .int .i64 0, .int .i64 0, .string t, .bool false, .slice none 0 0, .slice none 0 0] 152)) :=
   ((BS.start w).alloc (p := w.heap.size) rfl 152 [.int .i64 3, .int .i64 0, .int .i64 0, .int .i64 0, .string t, .bool false, .slice none 0 0, .slice none 0 0] rfl)
 rw [← hW0] at hbs
 have HW0 := Lib.hid hW0
 have HN := Lib.hid hbs
 clear hW0 hbs
 go_enter Tryz.func61, Tryz.ntmps61
 go_upto_region 1 with fail
 rw [← HW0.out]
 have ⟨k00, k01, k02, k03, k04, k05, k06, k07⟩ := HN.out.cg8 0 rfl
 have hcv := fun W => Go.Lib.run_convert_string_bytes (P := Tryz.prog) W 9 32 5 t Tryz.underlying9 Tryz.underlying32 Tryz.underlying5
 go_wp2_with fail
 go_ret2
 rw [← h8]
 exact ⟨_, _, rfl, tok_bytes W0 t (by rw [h8]; unfold maxLen; omega), bthen HN.out.bel (bytes_bel W0 t)⟩
theorem lay_rat (qs : Bool) (a b : Option Addr) (n c m d : Nat) (w : World) (z : Nat) (fe fk : Int) (fs : ByteArray) (l : List Nat)
  (HEN : Hid (∀ W, Below w.heap.size w W → Calls Tryz.prog 29 #[.agg #[.bool qs, .slice a n c, .slice b m d]] W fun e w' => ∃ a2 c2, e = .returned (.tuple #[.slice a2 z c2, .agg #[.int .i64 fe, .string fs, .int .i64 fk]]) ∧ SB w' a2 z c2 l ∧ Below W.heap.size W w')) :
  Calls Tryz.prog 61 #[.agg #[.int .i64 4, .int .i64 0, .int .i64 0, .int .i64 0, .string ⟨#[]⟩, .bool qs, .slice a n c, .slice b m d]] w fun e w' => ∃ a2 c2, e = .returned (.tuple #[.slice a2 z c2, .int .i64 fe]) ∧ SB w' a2 z c2 l ∧ Below w.heap.size w w' := by
 obtain ⟨W0, hW0⟩ : ∃ W0, W0 = (w.alloc (.cells #[.int .i64 4, .int .i64 0, .int .i64 0, .int .i64 0, .string ⟨#[]⟩, .bool qs, .slice a n c, .slice b m d] 152)) := ⟨_, rfl⟩
 have hbs : BS w [⟨w.heap.size, 152, [.int .i64 4, .int .i64 0, .int .i64 0, .int .i64 0, .string ⟨#[]⟩, .bool qs, .slice a n c, .slice b m d]⟩] [] (w.alloc (.cells #[.int .i64 4, .int .i64 0, .int .i64 0, .int .i64 0, .string ⟨#[]⟩, .bool qs, .slice a n c, .slice b m d] 152)) :=
   ((BS.start w).alloc (p := w.heap.size) rfl 152 [.int .i64 4, .int .i64 0, .int .i64 0, .int .i64 0, .string ⟨#[]⟩, .bool qs, .slice a n c, .slice b m d] rfl)
 rw [← hW0] at hbs
 have HW0 := Lib.hid hW0
 have HN := Lib.hid hbs
 clear hW0 hbs
 go_enter Tryz.func61, Tryz.ntmps61
 go_upto_region 1 with fail
 rw [← HW0.out]
 have ⟨k00, f00, k01, f01, k02, f02, k03, f03, k04, f04, k05, f05, k06, f06, k07, f07⟩ := HN.out.cf8 0 rfl
 go_wp2_with fail
 clear k00 f00 k01 f01 k02 f02 k03 f03 k04 f04 k05 f05 k06 f06 k07 f07
 refine (HEN.out _ HN.out.bel).mono ?_
 rintro e w1 ⟨a2, c2, rfl, hr0, hb⟩
 have HB2 := Lib.hid hr0
 replace HN := Lib.hid (HN.out.call hb)
 clear hb hr0
 have ⟨k00, f00, k01, f01, k02, f02, k03, f03, k04, f04, k05, f05, k06, f06, k07, f07⟩ := HN.out.cf8 0 rfl
 have l0 := HN.out.lt 0 rfl
 have HP := Lib.hid (HN.out.alloc (p := w1.heap.size) rfl 74 [.int .i64 fe, .string fs, .int .i64 fk] rfl)
 have ⟨k00p, f00p, k01p, f01p, k02p, f02p, k03p, f03p, k04p, f04p, k05p, f05p, k06p, f06p, k07p, f07p⟩ := HP.out.cf8 0 rfl
 have ⟨k10p, f10p, k11p, f11p, k12p, f12p⟩ := HP.out.cf3 1 rfl
 go_upto_region 15 with fail
 clear k00 f00 k01 f01 k02 f02 k03 f03 k04 f04 k05 f05 k06 f06 k07 f07 l0 k00p f00p k01p f01p k02p f02p k03p f03p k04p f04p k05p f05p k06p f06p k07p f07p k10p f10p k11p f11p k12p f12p HN
 have HN := HP
 clear HP
 replace HB2 := Lib.hid (show SB (w1.alloc (.cells #[.int .i64 fe, .string fs, .int .i64 fk] 74)) a2 z c2 l from HB2.out.below (belowBox _ _) HB2.out.lt)
 generalize (w1.alloc (.cells #[.int .i64 fe, .string fs, .int .i64 fk] 74)) = wa2 at HN HB2 ⊢
 have k10 := HN.out.cell 1 0 rfl rfl
 go_quiet (fail)
 go_wp2_with fail
 go_ret2
 exact ⟨a2, c2, rfl, HB2.out.below (belowDrawn (Below.refl _ _) _) trivial, belowDrawn HN.out.bel _⟩
inductive VP where
 | num (n lo hi : Int)
 | idn (n : Int)
 | tok (t : ByteArray)
 | rat (q : Rat) (s : Bool) (a : Option Addr) (n c : Nat) (b : Option Addr) (m d : Nat)
def VP.cells : VP → List Value
 | .num n lo hi => [.int .i64 1, .int .i64 lo, .int .i64 hi, .int .i64 n, .string ⟨#[]⟩, .bool false, .slice none 0 0, .slice none 0 0]
 | .idn n => [.int .i64 2, .int .i64 0, .int .i64 0, .int .i64 n, .string ⟨#[]⟩, .bool false, .slice none 0 0, .slice none 0 0]
 | .tok t => [.int .i64 3, .int .i64 0, .int .i64 0, .int .i64 0, .string t, .bool false, .slice none 0 0, .slice none 0 0]
 | .rat _ s a n c b m d => [.int .i64 4, .int .i64 0, .int .i64 0, .int .i64 0, .string ⟨#[]⟩, .bool s, .slice a n c, .slice b m d]
def VP.prt : VP → Prt
 | .num n lo hi => .num n lo hi
 | .idn n => .idn n
 | .tok t => .tok (natB t)
 | .rat q _ _ _ _ _ _ _ => .rat q
def VP.ok (W : World) : VP → Prop
 | .rat q s a n c b m d => s = decide (q.num < 0) ∧ QW W a n c b m d q.num.natAbs q.den ∧ n ≤ 4294967296 ∧ m ≤ 4294967296
 | _ => True
theorem VP.len (p : VP) : p.cells.length = 8 := by cases p <;> rfl
theorem VP.ok.below {W W' : World} {p : VP} (h : p.ok W) (hb : Below W.heap.size W W') : p.ok W' := by
 cases p with
 | rat q s a n c b m d => exact ⟨h.1, h.2.1.below hb, h.2.2⟩
 | _ => trivial
def RetLY (r : Except Int (List Nat)) (w : World) (e : Ending) (w' : World) : Prop := match r with
 | .error x => (∃ a c, e = .returned (.tuple #[.slice a 0 c, .int .i64 x]) ∧ 0 ≤ c ∧ c ≤ 9223372036854775807) ∧ Below w.heap.size w w'
 | .ok l => ∃ a c, e = .returned (.tuple #[.slice a l.length c, .int .i64 0]) ∧ BytesN w' (.slice a l.length c) l ∧ Below w.heap.size w w'
theorem lay_err {p : List Value} {w : World} {x : Int} (h : Calls Tryz.prog 61 #[.agg p.toArray] w fun e w' => e = .returned (.tuple #[.slice none 0 0, .int .i64 x]) ∧ Below w.heap.size w w') : Calls Tryz.prog 61 #[.agg p.toArray] w (RetLY (.error x) w) :=
 h.mono fun e w' hh => ⟨⟨none, 0, hh.1, by omega, by omega⟩, hh.2⟩
theorem f27lay (p : VP) (w : World) (h : p.ok w) : Calls Tryz.prog 61 #[.agg p.cells.toArray] w (RetLY (layP p.prt) w) := by
 cases p with
 | num n lo hi =>
  show Calls Tryz.prog 61 _ w (RetLY (layP (.num n lo hi)) w)
  rw [layP_num]
  by_cases h1 : n < lo
  ·
   rw [if_pos (.inl h1)]; exact lay_err (lay_num_low n lo hi w h1)
  ·
   by_cases h2 : hi < n
   ·
    rw [if_pos (.inr h2)]; exact lay_err (lay_num_high n lo hi w h1 h2)
   ·
    rw [if_neg (by rintro (q | q); exact h1 q; exact h2 q)]
    exact lay_num_ok n lo hi _ w h1 h2 (by unfold IntKind.wrap; simp [IntKind.bits, IntKind.signed]; omega)
 | idn n =>
  show Calls Tryz.prog 61 _ w (RetLY (layP (.idn n)) w)
  rw [layP_idn]
  by_cases h1 : n < 0
  ·
   rw [if_pos (.inl h1)]; exact lay_err (lay_idn_low n w h1)
  ·
   by_cases h2 : 2147483647 < n
   ·
    rw [if_pos (.inr h2)]; exact lay_err (lay_idn_high n w h1 h2)
   ·
    rw [if_neg (by rintro (q | q); exact h1 q; exact h2 q)]
    obtain ⟨k, rfl⟩ : ∃ k : Nat, n = (k : Int) := ⟨n.toNat, by omega⟩
    have t : ∀ z : Nat, 0 < z → (k : Int).tdiv (z : Int) = ((k / z : Nat) : Int) := fun z hz => by rw [Int.tdiv_eq_ediv_of_nonneg (by omega)]; rfl
    have wr : ∀ z : Nat, z ≤ 2147483647 → wrap64 (z : Int) = (z : Int) := fun z hz => by unfold wrap64; omega
    have m : ∀ z : Nat, (z : Int).tmod 256 = ((z % 256 : Nat) : Int) := fun z => by rw [Int.tmod_eq_emod_of_nonneg (by omega)]; rfl
    have e : be4 (k : Int) = [k / 16777216 % 256, k / 65536 % 256, k / 256 % 256, k % 256] := by
     have a0 : ((k : Int) / 16777216 % 256).toNat = k / 16777216 % 256 := by omega
     have a1 : ((k : Int) / 65536 % 256).toNat = k / 65536 % 256 := by omega
     have a2 : ((k : Int) / 256 % 256).toNat = k / 256 % 256 := by omega
     have a3 : ((k : Int) % 256).toNat = k % 256 := by omega
     unfold be4
     rw [a0, a1, a2, a3]
    rw [e]
    have l0 : k / 16777216 ≤ 2147483647 := Nat.le_trans (Nat.div_le_self _ _) (by omega)
    have l1 : k / 65536 ≤ 2147483647 := Nat.le_trans (Nat.div_le_self _ _) (by omega)
    have l2 : k / 256 ≤ 2147483647 := Nat.le_trans (Nat.div_le_self _ _) (by omega)
    exact lay_idn_ok (k : Int) _ _ _ _ _ _ _ w h1 h2 (t 16777216 (by omega)) (by rw [wr _ l0]; omega) (t 65536 (by omega)) (by rw [wr _ l1, m]; omega) (t 256 (by omega)) (by rw [wr _ l2, m]; omega) (m k) (by unfold IntKind.wrap; simp [IntKind.bits, IntKind.signed])
 | tok t =>
  show Calls Tryz.prog 61 _ w (RetLY (layP (.tok (natB t))) w)
  rw [layP_tok, natB_len]
  by_cases h1 : t.size = 8
  ·
   rw [if_pos h1]
   have hr := lay_tok_ok t w h1 (by rw [h1]; rfl)
   unfold RetLY
   simp only [natB_len, h1]
   exact hr
  ·
   rw [if_neg h1]
   exact lay_err (lay_tok_bad t w (by simpa using (show (t.size : Int) ≠ 8 by omega)))
 | rat q s a n c b m d =>
  obtain ⟨rfl, h⟩ := h
  show Calls Tryz.prog 61 _ w (RetLY (layP (.rat q)) w)
  have hr := lay_rat (decide (q.num < 0)) a b n c m d w _ (fN (encR q)) (fK (encR q)) (fS (encR q)) _ (Lib.hid fun W hb => (f9enc q a b n c m d W (h.1.num.below hb) (h.1.den.below hb) h.2.1 h.2.2).mono fun e w' hh => enc_fe hh)
  rw [layP_rat]
  refine hr.mono fun e w' hh => ?_
  obtain ⟨a2, c2, he, hs, hb⟩ := hh
  cases hq : encR q with
  | ok l => rw [hq] at he hs; exact ⟨a2, c2, he, hs, hb⟩
  | error f =>
   rw [hq] at he hs
   have hl := BytesN.len hs
   exact ⟨⟨a2, c2, he, by omega, hl.2.2.1⟩, hb⟩
structure PSW (w : World) (a : Option Addr) (n c : Nat) (l : List VP) : Prop where
 len : l.length = n
 sl : Sl w 8 (.slice a n c) n (l.flatMap VP.cells)
 ok : ∀ p, p ∈ l → p.ok w
theorem PSW.below {w w' : World} {a : Option Addr} {n c : Nat} {l : List VP} (h : PSW w a n c l) (hb : Below w.heap.size w w') : PSW w' a n c l :=
 ⟨h.len, Sl.below h.sl hb, fun p hp => (h.ok p hp).below hb⟩
theorem PSW.cap {w : World} {a : Option Addr} {n c : Nat} {l : List VP} (h : PSW w a n c l) : n ≤ c ∧ c ≤ 9223372036854775807 := by
 obtain ⟨a', c', e, h1, h2, h3⟩ := Sl.len h.sl
 cases e
 exact ⟨h1, by unfold maxLen at h2; omega⟩
theorem PSW.get {w : World} {a : Option Addr} {n c : Nat} {l : List VP} (h : PSW w a n c l) (k : Nat) (hk : k < n) : ∃ p b o, l[k]? = some p ∧ p ∈ l ∧ a = some ⟨b, o, none⟩ ∧ b < w.heap.size ∧
  ∀ j u, p.cells[j]? = some u → w.cell? ⟨b, o + k * 8 + j, none⟩ = some u := by
 have hkl : k < l.length := by rw [h.len]; exact hk
 obtain ⟨b, o, c', e, h1, h2, h3, h4⟩ := h.sl.plain (by omega)
 cases e
 refine ⟨l[k], b, o, List.getElem?_eq_getElem hkl, List.getElem_mem hkl, rfl, h3, fun j u hj => ?_⟩
 have := h4 _ u (flat_at VP.cells 8 VP.len l k hkl j u hj)
 rw [Nat.add_assoc]; exact this
theorem VP.eight (p : VP) : ∃ v0 v1 v2 v3 v4 v5 v6 v7, p.cells = [v0, v1, v2, v3, v4, v5, v6, v7] := by
 cases p <;> exact ⟨_, _, _, _, _, _, _, _, rfl⟩
theorem lay_small (p : VP) {b : List Nat} (h : layP p.prt = .ok b) : b.length ≤ 513 := by
 cases p with
 | num n lo hi =>
  have h : layP (.num n lo hi) = .ok b := h
  rw [layP_num] at h
  split at h
  ·
   cases h
  ·
   injection h with h; subst h; simp
 | idn n =>
  have h : layP (.idn n) = .ok b := h
  rw [layP_idn] at h
  split at h
  ·
   cases h
  ·
   injection h with h; subst h; unfold be4; simp
 | tok t =>
  have h : layP (.tok (natB t)) = .ok b := h
  rw [layP_tok] at h
  split at h
  ·
   rename_i h8; injection h with h; subst h; omega
  ·
   cases h
 | rat q s a n c b2 m d =>
  have h : layP (.rat q) = .ok b := h
  rw [layP_rat] at h
  cases hq : encR q with
  | error f => rw [hq] at h; cases h
  | ok l => rw [hq] at h; injection h with h; subst h; exact (enc_small hq).2.2
theorem lay_kind (p : VP) {x : Int} (h : layP p.prt = .error x) : (x != 0) = true := by
 cases p with
 | num n lo hi =>
  have h : layP (.num n lo hi) = .error x := h
  rw [layP_num] at h
  split at h
  ·
   injection h with h; subst h; rfl
  ·
   cases h
 | idn n =>
  have h : layP (.idn n) = .error x := h
  rw [layP_idn] at h
  split at h
  ·
   injection h with h; subst h; rfl
  ·
   cases h
 | tok t =>
  have h : layP (.tok (natB t)) = .error x := h
  rw [layP_tok] at h
  split at h
  ·
   cases h
  ·
   injection h with h; subst h; rfl
 | rat q s a n c b2 m d =>
  have h : layP (.rat q) = .error x := h
  rw [layP_rat] at h
  cases hq : encR q with
  | error f =>
   rw [hq] at h; injection h with h
   obtain ⟨y, hy⟩ := enc_err_at hq
   rw [hy] at h; subst h; rfl
  | ok l => rw [hq] at h; cases h
def RetEN (r : WS) (w : World) (e : Ending) (w' : World) : Prop := match r with
 | .error x => e = .returned (.tuple #[.slice none 0 0, .int .i64 x.1, .int .i64 (x.2 : Nat)]) ∧ Below w.heap.size w w'
 | .ok l => ∃ a c, e = .returned (.tuple #[.slice a l.length c, .int .i64 0, .int .i64 0]) ∧ BytesN w' (.slice a l.length c) l ∧ Below w.heap.size w w'
theorem f27enc (m0 m1 m2 m3 m4 m5 m6 : Int) (t1 t2 : ByteArray) (qs : Bool) (qa qb ea : Option Addr) (qn qc qm qd en ec : Nat) (n : Nat) (l : List VP) (w : World) (hn : n ≤ 1000)
  (HPS : Hid (∀ W, Below w.heap.size w W → Calls Tryz.prog 60 #[.agg #[.int .i64 m0, .int .i64 m1, .int .i64 m2, .string t1, .string t2, .int .i64 m3, .int .i64 m4, .int .i64 m5, .int .i64 m6, .bool qs, .slice qa qn qc, .slice qb qm qd, .slice ea en ec]] W fun e w' => ∃ a c, e = .returned (.slice a n c) ∧ PSW w' a n c l ∧ Below W.heap.size W w')) :
  Calls Tryz.prog 20 #[.agg #[.int .i64 m0, .int .i64 m1, .int .i64 m2, .string t1, .string t2, .int .i64 m3, .int .i64 m4, .int .i64 m5, .int .i64 m6, .bool qs, .slice qa qn qc, .slice qb qm qd, .slice ea en ec]] w (RetEN (lays (.ok []) (l.map VP.prt)) w) := by
 obtain ⟨i0, hi, hz0, hz1, hz2⟩ := info_parts Tryz.info_bytes
 obtain ⟨W0, hW0⟩ : ∃ W0, W0 = w.alloc (.cells #[.int .i64 m0, .int .i64 m1, .int .i64 m2, .string t1, .string t2, .int .i64 m3, .int .i64 m4, .int .i64 m5, .int .i64 m6, .bool qs, .slice qa qn qc, .slice qb qm qd, .slice ea en ec] 63) := ⟨_, rfl⟩
 have HN := Lib.hid (show BS w [⟨w.heap.size, 63, [.int .i64 m0, .int .i64 m1, .int .i64 m2, .string t1, .string t2, .int .i64 m3, .int .i64 m4, .int .i64 m5, .int .i64 m6, .bool qs, .slice qa qn qc, .slice qb qm qd, .slice ea en ec]⟩] [] W0 from by rw [hW0]; exact (BS.start w).alloc (p := w.heap.size) rfl 63 [.int .i64 m0, .int .i64 m1, .int .i64 m2, .string t1, .string t2, .int .i64 m3, .int .i64 m4, .int .i64 m5, .int .i64 m6, .bool qs, .slice qa qn qc, .slice qb qm qd, .slice ea en ec] rfl)
 have HW0 := Lib.hid hW0
 clear hW0
 go_enter Tryz.func20, Tryz.ntmps20
 go_upto_region 1 with fail
 rw [← HW0.out]
 have ⟨k00, k01, k02, k03, k04, k05, k06, k07, k08, k09, k010, k011, k012⟩ := HN.out.cg13 0 rfl
 go_wp2_with fail
 refine (HPS.out _ HN.out.bel).mono ?_
 rintro e w1 ⟨a1, c1, rfl, hp, hb⟩
 have HP1 := Lib.hid hp
 have hcap := hp.cap
 have HB1 := Lib.hid (bthen HN.out.bel hb)
 clear hp hb k00 k01 k02 k03 k04 k05 k06 k07 k08 k09 k010 k011 k012
 clear HN HPS
 go_wp2_with fail
 go_loopw [5, 7] (fun v5 v7 wr => ∃ (k : Nat) (out : List Nat) (m : Nat) (a5 : Option Addr) (c5 : Nat), k ≤ n ∧ v7 = .int .i64 k ∧ m = out.length ∧ v5 = .slice a5 m c5 ∧ m ≤ 513 * k ∧ lays (.ok []) ((l.take k).map VP.prt) = .ok out ∧ YB w1 [] [] a5 m c5 out wr) (fun _ v7 _ => n - (intOf v7).toNat)
 case atStart => exact ⟨0, [], 0, none, 0, Nat.zero_le _, rfl, rfl, rfl, by omega, rfl, YB.start (BS.start w1)⟩
 case round =>
  obtain ⟨k, out, m, a5, c5, hk, rfl, hm, rfl, hm5, hly, hy⟩ := hrel
  have HY := Lib.hid hy
  have hcl : m ≤ c5 ∧ c5 ≤ 9223372036854775807 := ⟨hy.bytes.len.2.1, hy.bytes.len.2.2.1⟩
  have HMO := Lib.hid hm
  have HLY := Lib.hid hly
  clear hm hly
  by_cases hlt : k < n
  ·
   obtain ⟨p, b1, o1, hp, hpm, ha1, hb1, hc⟩ := (HP1.out.below hy.st.bel).get k hlt
   have hlay := f27lay p wr ((HP1.out.ok p hpm).below hy.st.bel)
   have HNX := Lib.hid (show lays (.ok []) ((l.take (k + 1)).map VP.prt) = lay1 (.ok out) p.prt by
    rw [List.take_add_one, hp, List.map_append, lays_append, HLY.out]; rfl)
   have HAL := Lib.hid (show lays (.ok []) (l.map VP.prt) = lays (lay1 (.ok out) p.prt) ((l.drop (k + 1)).map VP.prt) by
    rw [← HNX.out, ← lays_append, ← List.map_append, List.take_append_drop])
   obtain ⟨v0, v1, v2, v3, v4, v5, v6, v7, he⟩ := p.eight
   rw [he] at hlay
   have HLAY := Lib.hid hlay
   have d0 := hc 0 v0 (by rw [he]; rfl)
   rw [Nat.add_zero] at d0
   have d1 := hc 1 v1 (by rw [he]; rfl)
   have d2 := hc 2 v2 (by rw [he]; rfl)
   have d3 := hc 3 v3 (by rw [he]; rfl)
   have d4 := hc 4 v4 (by rw [he]; rfl)
   have d5 := hc 5 v5 (by rw [he]; rfl)
   have d6 := hc 6 v6 (by rw [he]; rfl)
   have d7 := hc 7 v7 (by rw [he]; rfl)
   have HKD := Lib.hid (fun x hx => lay_kind p (x := x) hx)
   have HSM := Lib.hid (fun b hb => lay_small p (b := b) hb)
   subst ha1
   clear hlay he hc hp hy hpm
   go_wp2_with fail
   refine HLAY.out.mono ?_
   intro e w2 hr
   clear d0 d1 d2 d3 d4 d5 d6 d7 HLAY
   generalize hR : layP p.prt = R at hr
   cases R with
   | error x =>
    obtain ⟨⟨a2, c2, rfl, hc2⟩, hb2⟩ := hr
    have HB2 := Lib.hid (bthen HB1.out (bthen HY.out.st.bel hb2))
    have hx := HKD.out x hR
    have HAE := Lib.hid (show lays (.ok []) (l.map VP.prt) = .error (x, m) by
     rw [HAL.out]; unfold lay1; simp only [hR]; rw [lays_error, HMO.out])
    clear hR hb2
    go_wp2_with fail
    go_ret3
    rw [HAE.out]
    exact ⟨rfl, HB2.out⟩
   | ok b =>
    obtain ⟨a2, c2, rfl, hs, hb2⟩ := hr
    have hbs := HSM.out b hR
    obtain ⟨z, hz⟩ : ∃ z, b.length = z := ⟨_, rfl⟩
    rw [hz] at hs hbs ⊢
    have HS := Lib.hid hs
    have hsl := hs.len.2
    have HZ := Lib.hid hz
    clear hz
    replace HNX := Lib.hid (show lays (.ok []) ((l.take (k + 1)).map VP.prt) = .ok (out ++ b) by
     rw [HNX.out]; unfold lay1; simp only [hR])
    replace HY := Lib.hid (HY.out.call hb2)
    clear hR hb2 hs
    have HM3 := Lib.hid HY.out.mid
    have HW3 := Lib.hid HY.out.st.bel.size
    have HS3 := Lib.hid (BytesN.srcM (P := Tryz.prog) HS.out Tryz.underlying32 HZ.out.symm)
    go_wp2_with (at_builtin; refine wpList_append_mid (v := .slice a5 m c5) rfl _ _ 32 32 rfl i0 (.int .u8 0) 1 Tryz.underlying32 hi hz0 hz1 hz2 rfl rfl HM3.out _ rfl (z) _ HS3.out (by unfold maxLen; omega) (by omega) HW3.out ?_; intro a7 c7 w7 hmo hgo hbo; have HP := Lib.hid (HY.out.push0 (ys := b) hmo hgo hbo); clear hmo hgo hbo HM3 HW3 HS3; go_wp2_with fail)
    go_roundw
    case rel => exact ⟨k + 1, out ++ b, m + z, a7, c7, by omega, by go_num, by rw [List.length_append, ← HMO.out, HZ.out], rfl, by omega, HNX.out, HP.out⟩
    case measure => simp [intOf]; omega
  ·
   obtain rfl : k = n := by omega
   have HAE := Lib.hid (show lays (.ok []) (l.map VP.prt) = .ok out by
    rw [← HLY.out, List.take_of_length_le (by rw [HP1.out.len]; exact Nat.le_refl _)])
   clear hy
   go_wp2_with fail
   go_ret3
   rw [HAE.out]
   refine ⟨a5, c5, by rw [← HMO.out]; rfl, ?_, bthen HB1.out HY.out.st.bel⟩
   have h9 := HY.out.bytes
   rw [HMO.out] at h9
   exact h9
theorem Tryz.infoPart : (Tryz.prog.info? 152).map (fun i => (i.zero, i.size, i.bytes)) = some (some (.agg #[.int .i64 0, .int .i64 0, .int .i64 0, .int .i64 0, .string ⟨#[]⟩, .bool false, .slice none 0 0, .slice none 0 0]), 8, 104) := by kernel_rfl
theorem one_VP (l : List VP) : ∀ u ∈ l.flatMap VP.cells, u.oneCell' = true := fun u hu => by
 obtain ⟨p, _, hp⟩ := List.mem_flatMap.1 hu
 cases p <;> simp only [VP.cells, List.mem_cons, List.not_mem_nil, or_false] at hp <;> rcases hp with rfl | rfl | rfl | rfl | rfl | rfl | rfl | rfl <;> rfl
structure PL (w : World) (a : Option Addr) (n c : Nat) (l : List VP) (W : World) : Prop where
 mid : Mid W w.heap.size 152 8 (.slice a n c) n (l.flatMap VP.cells)
 bel : Below w.heap.size w W
theorem PL.nil (w : World) : PL w none 0 0 [] w := ⟨Mid.nil w w.heap.size 152 8, Below.refl _ _⟩
theorem PL.call {w W W' : World} {a : Option Addr} {n c : Nat} {l : List VP} (h : PL w a n c l W) (hb : Below W.heap.size W W') : PL w a n c l W' := ⟨h.mid.below hb fun k hk => (h.mid.lt k hk).2, bthen h.bel hb⟩
theorem PL.len {w W : World} {a : Option Addr} {n c : Nat} {l : List VP} (h : PL w a n c l W) : n ≤ c ∧ c ≤ 9223372036854775807 := by
 obtain ⟨a', c', e, h1, h2, h3⟩ := Sl.len (Sl.ofMid h.mid)
 cases e
 exact ⟨h1, by unfold maxLen at h2; omega⟩
theorem vp_len (l : List VP) : (l.flatMap VP.cells).length = l.length * 8 := by
 induction l with
 | nil => rfl
 | cons p l ih => rw [List.flatMap_cons, List.length_append, VP.len, ih, List.length_cons]; omega
theorem PL.lit {w W : World} (h : PL w none 0 0 [] W) (l : List VP) (n : Nat) (hn : l.length = n) {ob : Obj} (ho : ob = .cells (l.flatMap VP.cells).toArray 152 (0, 0)) (hm : n ≤ maxLen := by unfold maxLen; omega) : PL w (some ⟨W.heap.size, 0, none⟩) n n l (W.alloc ob) := by
 subst ho hn
 refine ⟨⟨vp_len l, .inr ⟨W.heap.size, 0, l.length, _, rfl, h.bel.size, heap_alloc_new _ _, Nat.le_refl _, hm, by rw [Nat.zero_add, List.size_toArray, vp_len]; exact Nat.le_refl _, ?_⟩⟩, bthen h.bel (belowBox _ _)⟩
 rw [List.drop_zero]
 exact List.take_of_length_le (by rw [vp_len]; exact Nat.le_refl _)
theorem PL.push {w W W5 : World} {a a5 : Option Addr} {n c c5 m : Nat} {l ys : List VP} {ob : Obj} (h : PL w a n c l W)
  (hm : Mid W5 w.heap.size 152 8 (.slice a5 (n + m) c5) (n + m) (l.flatMap VP.cells ++ ys.flatMap VP.cells)) (hg : (W.alloc ob).grownBy W5 (Value.slice a n c).ownBlock) : PL w a5 (n + m) c5 (l ++ ys) W5 := by
 refine ⟨by rw [List.flatMap_append]; exact hm, Below.trans h.bel ?_⟩
 have h1 : Below w.heap.size (W.alloc ob) W5 := (Keeps.of_grown hg (S := fun b => w.heap.size ≤ b) fun b hb => (h.mid.lt b hb).1).below (Nat.le_trans h.bel.size (by simp)) fun b hb => hb
 exact Below.trans ((belowBox W ob).mono h.bel.size) h1
theorem PL.push0 {w W W5 : World} {a a5 : Option Addr} {n c c5 m : Nat} {l ys : List VP} (h : PL w a n c l W)
  (hm : Mid W5 w.heap.size 152 8 (.slice a5 (n + m) c5) (n + m) (l.flatMap VP.cells ++ ys.flatMap VP.cells)) (hg : W.grownBy W5 (Value.slice a n c).ownBlock) : PL w a5 (n + m) c5 (l ++ ys) W5 := by
 refine ⟨by rw [List.flatMap_append]; exact hm, Below.trans h.bel ?_⟩
 exact (Keeps.of_grown hg (S := fun b => w.heap.size ≤ b) fun b hb => (h.mid.lt b hb).1).below h.bel.size fun b hb => hb
structure VE where
 id : Int
 q : Rat
 s : Bool
 a : Option Addr
 n : Nat
 c : Nat
 b : Option Addr
 m : Nat
 d : Nat
def VE.cells (e : VE) : List Value := [.int .i64 e.id, .bool e.s, .slice e.a e.n e.c, .slice e.b e.m e.d]
def VE.two (e : VE) : List VP := [VP.idn e.id, VP.rat e.q e.s e.a e.n e.c e.b e.m e.d]
def VE.ent (e : VE) : Ent := ⟨e.id, e.q⟩
theorem VE.len (e : VE) : e.cells.length = 4 := rfl
structure EsR (w : World) (a : Option Addr) (n c : Nat) (l : List VE) : Prop where
 len : l.length = n
 sl : Sl w 4 (.slice a n c) n (l.flatMap VE.cells)
theorem EsR.below {w w' : World} {a : Option Addr} {n c : Nat} {l : List VE} (h : EsR w a n c l) (hb : Below w.heap.size w w') : EsR w' a n c l := ⟨h.len, Sl.below h.sl hb⟩
theorem EsR.cap {w : World} {a : Option Addr} {n c : Nat} {l : List VE} (h : EsR w a n c l) : n ≤ c ∧ c ≤ 9223372036854775807 := by
 obtain ⟨a', c', e, h1, h2, h3⟩ := Sl.len h.sl
 cases e
 exact ⟨h1, by unfold maxLen at h2; omega⟩
theorem EsR.get {w : World} {a : Option Addr} {n c : Nat} {l : List VE} (h : EsR w a n c l) (k : Nat) (hk : k < n) : ∃ x b o, l[k]? = some x ∧ a = some ⟨b, o, none⟩ ∧ b < w.heap.size ∧
  w.cell? ⟨b, o + k * 4, none⟩ = some (.int .i64 x.id) ∧ w.cell? ⟨b, o + k * 4 + 1, none⟩ = some (.bool x.s) ∧ w.cell? ⟨b, o + k * 4 + 2, none⟩ = some (.slice x.a x.n x.c) ∧ w.cell? ⟨b, o + k * 4 + 3, none⟩ = some (.slice x.b x.m x.d) := by
 have hkl : k < l.length := by rw [h.len]; exact hk
 obtain ⟨b, o, c', e, h1, h2, h3, h4⟩ := h.sl.plain (by omega)
 cases e
 have hc := fun j u hj => h4 _ u (flat_at VE.cells 4 VE.len l k hkl j u hj)
 have c0 := hc 0 _ rfl
 have c1 := hc 1 _ rfl
 have c2 := hc 2 _ rfl
 have c3 := hc 3 _ rfl
 simp only [← Nat.add_assoc, Nat.add_zero] at c0 c1 c2 c3
 exact ⟨l[k], b, o, List.getElem?_eq_getElem hkl, rfl, h3, c0, c1, c2, c3⟩
theorem PL.psw {w w0 W : World} {a : Option Addr} {n c : Nat} {l : List VP} (h : PL w0 a n c l W) (hok : ∀ W, Below w.heap.size w W → ∀ p, p ∈ l → p.ok W) (hn : l.length = n) (hb : Below w.heap.size w w0) : PSW W a n c l := ⟨hn, Sl.ofMid h.mid, hok W (bthen hb h.bel)⟩
theorem f27qst_5 (m0 m1 m2 m4 m5 m6 : Int) (t1 t2 : ByteArray) (q : Rat) (qs : Bool) (qa qb ea : Option Addr) (qn qc qm qd en ec : Nat) (w : World)
  (HOK : Hid (∀ W, Below w.heap.size w W → ∀ p, p ∈ (([VP.num (5) 1 12] ++ [VP.idn m4, VP.idn m5, VP.rat q qs qa qn qc qb qm qd]) : List VP) → p.ok W)) :
  Calls Tryz.prog 128 #[.agg #[.int .i64 m0, .int .i64 m1, .int .i64 m2, .string t1, .string t2, .int .i64 5, .int .i64 m4, .int .i64 m5, .int .i64 m6, .bool qs, .slice qa qn qc, .slice qb qm qd, .slice ea en ec]] w fun e w' => ∃ a c, e = .returned (.slice a (1 + 3) c) ∧ PSW w' a (1 + 3) c ([VP.num (5) 1 12] ++ [VP.idn m4, VP.idn m5, VP.rat q qs qa qn qc qb qm qd]) ∧ Below w.heap.size w w' := by
 obtain ⟨i0, hi, hz0, hz1, hz2⟩ := info_parts Tryz.infoPart
 obtain ⟨W0, hW0⟩ : ∃ W0, W0 = w.alloc (.cells #[.int .i64 m0, .int .i64 m1, .int .i64 m2, .string t1, .string t2, .int .i64 5, .int .i64 m4, .int .i64 m5, .int .i64 m6, .bool qs, .slice qa qn qc, .slice qb qm qd, .slice ea en ec] 63) := ⟨_, rfl⟩
 have HN := Lib.hid (show BS w [⟨w.heap.size, 63, [.int .i64 m0, .int .i64 m1, .int .i64 m2, .string t1, .string t2, .int .i64 5, .int .i64 m4, .int .i64 m5, .int .i64 m6, .bool qs, .slice qa qn qc, .slice qb qm qd, .slice ea en ec]⟩] [] W0 from by rw [hW0]; exact (BS.start w).alloc (p := w.heap.size) rfl 63 [.int .i64 m0, .int .i64 m1, .int .i64 m2, .string t1, .string t2, .int .i64 5, .int .i64 m4, .int .i64 m5, .int .i64 m6, .bool qs, .slice qa qn qc, .slice qb qm qd, .slice ea en ec] rfl)
 have HW0 := Lib.hid hW0
 have HMX := Lib.hid (fun (W : World) (hb : Below W0.heap.size W0 W) => (⟨(hb.cell (p := ⟨w.heap.size, 0, none⟩) (HN.out.lt 0 rfl)).trans (HN.out.cell 0 0 rfl rfl), (hb.cell (p := ⟨w.heap.size, 1, none⟩) (HN.out.lt 0 rfl)).trans (HN.out.cell 0 1 rfl rfl), (hb.cell (p := ⟨w.heap.size, 2, none⟩) (HN.out.lt 0 rfl)).trans (HN.out.cell 0 2 rfl rfl), (hb.cell (p := ⟨w.heap.size, 3, none⟩) (HN.out.lt 0 rfl)).trans (HN.out.cell 0 3 rfl rfl), (hb.cell (p := ⟨w.heap.size, 4, none⟩) (HN.out.lt 0 rfl)).trans (HN.out.cell 0 4 rfl rfl), (hb.cell (p := ⟨w.heap.size, 5, none⟩) (HN.out.lt 0 rfl)).trans (HN.out.cell 0 5 rfl rfl), (hb.cell (p := ⟨w.heap.size, 6, none⟩) (HN.out.lt 0 rfl)).trans (HN.out.cell 0 6 rfl rfl), (hb.cell (p := ⟨w.heap.size, 7, none⟩) (HN.out.lt 0 rfl)).trans (HN.out.cell 0 7 rfl rfl), (hb.cell (p := ⟨w.heap.size, 8, none⟩) (HN.out.lt 0 rfl)).trans (HN.out.cell 0 8 rfl rfl), (hb.cell (p := ⟨w.heap.size, 9, none⟩) (HN.out.lt 0 rfl)).trans (HN.out.cell 0 9 rfl rfl), (hb.cell (p := ⟨w.heap.size, 10, none⟩) (HN.out.lt 0 rfl)).trans (HN.out.cell 0 10 rfl rfl), (hb.cell (p := ⟨w.heap.size, 11, none⟩) (HN.out.lt 0 rfl)).trans (HN.out.cell 0 11 rfl rfl), (hb.cell (p := ⟨w.heap.size, 12, none⟩) (HN.out.lt 0 rfl)).trans (HN.out.cell 0 12 rfl rfl)⟩ : W.cell? ⟨w.heap.size, 0, none⟩ = some (.int .i64 m0) ∧ W.cell? ⟨w.heap.size, 1, none⟩ = some (.int .i64 m1) ∧ W.cell? ⟨w.heap.size, 2, none⟩ = some (.int .i64 m2) ∧ W.cell? ⟨w.heap.size, 3, none⟩ = some (.string t1) ∧ W.cell? ⟨w.heap.size, 4, none⟩ = some (.string t2) ∧ W.cell? ⟨w.heap.size, 5, none⟩ = some (.int .i64 5) ∧ W.cell? ⟨w.heap.size, 6, none⟩ = some (.int .i64 m4) ∧ W.cell? ⟨w.heap.size, 7, none⟩ = some (.int .i64 m5) ∧ W.cell? ⟨w.heap.size, 8, none⟩ = some (.int .i64 m6) ∧ W.cell? ⟨w.heap.size, 9, none⟩ = some (.bool qs) ∧ W.cell? ⟨w.heap.size, 10, none⟩ = some (.slice qa qn qc) ∧ W.cell? ⟨w.heap.size, 11, none⟩ = some (.slice qb qm qd) ∧ W.cell? ⟨w.heap.size, 12, none⟩ = some (.slice ea en ec)))
 clear hW0
 go_enter Tryz.func128, Tryz.ntmps128
 go_upto_region 1 with fail
 rw [← HW0.out]
 have HO := Lib.hid (PL.nil W0)
 have ⟨k0, k1, k2, k3, k4, k5, k6, k7, k8, k9, k10, k11, k12⟩ := HMX.out _ HO.out.bel
 go_wp2_with fail
 clear k0 k1 k2 k3 k4 k5 k6 k7 k8 k9 k10 k11 k12
 refine (f27num (5) 1 12 _).mono ?_
 rintro e w1 ⟨rfl, hb⟩
 replace HO := Lib.hid (HO.out.call hb)
 clear hb
 replace HO := Lib.hid (show PL W0 (some ⟨w1.heap.size, 0, none⟩) 1 1 [VP.num (5) 1 12] (w1.alloc (.cells #[.int .i64 1, .int .i64 1, .int .i64 12, .int .i64 5, .string ⟨#[]⟩, .bool false, .slice none 0 0, .slice none 0 0] 152)) from HO.out.lit [VP.num (5) 1 12] 1 rfl rfl)
 have ⟨k0, k1, k2, k3, k4, k5, k6, k7, k8, k9, k10, k11, k12⟩ := HMX.out _ HO.out.bel
 go_upto_region 13 with fail
 clear k0 k1 k2 k3 k4 k5 k6 k7 k8 k9 k10 k11 k12
 obtain ⟨p2, hp⟩ : ∃ p2, w1.heap.size = p2 := ⟨_, rfl⟩
 rw [hp] at HO
 (try simp only [hp])
 clear hp
 generalize w1.alloc (.cells #[.int .i64 1, .int .i64 1, .int .i64 12, .int .i64 5, .string ⟨#[]⟩, .bool false, .slice none 0 0, .slice none 0 0] 152) = w2 at HO ⊢
 replace HO := Lib.hid (show PL W0 (some ⟨p2, 0, none⟩) 1 1 [VP.num (5) 1 12] w2.drew from HO.out.call (Below.drawn w2 1))
 refine wp_region_held_drew (S := fun W => W.cell? ⟨w.heap.size, 0, none⟩ = some (.int .i64 m0) ∧ W.cell? ⟨w.heap.size, 1, none⟩ = some (.int .i64 m1) ∧ W.cell? ⟨w.heap.size, 2, none⟩ = some (.int .i64 m2) ∧ W.cell? ⟨w.heap.size, 3, none⟩ = some (.string t1) ∧ W.cell? ⟨w.heap.size, 4, none⟩ = some (.string t2) ∧ W.cell? ⟨w.heap.size, 5, none⟩ = some (.int .i64 5) ∧ W.cell? ⟨w.heap.size, 6, none⟩ = some (.int .i64 m4) ∧ W.cell? ⟨w.heap.size, 7, none⟩ = some (.int .i64 m5) ∧ W.cell? ⟨w.heap.size, 8, none⟩ = some (.int .i64 m6) ∧ W.cell? ⟨w.heap.size, 9, none⟩ = some (.bool qs) ∧ W.cell? ⟨w.heap.size, 10, none⟩ = some (.slice qa qn qc) ∧ W.cell? ⟨w.heap.size, 11, none⟩ = some (.slice qb qm qd) ∧ W.cell? ⟨w.heap.size, 12, none⟩ = some (.slice ea en ec)) (by kernel_rfl) (HMX.out _ HO.out.bel) (fun hHeld => ?_)
 generalize w2.drew = wd at HO hHeld ⊢
 refine tm 0 (some 59) ?_
 refine tm 1 (some 60) ?_
 refine tl 2 (some 61) ?_
 refine tm 4 (some 63) ?_
 refine tl 5 (some 64) ?_
 refine tm 7 (some 66) ?_
 refine tl 8 (some 67) ?_
 refine wpAnyH_ready (rs := [3]) (by kernel_rfl) (by simp) ?_
 refine (AllReadyH.cons rfl (fun K hK => ?_) AllReadyH.nil)
 go_simp
 refine (f27idn m4 _).mono ?_
 rintro e wd ⟨rfl, hb⟩
 replace HO := Lib.hid (HO.out.call hb)
 clear hb
 go_wp2_with fail
 refine hK.out _ _ (HMX.out _ HO.out.bel) (fun hHeld2 => ?_)
 clear hK K hHeld
 rename _ => hHeld
 try simp only [Act.put, stB, stZ, stS]
 refine wpAnyH_ready (rs := [6]) (by kernel_rfl) (by simp) ?_
 refine (AllReadyH.cons rfl (fun K hK => ?_) AllReadyH.nil)
 go_simp
 refine (f27idn m5 _).mono ?_
 rintro e wd ⟨rfl, hb⟩
 replace HO := Lib.hid (HO.out.call hb)
 clear hb
 go_wp2_with fail
 refine hK.out _ _ (HMX.out _ HO.out.bel) (fun hHeld2 => ?_)
 clear hK K hHeld
 rename _ => hHeld
 try simp only [Act.put, stB, stZ, stS]
 refine wpAnyH_ready (rs := [9]) (by kernel_rfl) (by simp) ?_
 refine (AllReadyH.cons rfl (fun K hK => ?_) AllReadyH.nil)
 go_simp
 refine (f27rat qs qa qb qn qc qm qd _).mono ?_
 rintro e wd ⟨rfl, hb⟩
 replace HO := Lib.hid (HO.out.call hb)
 clear hb
 go_wp2_with fail
 refine hK.out _ _ (HMX.out _ HO.out.bel) (fun hHeld2 => ?_)
 clear hK K hHeld
 rename _ => hHeld
 try simp only [Act.put, stB, stZ, stS]
 refine wpAnyH_ready (rs := [10]) (by kernel_rfl) (by simp) ?_
 refine (AllReadyH.cons rfl (fun K hK => ?_) AllReadyH.nil)
 go_simp
 refine hK.out _ _ (HMX.out _ (bthen HO.out.bel (belowBox _ (.cells #[.int .i64 2, .int .i64 0, .int .i64 0, .int .i64 m4, .string ⟨#[]⟩, .bool false, .slice none 0 0, .slice none 0 0, .int .i64 2, .int .i64 0, .int .i64 0, .int .i64 m5, .string ⟨#[]⟩, .bool false, .slice none 0 0, .slice none 0 0, .int .i64 4, .int .i64 0, .int .i64 0, .int .i64 0, .string ⟨#[]⟩, .bool qs, .slice qa qn qc, .slice qb qm qd] 152)))) (fun hHeld2 => ?_)
 clear hK K hHeld
 rename _ => hHeld
 try simp only [Act.put, stB, stZ, stS]
 refine wpAnyH_ready (rs := [11]) (by kernel_rfl) (by simp) ?_
 refine (AllReadyH.cons rfl (fun K hK => ?_) AllReadyH.nil)
 refine step_append_mid (v := .slice (some ⟨p2, 0, none⟩) 1 1) rfl _ _ 147 147 rfl i0 (.agg #[.int .i64 0, .int .i64 0, .int .i64 0, .int .i64 0, .string ⟨#[]⟩, .bool false, .slice none 0 0, .slice none 0 0]) 104 Tryz.underlying147 hi hz0 hz1 hz2 rfl rfl (HO.out.mid.alloc (.cells #[.int .i64 2, .int .i64 0, .int .i64 0, .int .i64 m4, .string ⟨#[]⟩, .bool false, .slice none 0 0, .slice none 0 0, .int .i64 2, .int .i64 0, .int .i64 0, .int .i64 m5, .string ⟨#[]⟩, .bool false, .slice none 0 0, .slice none 0 0, .int .i64 4, .int .i64 0, .int .i64 0, .int .i64 0, .string ⟨#[]⟩, .bool qs, .slice qa qn qc, .slice qb qm qd] 152)) _ rfl 3 ([VP.idn m4, VP.idn m5, VP.rat q qs qa qn qc qb qm qd].flatMap VP.cells) ((Sl.lit _ 152 8 3 ([VP.idn m4, VP.idn m5, VP.rat q qs qa qn qc qb qm qd].flatMap VP.cells) (by unfold maxLen; omega) rfl).src (P := Tryz.prog) Tryz.underlying147 (one_VP [VP.idn m4, VP.idn m5, VP.rat q qs qa qn qc qb qm qd])) (by unfold maxLen; omega) (by omega) (Nat.le_trans HO.out.bel.size (belowBox _ _).size) ?_
 intro a3 c3 w3 hmo hgo hbo
 have HO6 := Lib.hid (HO.out.push (ys := [VP.idn m4, VP.idn m5, VP.rat q qs qa qn qc qb qm qd]) hmo hgo)
 replace HO := HO6
 clear HO6 hmo hgo hbo
 refine hK.out _ _ (HMX.out _ HO.out.bel) (fun hHeld2 => ?_)
 clear hK K hHeld
 rename _ => hHeld
 try simp only [Act.put, stB, stZ, stS]
 refine tm 12 (some 3) ?_
 refine wpAnyH_done (by kernel_rfl) ?_ _
 clear hHeld
 go_wp2_with fail
 go_ret
 exact ⟨_, _, rfl, HO.out.psw HOK.out rfl (by rw [HW0.out]; exact belowBox _ _), bthen (belowBox w (.cells #[.int .i64 m0, .int .i64 m1, .int .i64 m2, .string t1, .string t2, .int .i64 5, .int .i64 m4, .int .i64 m5, .int .i64 m6, .bool qs, .slice qa qn qc, .slice qb qm qd, .slice ea en ec] 63)) (by rw [← HW0.out]; exact HO.out.bel)⟩
theorem f27qst_7 (m0 m1 m2 m4 m5 m6 : Int) (t1 t2 : ByteArray) (q : Rat) (qs : Bool) (qa qb ea : Option Addr) (qn qc qm qd en ec : Nat) (w : World)
  (HOK : Hid (∀ W, Below w.heap.size w W → ∀ p, p ∈ (([VP.num (7) 1 12] ++ [VP.idn m5, VP.rat q qs qa qn qc qb qm qd]) : List VP) → p.ok W)) :
  Calls Tryz.prog 128 #[.agg #[.int .i64 m0, .int .i64 m1, .int .i64 m2, .string t1, .string t2, .int .i64 7, .int .i64 m4, .int .i64 m5, .int .i64 m6, .bool qs, .slice qa qn qc, .slice qb qm qd, .slice ea en ec]] w fun e w' => ∃ a c, e = .returned (.slice a (1 + 2) c) ∧ PSW w' a (1 + 2) c ([VP.num (7) 1 12] ++ [VP.idn m5, VP.rat q qs qa qn qc qb qm qd]) ∧ Below w.heap.size w w' := by
 obtain ⟨i0, hi, hz0, hz1, hz2⟩ := info_parts Tryz.infoPart
 obtain ⟨W0, hW0⟩ : ∃ W0, W0 = w.alloc (.cells #[.int .i64 m0, .int .i64 m1, .int .i64 m2, .string t1, .string t2, .int .i64 7, .int .i64 m4, .int .i64 m5, .int .i64 m6, .bool qs, .slice qa qn qc, .slice qb qm qd, .slice ea en ec] 63) := ⟨_, rfl⟩
 have HN := Lib.hid (show BS w [⟨w.heap.size, 63, [.int .i64 m0, .int .i64 m1, .int .i64 m2, .string t1, .string t2, .int .i64 7, .int .i64 m4, .int .i64 m5, .int .i64 m6, .bool qs, .slice qa qn qc, .slice qb qm qd, .slice ea en ec]⟩] [] W0 from by rw [hW0]; exact (BS.start w).alloc (p := w.heap.size) rfl 63 [.int .i64 m0, .int .i64 m1, .int .i64 m2, .string t1, .string t2, .int .i64 7, .int .i64 m4, .int .i64 m5, .int .i64 m6, .bool qs, .slice qa qn qc, .slice qb qm qd, .slice ea en ec] rfl)
 have HW0 := Lib.hid hW0
 have HMX := Lib.hid (fun (W : World) (hb : Below W0.heap.size W0 W) => (⟨(hb.cell (p := ⟨w.heap.size, 0, none⟩) (HN.out.lt 0 rfl)).trans (HN.out.cell 0 0 rfl rfl), (hb.cell (p := ⟨w.heap.size, 1, none⟩) (HN.out.lt 0 rfl)).trans (HN.out.cell 0 1 rfl rfl), (hb.cell (p := ⟨w.heap.size, 2, none⟩) (HN.out.lt 0 rfl)).trans (HN.out.cell 0 2 rfl rfl), (hb.cell (p := ⟨w.heap.size, 3, none⟩) (HN.out.lt 0 rfl)).trans (HN.out.cell 0 3 rfl rfl), (hb.cell (p := ⟨w.heap.size, 4, none⟩) (HN.out.lt 0 rfl)).trans (HN.out.cell 0 4 rfl rfl), (hb.cell (p := ⟨w.heap.size, 5, none⟩) (HN.out.lt 0 rfl)).trans (HN.out.cell 0 5 rfl rfl), (hb.cell (p := ⟨w.heap.size, 6, none⟩) (HN.out.lt 0 rfl)).trans (HN.out.cell 0 6 rfl rfl), (hb.cell (p := ⟨w.heap.size, 7, none⟩) (HN.out.lt 0 rfl)).trans (HN.out.cell 0 7 rfl rfl), (hb.cell (p := ⟨w.heap.size, 8, none⟩) (HN.out.lt 0 rfl)).trans (HN.out.cell 0 8 rfl rfl), (hb.cell (p := ⟨w.heap.size, 9, none⟩) (HN.out.lt 0 rfl)).trans (HN.out.cell 0 9 rfl rfl), (hb.cell (p := ⟨w.heap.size, 10, none⟩) (HN.out.lt 0 rfl)).trans (HN.out.cell 0 10 rfl rfl), (hb.cell (p := ⟨w.heap.size, 11, none⟩) (HN.out.lt 0 rfl)).trans (HN.out.cell 0 11 rfl rfl), (hb.cell (p := ⟨w.heap.size, 12, none⟩) (HN.out.lt 0 rfl)).trans (HN.out.cell 0 12 rfl rfl)⟩ : W.cell? ⟨w.heap.size, 0, none⟩ = some (.int .i64 m0) ∧ W.cell? ⟨w.heap.size, 1, none⟩ = some (.int .i64 m1) ∧ W.cell? ⟨w.heap.size, 2, none⟩ = some (.int .i64 m2) ∧ W.cell? ⟨w.heap.size, 3, none⟩ = some (.string t1) ∧ W.cell? ⟨w.heap.size, 4, none⟩ = some (.string t2) ∧ W.cell? ⟨w.heap.size, 5, none⟩ = some (.int .i64 7) ∧ W.cell? ⟨w.heap.size, 6, none⟩ = some (.int .i64 m4) ∧ W.cell? ⟨w.heap.size, 7, none⟩ = some (.int .i64 m5) ∧ W.cell? ⟨w.heap.size, 8, none⟩ = some (.int .i64 m6) ∧ W.cell? ⟨w.heap.size, 9, none⟩ = some (.bool qs) ∧ W.cell? ⟨w.heap.size, 10, none⟩ = some (.slice qa qn qc) ∧ W.cell? ⟨w.heap.size, 11, none⟩ = some (.slice qb qm qd) ∧ W.cell? ⟨w.heap.size, 12, none⟩ = some (.slice ea en ec)))
 clear hW0
 go_enter Tryz.func128, Tryz.ntmps128
 go_upto_region 1 with fail
 rw [← HW0.out]
 have HO := Lib.hid (PL.nil W0)
 have ⟨k0, k1, k2, k3, k4, k5, k6, k7, k8, k9, k10, k11, k12⟩ := HMX.out _ HO.out.bel
 go_wp2_with fail
 clear k0 k1 k2 k3 k4 k5 k6 k7 k8 k9 k10 k11 k12
 refine (f27num (7) 1 12 _).mono ?_
 rintro e w1 ⟨rfl, hb⟩
 replace HO := Lib.hid (HO.out.call hb)
 clear hb
 replace HO := Lib.hid (show PL W0 (some ⟨w1.heap.size, 0, none⟩) 1 1 [VP.num (7) 1 12] (w1.alloc (.cells #[.int .i64 1, .int .i64 1, .int .i64 12, .int .i64 7, .string ⟨#[]⟩, .bool false, .slice none 0 0, .slice none 0 0] 152)) from HO.out.lit [VP.num (7) 1 12] 1 rfl rfl)
 have ⟨k0, k1, k2, k3, k4, k5, k6, k7, k8, k9, k10, k11, k12⟩ := HMX.out _ HO.out.bel
 go_upto_region 15 with fail
 clear k0 k1 k2 k3 k4 k5 k6 k7 k8 k9 k10 k11 k12
 obtain ⟨p2, hp⟩ : ∃ p2, w1.heap.size = p2 := ⟨_, rfl⟩
 rw [hp] at HO
 (try simp only [hp])
 clear hp
 generalize w1.alloc (.cells #[.int .i64 1, .int .i64 1, .int .i64 12, .int .i64 7, .string ⟨#[]⟩, .bool false, .slice none 0 0, .slice none 0 0] 152) = w2 at HO ⊢
 replace HO := Lib.hid (show PL W0 (some ⟨p2, 0, none⟩) 1 1 [VP.num (7) 1 12] w2.drew from HO.out.call (Below.drawn w2 1))
 refine wp_region_held_drew (S := fun W => W.cell? ⟨w.heap.size, 0, none⟩ = some (.int .i64 m0) ∧ W.cell? ⟨w.heap.size, 1, none⟩ = some (.int .i64 m1) ∧ W.cell? ⟨w.heap.size, 2, none⟩ = some (.int .i64 m2) ∧ W.cell? ⟨w.heap.size, 3, none⟩ = some (.string t1) ∧ W.cell? ⟨w.heap.size, 4, none⟩ = some (.string t2) ∧ W.cell? ⟨w.heap.size, 5, none⟩ = some (.int .i64 7) ∧ W.cell? ⟨w.heap.size, 6, none⟩ = some (.int .i64 m4) ∧ W.cell? ⟨w.heap.size, 7, none⟩ = some (.int .i64 m5) ∧ W.cell? ⟨w.heap.size, 8, none⟩ = some (.int .i64 m6) ∧ W.cell? ⟨w.heap.size, 9, none⟩ = some (.bool qs) ∧ W.cell? ⟨w.heap.size, 10, none⟩ = some (.slice qa qn qc) ∧ W.cell? ⟨w.heap.size, 11, none⟩ = some (.slice qb qm qd) ∧ W.cell? ⟨w.heap.size, 12, none⟩ = some (.slice ea en ec)) (by kernel_rfl) (HMX.out _ HO.out.bel) (fun hHeld => ?_)
 generalize w2.drew = wd at HO hHeld ⊢
 refine tm 0 (some 73) ?_
 refine tm 1 (some 74) ?_
 refine tl 2 (some 75) ?_
 refine tm 4 (some 77) ?_
 refine tl 5 (some 78) ?_
 refine wpAnyH_ready (rs := [3]) (by kernel_rfl) (by simp) ?_
 refine (AllReadyH.cons rfl (fun K hK => ?_) AllReadyH.nil)
 go_simp
 refine (f27idn m5 _).mono ?_
 rintro e wd ⟨rfl, hb⟩
 replace HO := Lib.hid (HO.out.call hb)
 clear hb
 go_wp2_with fail
 refine hK.out _ _ (HMX.out _ HO.out.bel) (fun hHeld2 => ?_)
 clear hK K hHeld
 rename _ => hHeld
 try simp only [Act.put, stB, stZ, stS]
 refine wpAnyH_ready (rs := [6]) (by kernel_rfl) (by simp) ?_
 refine (AllReadyH.cons rfl (fun K hK => ?_) AllReadyH.nil)
 go_simp
 refine (f27rat qs qa qb qn qc qm qd _).mono ?_
 rintro e wd ⟨rfl, hb⟩
 replace HO := Lib.hid (HO.out.call hb)
 clear hb
 go_wp2_with fail
 refine hK.out _ _ (HMX.out _ HO.out.bel) (fun hHeld2 => ?_)
 clear hK K hHeld
 rename _ => hHeld
 try simp only [Act.put, stB, stZ, stS]
 refine wpAnyH_ready (rs := [7]) (by kernel_rfl) (by simp) ?_
 refine (AllReadyH.cons rfl (fun K hK => ?_) AllReadyH.nil)
 go_simp
 refine hK.out _ _ (HMX.out _ (bthen HO.out.bel (belowBox _ (.cells #[.int .i64 2, .int .i64 0, .int .i64 0, .int .i64 m5, .string ⟨#[]⟩, .bool false, .slice none 0 0, .slice none 0 0, .int .i64 4, .int .i64 0, .int .i64 0, .int .i64 0, .string ⟨#[]⟩, .bool qs, .slice qa qn qc, .slice qb qm qd] 152)))) (fun hHeld2 => ?_)
 clear hK K hHeld
 rename _ => hHeld
 try simp only [Act.put, stB, stZ, stS]
 refine wpAnyH_ready (rs := [8]) (by kernel_rfl) (by simp) ?_
 refine (AllReadyH.cons rfl (fun K hK => ?_) AllReadyH.nil)
 refine step_append_mid (v := .slice (some ⟨p2, 0, none⟩) 1 1) rfl _ _ 147 147 rfl i0 (.agg #[.int .i64 0, .int .i64 0, .int .i64 0, .int .i64 0, .string ⟨#[]⟩, .bool false, .slice none 0 0, .slice none 0 0]) 104 Tryz.underlying147 hi hz0 hz1 hz2 rfl rfl (HO.out.mid.alloc (.cells #[.int .i64 2, .int .i64 0, .int .i64 0, .int .i64 m5, .string ⟨#[]⟩, .bool false, .slice none 0 0, .slice none 0 0, .int .i64 4, .int .i64 0, .int .i64 0, .int .i64 0, .string ⟨#[]⟩, .bool qs, .slice qa qn qc, .slice qb qm qd] 152)) _ rfl 2 ([VP.idn m5, VP.rat q qs qa qn qc qb qm qd].flatMap VP.cells) ((Sl.lit _ 152 8 2 ([VP.idn m5, VP.rat q qs qa qn qc qb qm qd].flatMap VP.cells) (by unfold maxLen; omega) rfl).src (P := Tryz.prog) Tryz.underlying147 (one_VP [VP.idn m5, VP.rat q qs qa qn qc qb qm qd])) (by unfold maxLen; omega) (by omega) (Nat.le_trans HO.out.bel.size (belowBox _ _).size) ?_
 intro a3 c3 w3 hmo hgo hbo
 have HO6 := Lib.hid (HO.out.push (ys := [VP.idn m5, VP.rat q qs qa qn qc qb qm qd]) hmo hgo)
 replace HO := HO6
 clear HO6 hmo hgo hbo
 refine hK.out _ _ (HMX.out _ HO.out.bel) (fun hHeld2 => ?_)
 clear hK K hHeld
 rename _ => hHeld
 try simp only [Act.put, stB, stZ, stS]
 refine tm 9 (some 3) ?_
 refine wpAnyH_done (by kernel_rfl) ?_ _
 clear hHeld
 go_wp2_with fail
 go_ret
 exact ⟨_, _, rfl, HO.out.psw HOK.out rfl (by rw [HW0.out]; exact belowBox _ _), bthen (belowBox w (.cells #[.int .i64 m0, .int .i64 m1, .int .i64 m2, .string t1, .string t2, .int .i64 7, .int .i64 m4, .int .i64 m5, .int .i64 m6, .bool qs, .slice qa qn qc, .slice qb qm qd, .slice ea en ec] 63)) (by rw [← HW0.out]; exact HO.out.bel)⟩
theorem f27qst_6 (m0 m1 m2 m4 m5 m6 : Int) (t1 t2 : ByteArray) (q : Rat) (qs : Bool) (qa qb ea : Option Addr) (qn qc qm qd en ec : Nat) (w : World)
  (HOK : Hid (∀ W, Below w.heap.size w W → ∀ p, p ∈ (([VP.num (6) 1 12] ++ [VP.idn m4, VP.rat q qs qa qn qc qb qm qd]) : List VP) → p.ok W)) :
  Calls Tryz.prog 128 #[.agg #[.int .i64 m0, .int .i64 m1, .int .i64 m2, .string t1, .string t2, .int .i64 6, .int .i64 m4, .int .i64 m5, .int .i64 m6, .bool qs, .slice qa qn qc, .slice qb qm qd, .slice ea en ec]] w fun e w' => ∃ a c, e = .returned (.slice a (1 + 2) c) ∧ PSW w' a (1 + 2) c ([VP.num (6) 1 12] ++ [VP.idn m4, VP.rat q qs qa qn qc qb qm qd]) ∧ Below w.heap.size w w' := by
 obtain ⟨i0, hi, hz0, hz1, hz2⟩ := info_parts Tryz.infoPart
 obtain ⟨W0, hW0⟩ : ∃ W0, W0 = w.alloc (.cells #[.int .i64 m0, .int .i64 m1, .int .i64 m2, .string t1, .string t2, .int .i64 6, .int .i64 m4, .int .i64 m5, .int .i64 m6, .bool qs, .slice qa qn qc, .slice qb qm qd, .slice ea en ec] 63) := ⟨_, rfl⟩
 have HN := Lib.hid (show BS w [⟨w.heap.size, 63, [.int .i64 m0, .int .i64 m1, .int .i64 m2, .string t1, .string t2, .int .i64 6, .int .i64 m4, .int .i64 m5, .int .i64 m6, .bool qs, .slice qa qn qc, .slice qb qm qd, .slice ea en ec]⟩] [] W0 from by rw [hW0]; exact (BS.start w).alloc (p := w.heap.size) rfl 63 [.int .i64 m0, .int .i64 m1, .int .i64 m2, .string t1, .string t2, .int .i64 6, .int .i64 m4, .int .i64 m5, .int .i64 m6, .bool qs, .slice qa qn qc, .slice qb qm qd, .slice ea en ec] rfl)
 have HW0 := Lib.hid hW0
 have HMX := Lib.hid (fun (W : World) (hb : Below W0.heap.size W0 W) => (⟨(hb.cell (p := ⟨w.heap.size, 0, none⟩) (HN.out.lt 0 rfl)).trans (HN.out.cell 0 0 rfl rfl), (hb.cell (p := ⟨w.heap.size, 1, none⟩) (HN.out.lt 0 rfl)).trans (HN.out.cell 0 1 rfl rfl), (hb.cell (p := ⟨w.heap.size, 2, none⟩) (HN.out.lt 0 rfl)).trans (HN.out.cell 0 2 rfl rfl), (hb.cell (p := ⟨w.heap.size, 3, none⟩) (HN.out.lt 0 rfl)).trans (HN.out.cell 0 3 rfl rfl), (hb.cell (p := ⟨w.heap.size, 4, none⟩) (HN.out.lt 0 rfl)).trans (HN.out.cell 0 4 rfl rfl), (hb.cell (p := ⟨w.heap.size, 5, none⟩) (HN.out.lt 0 rfl)).trans (HN.out.cell 0 5 rfl rfl), (hb.cell (p := ⟨w.heap.size, 6, none⟩) (HN.out.lt 0 rfl)).trans (HN.out.cell 0 6 rfl rfl), (hb.cell (p := ⟨w.heap.size, 7, none⟩) (HN.out.lt 0 rfl)).trans (HN.out.cell 0 7 rfl rfl), (hb.cell (p := ⟨w.heap.size, 8, none⟩) (HN.out.lt 0 rfl)).trans (HN.out.cell 0 8 rfl rfl), (hb.cell (p := ⟨w.heap.size, 9, none⟩) (HN.out.lt 0 rfl)).trans (HN.out.cell 0 9 rfl rfl), (hb.cell (p := ⟨w.heap.size, 10, none⟩) (HN.out.lt 0 rfl)).trans (HN.out.cell 0 10 rfl rfl), (hb.cell (p := ⟨w.heap.size, 11, none⟩) (HN.out.lt 0 rfl)).trans (HN.out.cell 0 11 rfl rfl), (hb.cell (p := ⟨w.heap.size, 12, none⟩) (HN.out.lt 0 rfl)).trans (HN.out.cell 0 12 rfl rfl)⟩ : W.cell? ⟨w.heap.size, 0, none⟩ = some (.int .i64 m0) ∧ W.cell? ⟨w.heap.size, 1, none⟩ = some (.int .i64 m1) ∧ W.cell? ⟨w.heap.size, 2, none⟩ = some (.int .i64 m2) ∧ W.cell? ⟨w.heap.size, 3, none⟩ = some (.string t1) ∧ W.cell? ⟨w.heap.size, 4, none⟩ = some (.string t2) ∧ W.cell? ⟨w.heap.size, 5, none⟩ = some (.int .i64 6) ∧ W.cell? ⟨w.heap.size, 6, none⟩ = some (.int .i64 m4) ∧ W.cell? ⟨w.heap.size, 7, none⟩ = some (.int .i64 m5) ∧ W.cell? ⟨w.heap.size, 8, none⟩ = some (.int .i64 m6) ∧ W.cell? ⟨w.heap.size, 9, none⟩ = some (.bool qs) ∧ W.cell? ⟨w.heap.size, 10, none⟩ = some (.slice qa qn qc) ∧ W.cell? ⟨w.heap.size, 11, none⟩ = some (.slice qb qm qd) ∧ W.cell? ⟨w.heap.size, 12, none⟩ = some (.slice ea en ec)))
 clear hW0
 go_enter Tryz.func128, Tryz.ntmps128
 go_upto_region 1 with fail
 rw [← HW0.out]
 have HO := Lib.hid (PL.nil W0)
 have ⟨k0, k1, k2, k3, k4, k5, k6, k7, k8, k9, k10, k11, k12⟩ := HMX.out _ HO.out.bel
 go_wp2_with fail
 clear k0 k1 k2 k3 k4 k5 k6 k7 k8 k9 k10 k11 k12
 refine (f27num (6) 1 12 _).mono ?_
 rintro e w1 ⟨rfl, hb⟩
 replace HO := Lib.hid (HO.out.call hb)
 clear hb
 replace HO := Lib.hid (show PL W0 (some ⟨w1.heap.size, 0, none⟩) 1 1 [VP.num (6) 1 12] (w1.alloc (.cells #[.int .i64 1, .int .i64 1, .int .i64 12, .int .i64 6, .string ⟨#[]⟩, .bool false, .slice none 0 0, .slice none 0 0] 152)) from HO.out.lit [VP.num (6) 1 12] 1 rfl rfl)
 have ⟨k0, k1, k2, k3, k4, k5, k6, k7, k8, k9, k10, k11, k12⟩ := HMX.out _ HO.out.bel
 go_upto_region 17 with fail
 clear k0 k1 k2 k3 k4 k5 k6 k7 k8 k9 k10 k11 k12
 obtain ⟨p2, hp⟩ : ∃ p2, w1.heap.size = p2 := ⟨_, rfl⟩
 rw [hp] at HO
 (try simp only [hp])
 clear hp
 generalize w1.alloc (.cells #[.int .i64 1, .int .i64 1, .int .i64 12, .int .i64 6, .string ⟨#[]⟩, .bool false, .slice none 0 0, .slice none 0 0] 152) = w2 at HO ⊢
 replace HO := Lib.hid (show PL W0 (some ⟨p2, 0, none⟩) 1 1 [VP.num (6) 1 12] w2.drew from HO.out.call (Below.drawn w2 1))
 refine wp_region_held_drew (S := fun W => W.cell? ⟨w.heap.size, 0, none⟩ = some (.int .i64 m0) ∧ W.cell? ⟨w.heap.size, 1, none⟩ = some (.int .i64 m1) ∧ W.cell? ⟨w.heap.size, 2, none⟩ = some (.int .i64 m2) ∧ W.cell? ⟨w.heap.size, 3, none⟩ = some (.string t1) ∧ W.cell? ⟨w.heap.size, 4, none⟩ = some (.string t2) ∧ W.cell? ⟨w.heap.size, 5, none⟩ = some (.int .i64 6) ∧ W.cell? ⟨w.heap.size, 6, none⟩ = some (.int .i64 m4) ∧ W.cell? ⟨w.heap.size, 7, none⟩ = some (.int .i64 m5) ∧ W.cell? ⟨w.heap.size, 8, none⟩ = some (.int .i64 m6) ∧ W.cell? ⟨w.heap.size, 9, none⟩ = some (.bool qs) ∧ W.cell? ⟨w.heap.size, 10, none⟩ = some (.slice qa qn qc) ∧ W.cell? ⟨w.heap.size, 11, none⟩ = some (.slice qb qm qd) ∧ W.cell? ⟨w.heap.size, 12, none⟩ = some (.slice ea en ec)) (by kernel_rfl) (HMX.out _ HO.out.bel) (fun hHeld => ?_)
 generalize w2.drew = wd at HO hHeld ⊢
 refine tm 0 (some 84) ?_
 refine tm 1 (some 85) ?_
 refine tl 2 (some 86) ?_
 refine tm 4 (some 88) ?_
 refine tl 5 (some 89) ?_
 refine wpAnyH_ready (rs := [3]) (by kernel_rfl) (by simp) ?_
 refine (AllReadyH.cons rfl (fun K hK => ?_) AllReadyH.nil)
 go_simp
 refine (f27idn m4 _).mono ?_
 rintro e wd ⟨rfl, hb⟩
 replace HO := Lib.hid (HO.out.call hb)
 clear hb
 go_wp2_with fail
 refine hK.out _ _ (HMX.out _ HO.out.bel) (fun hHeld2 => ?_)
 clear hK K hHeld
 rename _ => hHeld
 try simp only [Act.put, stB, stZ, stS]
 refine wpAnyH_ready (rs := [6]) (by kernel_rfl) (by simp) ?_
 refine (AllReadyH.cons rfl (fun K hK => ?_) AllReadyH.nil)
 go_simp
 refine (f27rat qs qa qb qn qc qm qd _).mono ?_
 rintro e wd ⟨rfl, hb⟩
 replace HO := Lib.hid (HO.out.call hb)
 clear hb
 go_wp2_with fail
 refine hK.out _ _ (HMX.out _ HO.out.bel) (fun hHeld2 => ?_)
 clear hK K hHeld
 rename _ => hHeld
 try simp only [Act.put, stB, stZ, stS]
 refine wpAnyH_ready (rs := [7]) (by kernel_rfl) (by simp) ?_
 refine (AllReadyH.cons rfl (fun K hK => ?_) AllReadyH.nil)
 go_simp
 refine hK.out _ _ (HMX.out _ (bthen HO.out.bel (belowBox _ (.cells #[.int .i64 2, .int .i64 0, .int .i64 0, .int .i64 m4, .string ⟨#[]⟩, .bool false, .slice none 0 0, .slice none 0 0, .int .i64 4, .int .i64 0, .int .i64 0, .int .i64 0, .string ⟨#[]⟩, .bool qs, .slice qa qn qc, .slice qb qm qd] 152)))) (fun hHeld2 => ?_)
 clear hK K hHeld
 rename _ => hHeld
 try simp only [Act.put, stB, stZ, stS]
 refine wpAnyH_ready (rs := [8]) (by kernel_rfl) (by simp) ?_
 refine (AllReadyH.cons rfl (fun K hK => ?_) AllReadyH.nil)
 refine step_append_mid (v := .slice (some ⟨p2, 0, none⟩) 1 1) rfl _ _ 147 147 rfl i0 (.agg #[.int .i64 0, .int .i64 0, .int .i64 0, .int .i64 0, .string ⟨#[]⟩, .bool false, .slice none 0 0, .slice none 0 0]) 104 Tryz.underlying147 hi hz0 hz1 hz2 rfl rfl (HO.out.mid.alloc (.cells #[.int .i64 2, .int .i64 0, .int .i64 0, .int .i64 m4, .string ⟨#[]⟩, .bool false, .slice none 0 0, .slice none 0 0, .int .i64 4, .int .i64 0, .int .i64 0, .int .i64 0, .string ⟨#[]⟩, .bool qs, .slice qa qn qc, .slice qb qm qd] 152)) _ rfl 2 ([VP.idn m4, VP.rat q qs qa qn qc qb qm qd].flatMap VP.cells) ((Sl.lit _ 152 8 2 ([VP.idn m4, VP.rat q qs qa qn qc qb qm qd].flatMap VP.cells) (by unfold maxLen; omega) rfl).src (P := Tryz.prog) Tryz.underlying147 (one_VP [VP.idn m4, VP.rat q qs qa qn qc qb qm qd])) (by unfold maxLen; omega) (by omega) (Nat.le_trans HO.out.bel.size (belowBox _ _).size) ?_
 intro a3 c3 w3 hmo hgo hbo
 have HO6 := Lib.hid (HO.out.push (ys := [VP.idn m4, VP.rat q qs qa qn qc qb qm qd]) hmo hgo)
 replace HO := HO6
 clear HO6 hmo hgo hbo
 refine hK.out _ _ (HMX.out _ HO.out.bel) (fun hHeld2 => ?_)
 clear hK K hHeld
 rename _ => hHeld
 try simp only [Act.put, stB, stZ, stS]
 refine tm 9 (some 3) ?_
 refine wpAnyH_done (by kernel_rfl) ?_ _
 clear hHeld
 go_wp2_with fail
 go_ret
 exact ⟨_, _, rfl, HO.out.psw HOK.out rfl (by rw [HW0.out]; exact belowBox _ _), bthen (belowBox w (.cells #[.int .i64 m0, .int .i64 m1, .int .i64 m2, .string t1, .string t2, .int .i64 6, .int .i64 m4, .int .i64 m5, .int .i64 m6, .bool qs, .slice qa qn qc, .slice qb qm qd, .slice ea en ec] 63)) (by rw [← HW0.out]; exact HO.out.bel)⟩
theorem f27qst_8 (m0 m1 m2 m4 m5 m6 : Int) (t1 t2 : ByteArray) (q : Rat) (qs : Bool) (qa qb ea : Option Addr) (qn qc qm qd en ec : Nat) (w : World)
  (HOK : Hid (∀ W, Below w.heap.size w W → ∀ p, p ∈ (([VP.num (8) 1 12] ++ [VP.num (m6) 0 3, VP.idn m4]) : List VP) → p.ok W)) :
  Calls Tryz.prog 128 #[.agg #[.int .i64 m0, .int .i64 m1, .int .i64 m2, .string t1, .string t2, .int .i64 8, .int .i64 m4, .int .i64 m5, .int .i64 m6, .bool qs, .slice qa qn qc, .slice qb qm qd, .slice ea en ec]] w fun e w' => ∃ a c, e = .returned (.slice a (1 + 2) c) ∧ PSW w' a (1 + 2) c ([VP.num (8) 1 12] ++ [VP.num (m6) 0 3, VP.idn m4]) ∧ Below w.heap.size w w' := by
 obtain ⟨i0, hi, hz0, hz1, hz2⟩ := info_parts Tryz.infoPart
 obtain ⟨W0, hW0⟩ : ∃ W0, W0 = w.alloc (.cells #[.int .i64 m0, .int .i64 m1, .int .i64 m2, .string t1, .string t2, .int .i64 8, .int .i64 m4, .int .i64 m5, .int .i64 m6, .bool qs, .slice qa qn qc, .slice qb qm qd, .slice ea en ec] 63) := ⟨_, rfl⟩
 have HN := Lib.hid (show BS w [⟨w.heap.size, 63, [.int .i64 m0, .int .i64 m1, .int .i64 m2, .string t1, .string t2, .int .i64 8, .int .i64 m4, .int .i64 m5, .int .i64 m6, .bool qs, .slice qa qn qc, .slice qb qm qd, .slice ea en ec]⟩] [] W0 from by rw [hW0]; exact (BS.start w).alloc (p := w.heap.size) rfl 63 [.int .i64 m0, .int .i64 m1, .int .i64 m2, .string t1, .string t2, .int .i64 8, .int .i64 m4, .int .i64 m5, .int .i64 m6, .bool qs, .slice qa qn qc, .slice qb qm qd, .slice ea en ec] rfl)
 have HW0 := Lib.hid hW0
 have HMX := Lib.hid (fun (W : World) (hb : Below W0.heap.size W0 W) => (⟨(hb.cell (p := ⟨w.heap.size, 0, none⟩) (HN.out.lt 0 rfl)).trans (HN.out.cell 0 0 rfl rfl), (hb.cell (p := ⟨w.heap.size, 1, none⟩) (HN.out.lt 0 rfl)).trans (HN.out.cell 0 1 rfl rfl), (hb.cell (p := ⟨w.heap.size, 2, none⟩) (HN.out.lt 0 rfl)).trans (HN.out.cell 0 2 rfl rfl), (hb.cell (p := ⟨w.heap.size, 3, none⟩) (HN.out.lt 0 rfl)).trans (HN.out.cell 0 3 rfl rfl), (hb.cell (p := ⟨w.heap.size, 4, none⟩) (HN.out.lt 0 rfl)).trans (HN.out.cell 0 4 rfl rfl), (hb.cell (p := ⟨w.heap.size, 5, none⟩) (HN.out.lt 0 rfl)).trans (HN.out.cell 0 5 rfl rfl), (hb.cell (p := ⟨w.heap.size, 6, none⟩) (HN.out.lt 0 rfl)).trans (HN.out.cell 0 6 rfl rfl), (hb.cell (p := ⟨w.heap.size, 7, none⟩) (HN.out.lt 0 rfl)).trans (HN.out.cell 0 7 rfl rfl), (hb.cell (p := ⟨w.heap.size, 8, none⟩) (HN.out.lt 0 rfl)).trans (HN.out.cell 0 8 rfl rfl), (hb.cell (p := ⟨w.heap.size, 9, none⟩) (HN.out.lt 0 rfl)).trans (HN.out.cell 0 9 rfl rfl), (hb.cell (p := ⟨w.heap.size, 10, none⟩) (HN.out.lt 0 rfl)).trans (HN.out.cell 0 10 rfl rfl), (hb.cell (p := ⟨w.heap.size, 11, none⟩) (HN.out.lt 0 rfl)).trans (HN.out.cell 0 11 rfl rfl), (hb.cell (p := ⟨w.heap.size, 12, none⟩) (HN.out.lt 0 rfl)).trans (HN.out.cell 0 12 rfl rfl)⟩ : W.cell? ⟨w.heap.size, 0, none⟩ = some (.int .i64 m0) ∧ W.cell? ⟨w.heap.size, 1, none⟩ = some (.int .i64 m1) ∧ W.cell? ⟨w.heap.size, 2, none⟩ = some (.int .i64 m2) ∧ W.cell? ⟨w.heap.size, 3, none⟩ = some (.string t1) ∧ W.cell? ⟨w.heap.size, 4, none⟩ = some (.string t2) ∧ W.cell? ⟨w.heap.size, 5, none⟩ = some (.int .i64 8) ∧ W.cell? ⟨w.heap.size, 6, none⟩ = some (.int .i64 m4) ∧ W.cell? ⟨w.heap.size, 7, none⟩ = some (.int .i64 m5) ∧ W.cell? ⟨w.heap.size, 8, none⟩ = some (.int .i64 m6) ∧ W.cell? ⟨w.heap.size, 9, none⟩ = some (.bool qs) ∧ W.cell? ⟨w.heap.size, 10, none⟩ = some (.slice qa qn qc) ∧ W.cell? ⟨w.heap.size, 11, none⟩ = some (.slice qb qm qd) ∧ W.cell? ⟨w.heap.size, 12, none⟩ = some (.slice ea en ec)))
 clear hW0
 go_enter Tryz.func128, Tryz.ntmps128
 go_upto_region 1 with fail
 rw [← HW0.out]
 have HO := Lib.hid (PL.nil W0)
 have ⟨k0, k1, k2, k3, k4, k5, k6, k7, k8, k9, k10, k11, k12⟩ := HMX.out _ HO.out.bel
 go_wp2_with fail
 clear k0 k1 k2 k3 k4 k5 k6 k7 k8 k9 k10 k11 k12
 refine (f27num (8) 1 12 _).mono ?_
 rintro e w1 ⟨rfl, hb⟩
 replace HO := Lib.hid (HO.out.call hb)
 clear hb
 replace HO := Lib.hid (show PL W0 (some ⟨w1.heap.size, 0, none⟩) 1 1 [VP.num (8) 1 12] (w1.alloc (.cells #[.int .i64 1, .int .i64 1, .int .i64 12, .int .i64 8, .string ⟨#[]⟩, .bool false, .slice none 0 0, .slice none 0 0] 152)) from HO.out.lit [VP.num (8) 1 12] 1 rfl rfl)
 have ⟨k0, k1, k2, k3, k4, k5, k6, k7, k8, k9, k10, k11, k12⟩ := HMX.out _ HO.out.bel
 go_upto_region 19 with fail
 clear k0 k1 k2 k3 k4 k5 k6 k7 k8 k9 k10 k11 k12
 obtain ⟨p2, hp⟩ : ∃ p2, w1.heap.size = p2 := ⟨_, rfl⟩
 rw [hp] at HO
 (try simp only [hp])
 clear hp
 generalize w1.alloc (.cells #[.int .i64 1, .int .i64 1, .int .i64 12, .int .i64 8, .string ⟨#[]⟩, .bool false, .slice none 0 0, .slice none 0 0] 152) = w2 at HO ⊢
 replace HO := Lib.hid (show PL W0 (some ⟨p2, 0, none⟩) 1 1 [VP.num (8) 1 12] w2.drew from HO.out.call (Below.drawn w2 1))
 refine wp_region_held_drew (S := fun W => W.cell? ⟨w.heap.size, 0, none⟩ = some (.int .i64 m0) ∧ W.cell? ⟨w.heap.size, 1, none⟩ = some (.int .i64 m1) ∧ W.cell? ⟨w.heap.size, 2, none⟩ = some (.int .i64 m2) ∧ W.cell? ⟨w.heap.size, 3, none⟩ = some (.string t1) ∧ W.cell? ⟨w.heap.size, 4, none⟩ = some (.string t2) ∧ W.cell? ⟨w.heap.size, 5, none⟩ = some (.int .i64 8) ∧ W.cell? ⟨w.heap.size, 6, none⟩ = some (.int .i64 m4) ∧ W.cell? ⟨w.heap.size, 7, none⟩ = some (.int .i64 m5) ∧ W.cell? ⟨w.heap.size, 8, none⟩ = some (.int .i64 m6) ∧ W.cell? ⟨w.heap.size, 9, none⟩ = some (.bool qs) ∧ W.cell? ⟨w.heap.size, 10, none⟩ = some (.slice qa qn qc) ∧ W.cell? ⟨w.heap.size, 11, none⟩ = some (.slice qb qm qd) ∧ W.cell? ⟨w.heap.size, 12, none⟩ = some (.slice ea en ec)) (by kernel_rfl) (HMX.out _ HO.out.bel) (fun hHeld => ?_)
 generalize w2.drew = wd at HO hHeld ⊢
 refine tm 0 (some 95) ?_
 refine tm 1 (some 96) ?_
 refine tl 2 (some 97) ?_
 refine tm 4 (some 99) ?_
 refine tl 5 (some 100) ?_
 refine wpAnyH_ready (rs := [3]) (by kernel_rfl) (by simp) ?_
 refine (AllReadyH.cons rfl (fun K hK => ?_) AllReadyH.nil)
 go_simp
 refine (f27num (m6) 0 3 _).mono ?_
 rintro e wd ⟨rfl, hb⟩
 replace HO := Lib.hid (HO.out.call hb)
 clear hb
 go_wp2_with fail
 refine hK.out _ _ (HMX.out _ HO.out.bel) (fun hHeld2 => ?_)
 clear hK K hHeld
 rename _ => hHeld
 try simp only [Act.put, stB, stZ, stS]
 refine wpAnyH_ready (rs := [6]) (by kernel_rfl) (by simp) ?_
 refine (AllReadyH.cons rfl (fun K hK => ?_) AllReadyH.nil)
 go_simp
 refine (f27idn m4 _).mono ?_
 rintro e wd ⟨rfl, hb⟩
 replace HO := Lib.hid (HO.out.call hb)
 clear hb
 go_wp2_with fail
 refine hK.out _ _ (HMX.out _ HO.out.bel) (fun hHeld2 => ?_)
 clear hK K hHeld
 rename _ => hHeld
 try simp only [Act.put, stB, stZ, stS]
 refine wpAnyH_ready (rs := [7]) (by kernel_rfl) (by simp) ?_
 refine (AllReadyH.cons rfl (fun K hK => ?_) AllReadyH.nil)
 go_simp
 refine hK.out _ _ (HMX.out _ (bthen HO.out.bel (belowBox _ (.cells #[.int .i64 1, .int .i64 0, .int .i64 3, .int .i64 m6, .string ⟨#[]⟩, .bool false, .slice none 0 0, .slice none 0 0, .int .i64 2, .int .i64 0, .int .i64 0, .int .i64 m4, .string ⟨#[]⟩, .bool false, .slice none 0 0, .slice none 0 0] 152)))) (fun hHeld2 => ?_)
 clear hK K hHeld
 rename _ => hHeld
 try simp only [Act.put, stB, stZ, stS]
 refine wpAnyH_ready (rs := [8]) (by kernel_rfl) (by simp) ?_
 refine (AllReadyH.cons rfl (fun K hK => ?_) AllReadyH.nil)
 refine step_append_mid (v := .slice (some ⟨p2, 0, none⟩) 1 1) rfl _ _ 147 147 rfl i0 (.agg #[.int .i64 0, .int .i64 0, .int .i64 0, .int .i64 0, .string ⟨#[]⟩, .bool false, .slice none 0 0, .slice none 0 0]) 104 Tryz.underlying147 hi hz0 hz1 hz2 rfl rfl (HO.out.mid.alloc (.cells #[.int .i64 1, .int .i64 0, .int .i64 3, .int .i64 m6, .string ⟨#[]⟩, .bool false, .slice none 0 0, .slice none 0 0, .int .i64 2, .int .i64 0, .int .i64 0, .int .i64 m4, .string ⟨#[]⟩, .bool false, .slice none 0 0, .slice none 0 0] 152)) _ rfl 2 ([VP.num (m6) 0 3, VP.idn m4].flatMap VP.cells) ((Sl.lit _ 152 8 2 ([VP.num (m6) 0 3, VP.idn m4].flatMap VP.cells) (by unfold maxLen; omega) rfl).src (P := Tryz.prog) Tryz.underlying147 (one_VP [VP.num (m6) 0 3, VP.idn m4])) (by unfold maxLen; omega) (by omega) (Nat.le_trans HO.out.bel.size (belowBox _ _).size) ?_
 intro a3 c3 w3 hmo hgo hbo
 have HO6 := Lib.hid (HO.out.push (ys := [VP.num (m6) 0 3, VP.idn m4]) hmo hgo)
 replace HO := HO6
 clear HO6 hmo hgo hbo
 refine hK.out _ _ (HMX.out _ HO.out.bel) (fun hHeld2 => ?_)
 clear hK K hHeld
 rename _ => hHeld
 try simp only [Act.put, stB, stZ, stS]
 refine tm 9 (some 3) ?_
 refine wpAnyH_done (by kernel_rfl) ?_ _
 clear hHeld
 go_wp2_with fail
 go_ret
 exact ⟨_, _, rfl, HO.out.psw HOK.out rfl (by rw [HW0.out]; exact belowBox _ _), bthen (belowBox w (.cells #[.int .i64 m0, .int .i64 m1, .int .i64 m2, .string t1, .string t2, .int .i64 8, .int .i64 m4, .int .i64 m5, .int .i64 m6, .bool qs, .slice qa qn qc, .slice qb qm qd, .slice ea en ec] 63)) (by rw [← HW0.out]; exact HO.out.bel)⟩
theorem f27qst_3 (m0 m1 m2 m4 m5 m6 : Int) (t1 t2 : ByteArray) (q : Rat) (qs : Bool) (qa qb ea : Option Addr) (qn qc qm qd en ec : Nat) (w : World)
  (HOK : Hid (∀ W, Below w.heap.size w W → ∀ p, p ∈ (([VP.num (3) 1 12] ++ [VP.idn m4]) : List VP) → p.ok W)) :
  Calls Tryz.prog 128 #[.agg #[.int .i64 m0, .int .i64 m1, .int .i64 m2, .string t1, .string t2, .int .i64 3, .int .i64 m4, .int .i64 m5, .int .i64 m6, .bool qs, .slice qa qn qc, .slice qb qm qd, .slice ea en ec]] w fun e w' => ∃ a c, e = .returned (.slice a (1 + 1) c) ∧ PSW w' a (1 + 1) c ([VP.num (3) 1 12] ++ [VP.idn m4]) ∧ Below w.heap.size w w' := by
 obtain ⟨i0, hi, hz0, hz1, hz2⟩ := info_parts Tryz.infoPart
 obtain ⟨W0, hW0⟩ : ∃ W0, W0 = w.alloc (.cells #[.int .i64 m0, .int .i64 m1, .int .i64 m2, .string t1, .string t2, .int .i64 3, .int .i64 m4, .int .i64 m5, .int .i64 m6, .bool qs, .slice qa qn qc, .slice qb qm qd, .slice ea en ec] 63) := ⟨_, rfl⟩
 have HN := Lib.hid (show BS w [⟨w.heap.size, 63, [.int .i64 m0, .int .i64 m1, .int .i64 m2, .string t1, .string t2, .int .i64 3, .int .i64 m4, .int .i64 m5, .int .i64 m6, .bool qs, .slice qa qn qc, .slice qb qm qd, .slice ea en ec]⟩] [] W0 from by rw [hW0]; exact (BS.start w).alloc (p := w.heap.size) rfl 63 [.int .i64 m0, .int .i64 m1, .int .i64 m2, .string t1, .string t2, .int .i64 3, .int .i64 m4, .int .i64 m5, .int .i64 m6, .bool qs, .slice qa qn qc, .slice qb qm qd, .slice ea en ec] rfl)
 have HW0 := Lib.hid hW0
 have HMX := Lib.hid (fun (W : World) (hb : Below W0.heap.size W0 W) => (⟨(hb.cell (p := ⟨w.heap.size, 0, none⟩) (HN.out.lt 0 rfl)).trans (HN.out.cell 0 0 rfl rfl), (hb.cell (p := ⟨w.heap.size, 1, none⟩) (HN.out.lt 0 rfl)).trans (HN.out.cell 0 1 rfl rfl), (hb.cell (p := ⟨w.heap.size, 2, none⟩) (HN.out.lt 0 rfl)).trans (HN.out.cell 0 2 rfl rfl), (hb.cell (p := ⟨w.heap.size, 3, none⟩) (HN.out.lt 0 rfl)).trans (HN.out.cell 0 3 rfl rfl), (hb.cell (p := ⟨w.heap.size, 4, none⟩) (HN.out.lt 0 rfl)).trans (HN.out.cell 0 4 rfl rfl), (hb.cell (p := ⟨w.heap.size, 5, none⟩) (HN.out.lt 0 rfl)).trans (HN.out.cell 0 5 rfl rfl), (hb.cell (p := ⟨w.heap.size, 6, none⟩) (HN.out.lt 0 rfl)).trans (HN.out.cell 0 6 rfl rfl), (hb.cell (p := ⟨w.heap.size, 7, none⟩) (HN.out.lt 0 rfl)).trans (HN.out.cell 0 7 rfl rfl), (hb.cell (p := ⟨w.heap.size, 8, none⟩) (HN.out.lt 0 rfl)).trans (HN.out.cell 0 8 rfl rfl), (hb.cell (p := ⟨w.heap.size, 9, none⟩) (HN.out.lt 0 rfl)).trans (HN.out.cell 0 9 rfl rfl), (hb.cell (p := ⟨w.heap.size, 10, none⟩) (HN.out.lt 0 rfl)).trans (HN.out.cell 0 10 rfl rfl), (hb.cell (p := ⟨w.heap.size, 11, none⟩) (HN.out.lt 0 rfl)).trans (HN.out.cell 0 11 rfl rfl), (hb.cell (p := ⟨w.heap.size, 12, none⟩) (HN.out.lt 0 rfl)).trans (HN.out.cell 0 12 rfl rfl)⟩ : W.cell? ⟨w.heap.size, 0, none⟩ = some (.int .i64 m0) ∧ W.cell? ⟨w.heap.size, 1, none⟩ = some (.int .i64 m1) ∧ W.cell? ⟨w.heap.size, 2, none⟩ = some (.int .i64 m2) ∧ W.cell? ⟨w.heap.size, 3, none⟩ = some (.string t1) ∧ W.cell? ⟨w.heap.size, 4, none⟩ = some (.string t2) ∧ W.cell? ⟨w.heap.size, 5, none⟩ = some (.int .i64 3) ∧ W.cell? ⟨w.heap.size, 6, none⟩ = some (.int .i64 m4) ∧ W.cell? ⟨w.heap.size, 7, none⟩ = some (.int .i64 m5) ∧ W.cell? ⟨w.heap.size, 8, none⟩ = some (.int .i64 m6) ∧ W.cell? ⟨w.heap.size, 9, none⟩ = some (.bool qs) ∧ W.cell? ⟨w.heap.size, 10, none⟩ = some (.slice qa qn qc) ∧ W.cell? ⟨w.heap.size, 11, none⟩ = some (.slice qb qm qd) ∧ W.cell? ⟨w.heap.size, 12, none⟩ = some (.slice ea en ec)))
 clear hW0
 go_enter Tryz.func128, Tryz.ntmps128
 go_upto_region 1 with fail
 rw [← HW0.out]
 have HO := Lib.hid (PL.nil W0)
 have ⟨k0, k1, k2, k3, k4, k5, k6, k7, k8, k9, k10, k11, k12⟩ := HMX.out _ HO.out.bel
 go_wp2_with fail
 clear k0 k1 k2 k3 k4 k5 k6 k7 k8 k9 k10 k11 k12
 refine (f27num (3) 1 12 _).mono ?_
 rintro e w1 ⟨rfl, hb⟩
 replace HO := Lib.hid (HO.out.call hb)
 clear hb
 replace HO := Lib.hid (show PL W0 (some ⟨w1.heap.size, 0, none⟩) 1 1 [VP.num (3) 1 12] (w1.alloc (.cells #[.int .i64 1, .int .i64 1, .int .i64 12, .int .i64 3, .string ⟨#[]⟩, .bool false, .slice none 0 0, .slice none 0 0] 152)) from HO.out.lit [VP.num (3) 1 12] 1 rfl rfl)
 have ⟨k0, k1, k2, k3, k4, k5, k6, k7, k8, k9, k10, k11, k12⟩ := HMX.out _ HO.out.bel
 go_wp2_with fail
 clear k0 k1 k2 k3 k4 k5 k6 k7 k8 k9 k10 k11 k12
 obtain ⟨p2, hp⟩ : ∃ p2, w1.heap.size = p2 := ⟨_, rfl⟩
 rw [hp] at HO
 (try simp only [hp])
 clear hp
 generalize w1.alloc (.cells #[.int .i64 1, .int .i64 1, .int .i64 12, .int .i64 3, .string ⟨#[]⟩, .bool false, .slice none 0 0, .slice none 0 0] 152) = w2 at HO ⊢
 refine (f27idn m4 _).mono ?_
 rintro e w3 ⟨rfl, hb⟩
 replace HO := Lib.hid (HO.out.call hb)
 clear hb
 have HS3 := Lib.hid (show Src Tryz.prog 8 147 (.slice (some ⟨w3.heap.size, 0, none⟩) 1 1) 1 ([VP.idn m4].flatMap VP.cells) (w3.alloc (.cells #[.int .i64 2, .int .i64 0, .int .i64 0, .int .i64 m4, .string ⟨#[]⟩, .bool false, .slice none 0 0, .slice none 0 0] 152)) from (Sl.lit w3 152 8 1 ([VP.idn m4].flatMap VP.cells) (by unfold maxLen; omega) rfl).src (P := Tryz.prog) Tryz.underlying147 (one_VP [VP.idn m4]))
 have HM3 := Lib.hid (HO.out.mid.alloc (.cells #[.int .i64 2, .int .i64 0, .int .i64 0, .int .i64 m4, .string ⟨#[]⟩, .bool false, .slice none 0 0, .slice none 0 0] 152))
 have HW3 := Lib.hid (Nat.le_trans HO.out.bel.size (belowBox w3 (.cells #[.int .i64 2, .int .i64 0, .int .i64 0, .int .i64 m4, .string ⟨#[]⟩, .bool false, .slice none 0 0, .slice none 0 0] 152)).size)
 go_wp2_with (at_builtin; refine wpList_append_mid (v := .slice (some ⟨p2, 0, none⟩) 1 1) rfl _ _ 147 147 rfl i0 (.agg #[.int .i64 0, .int .i64 0, .int .i64 0, .int .i64 0, .string ⟨#[]⟩, .bool false, .slice none 0 0, .slice none 0 0]) 104 Tryz.underlying147 hi hz0 hz1 hz2 rfl rfl HM3.out _ rfl 1 _ HS3.out (by unfold maxLen; omega) (by omega) HW3.out ?_; intro a4 c4 w4 hmo hgo hbo; have HP := Lib.hid (HO.out.push (ys := [VP.idn m4]) hmo hgo); clear hmo hgo hbo HM3 HW3 HS3 HO; have ⟨k0, k1, k2, k3, k4, k5, k6, k7, k8, k9, k10, k11, k12⟩ := HMX.out _ HP.out.bel; go_wp2_with fail)
 have HO := HP
 clear HP k0 k1 k2 k3 k4 k5 k6 k7 k8 k9 k10 k11 k12
 go_ret
 exact ⟨_, _, rfl, HO.out.psw HOK.out rfl (by rw [HW0.out]; exact belowBox _ _), bthen (belowBox w (.cells #[.int .i64 m0, .int .i64 m1, .int .i64 m2, .string t1, .string t2, .int .i64 3, .int .i64 m4, .int .i64 m5, .int .i64 m6, .bool qs, .slice qa qn qc, .slice qb qm qd, .slice ea en ec] 63)) (by rw [← HW0.out]; exact HO.out.bel)⟩
theorem f27qst_11 (m0 m1 m2 m4 m5 m6 : Int) (t1 t2 : ByteArray) (q : Rat) (qs : Bool) (qa qb ea : Option Addr) (qn qc qm qd en ec : Nat) (w : World)
  (HOK : Hid (∀ W, Below w.heap.size w W → ∀ p, p ∈ (([VP.num (11) 1 12] ++ [VP.idn m4]) : List VP) → p.ok W)) :
  Calls Tryz.prog 128 #[.agg #[.int .i64 m0, .int .i64 m1, .int .i64 m2, .string t1, .string t2, .int .i64 11, .int .i64 m4, .int .i64 m5, .int .i64 m6, .bool qs, .slice qa qn qc, .slice qb qm qd, .slice ea en ec]] w fun e w' => ∃ a c, e = .returned (.slice a (1 + 1) c) ∧ PSW w' a (1 + 1) c ([VP.num (11) 1 12] ++ [VP.idn m4]) ∧ Below w.heap.size w w' := by
 obtain ⟨i0, hi, hz0, hz1, hz2⟩ := info_parts Tryz.infoPart
 obtain ⟨W0, hW0⟩ : ∃ W0, W0 = w.alloc (.cells #[.int .i64 m0, .int .i64 m1, .int .i64 m2, .string t1, .string t2, .int .i64 11, .int .i64 m4, .int .i64 m5, .int .i64 m6, .bool qs, .slice qa qn qc, .slice qb qm qd, .slice ea en ec] 63) := ⟨_, rfl⟩
 have HN := Lib.hid (show BS w [⟨w.heap.size, 63, [.int .i64 m0, .int .i64 m1, .int .i64 m2, .string t1, .string t2, .int .i64 11, .int .i64 m4, .int .i64 m5, .int .i64 m6, .bool qs, .slice qa qn qc, .slice qb qm qd, .slice ea en ec]⟩] [] W0 from by rw [hW0]; exact (BS.start w).alloc (p := w.heap.size) rfl 63 [.int .i64 m0, .int .i64 m1, .int .i64 m2, .string t1, .string t2, .int .i64 11, .int .i64 m4, .int .i64 m5, .int .i64 m6, .bool qs, .slice qa qn qc, .slice qb qm qd, .slice ea en ec] rfl)
 have HW0 := Lib.hid hW0
 have HMX := Lib.hid (fun (W : World) (hb : Below W0.heap.size W0 W) => (⟨(hb.cell (p := ⟨w.heap.size, 0, none⟩) (HN.out.lt 0 rfl)).trans (HN.out.cell 0 0 rfl rfl), (hb.cell (p := ⟨w.heap.size, 1, none⟩) (HN.out.lt 0 rfl)).trans (HN.out.cell 0 1 rfl rfl), (hb.cell (p := ⟨w.heap.size, 2, none⟩) (HN.out.lt 0 rfl)).trans (HN.out.cell 0 2 rfl rfl), (hb.cell (p := ⟨w.heap.size, 3, none⟩) (HN.out.lt 0 rfl)).trans (HN.out.cell 0 3 rfl rfl), (hb.cell (p := ⟨w.heap.size, 4, none⟩) (HN.out.lt 0 rfl)).trans (HN.out.cell 0 4 rfl rfl), (hb.cell (p := ⟨w.heap.size, 5, none⟩) (HN.out.lt 0 rfl)).trans (HN.out.cell 0 5 rfl rfl), (hb.cell (p := ⟨w.heap.size, 6, none⟩) (HN.out.lt 0 rfl)).trans (HN.out.cell 0 6 rfl rfl), (hb.cell (p := ⟨w.heap.size, 7, none⟩) (HN.out.lt 0 rfl)).trans (HN.out.cell 0 7 rfl rfl), (hb.cell (p := ⟨w.heap.size, 8, none⟩) (HN.out.lt 0 rfl)).trans (HN.out.cell 0 8 rfl rfl), (hb.cell (p := ⟨w.heap.size, 9, none⟩) (HN.out.lt 0 rfl)).trans (HN.out.cell 0 9 rfl rfl), (hb.cell (p := ⟨w.heap.size, 10, none⟩) (HN.out.lt 0 rfl)).trans (HN.out.cell 0 10 rfl rfl), (hb.cell (p := ⟨w.heap.size, 11, none⟩) (HN.out.lt 0 rfl)).trans (HN.out.cell 0 11 rfl rfl), (hb.cell (p := ⟨w.heap.size, 12, none⟩) (HN.out.lt 0 rfl)).trans (HN.out.cell 0 12 rfl rfl)⟩ : W.cell? ⟨w.heap.size, 0, none⟩ = some (.int .i64 m0) ∧ W.cell? ⟨w.heap.size, 1, none⟩ = some (.int .i64 m1) ∧ W.cell? ⟨w.heap.size, 2, none⟩ = some (.int .i64 m2) ∧ W.cell? ⟨w.heap.size, 3, none⟩ = some (.string t1) ∧ W.cell? ⟨w.heap.size, 4, none⟩ = some (.string t2) ∧ W.cell? ⟨w.heap.size, 5, none⟩ = some (.int .i64 11) ∧ W.cell? ⟨w.heap.size, 6, none⟩ = some (.int .i64 m4) ∧ W.cell? ⟨w.heap.size, 7, none⟩ = some (.int .i64 m5) ∧ W.cell? ⟨w.heap.size, 8, none⟩ = some (.int .i64 m6) ∧ W.cell? ⟨w.heap.size, 9, none⟩ = some (.bool qs) ∧ W.cell? ⟨w.heap.size, 10, none⟩ = some (.slice qa qn qc) ∧ W.cell? ⟨w.heap.size, 11, none⟩ = some (.slice qb qm qd) ∧ W.cell? ⟨w.heap.size, 12, none⟩ = some (.slice ea en ec)))
 clear hW0
 go_enter Tryz.func128, Tryz.ntmps128
 go_upto_region 1 with fail
 rw [← HW0.out]
 have HO := Lib.hid (PL.nil W0)
 have ⟨k0, k1, k2, k3, k4, k5, k6, k7, k8, k9, k10, k11, k12⟩ := HMX.out _ HO.out.bel
 go_wp2_with fail
 clear k0 k1 k2 k3 k4 k5 k6 k7 k8 k9 k10 k11 k12
 refine (f27num (11) 1 12 _).mono ?_
 rintro e w1 ⟨rfl, hb⟩
 replace HO := Lib.hid (HO.out.call hb)
 clear hb
 replace HO := Lib.hid (show PL W0 (some ⟨w1.heap.size, 0, none⟩) 1 1 [VP.num (11) 1 12] (w1.alloc (.cells #[.int .i64 1, .int .i64 1, .int .i64 12, .int .i64 11, .string ⟨#[]⟩, .bool false, .slice none 0 0, .slice none 0 0] 152)) from HO.out.lit [VP.num (11) 1 12] 1 rfl rfl)
 have ⟨k0, k1, k2, k3, k4, k5, k6, k7, k8, k9, k10, k11, k12⟩ := HMX.out _ HO.out.bel
 go_wp2_with fail
 clear k0 k1 k2 k3 k4 k5 k6 k7 k8 k9 k10 k11 k12
 obtain ⟨p2, hp⟩ : ∃ p2, w1.heap.size = p2 := ⟨_, rfl⟩
 rw [hp] at HO
 (try simp only [hp])
 clear hp
 generalize w1.alloc (.cells #[.int .i64 1, .int .i64 1, .int .i64 12, .int .i64 11, .string ⟨#[]⟩, .bool false, .slice none 0 0, .slice none 0 0] 152) = w2 at HO ⊢
 refine (f27idn m4 _).mono ?_
 rintro e w3 ⟨rfl, hb⟩
 replace HO := Lib.hid (HO.out.call hb)
 clear hb
 have HS3 := Lib.hid (show Src Tryz.prog 8 147 (.slice (some ⟨w3.heap.size, 0, none⟩) 1 1) 1 ([VP.idn m4].flatMap VP.cells) (w3.alloc (.cells #[.int .i64 2, .int .i64 0, .int .i64 0, .int .i64 m4, .string ⟨#[]⟩, .bool false, .slice none 0 0, .slice none 0 0] 152)) from (Sl.lit w3 152 8 1 ([VP.idn m4].flatMap VP.cells) (by unfold maxLen; omega) rfl).src (P := Tryz.prog) Tryz.underlying147 (one_VP [VP.idn m4]))
 have HM3 := Lib.hid (HO.out.mid.alloc (.cells #[.int .i64 2, .int .i64 0, .int .i64 0, .int .i64 m4, .string ⟨#[]⟩, .bool false, .slice none 0 0, .slice none 0 0] 152))
 have HW3 := Lib.hid (Nat.le_trans HO.out.bel.size (belowBox w3 (.cells #[.int .i64 2, .int .i64 0, .int .i64 0, .int .i64 m4, .string ⟨#[]⟩, .bool false, .slice none 0 0, .slice none 0 0] 152)).size)
 go_wp2_with (at_builtin; refine wpList_append_mid (v := .slice (some ⟨p2, 0, none⟩) 1 1) rfl _ _ 147 147 rfl i0 (.agg #[.int .i64 0, .int .i64 0, .int .i64 0, .int .i64 0, .string ⟨#[]⟩, .bool false, .slice none 0 0, .slice none 0 0]) 104 Tryz.underlying147 hi hz0 hz1 hz2 rfl rfl HM3.out _ rfl 1 _ HS3.out (by unfold maxLen; omega) (by omega) HW3.out ?_; intro a4 c4 w4 hmo hgo hbo; have HP := Lib.hid (HO.out.push (ys := [VP.idn m4]) hmo hgo); clear hmo hgo hbo HM3 HW3 HS3 HO; have ⟨k0, k1, k2, k3, k4, k5, k6, k7, k8, k9, k10, k11, k12⟩ := HMX.out _ HP.out.bel; go_wp2_with fail)
 have HO := HP
 clear HP k0 k1 k2 k3 k4 k5 k6 k7 k8 k9 k10 k11 k12
 go_ret
 exact ⟨_, _, rfl, HO.out.psw HOK.out rfl (by rw [HW0.out]; exact belowBox _ _), bthen (belowBox w (.cells #[.int .i64 m0, .int .i64 m1, .int .i64 m2, .string t1, .string t2, .int .i64 11, .int .i64 m4, .int .i64 m5, .int .i64 m6, .bool qs, .slice qa qn qc, .slice qb qm qd, .slice ea en ec] 63)) (by rw [← HW0.out]; exact HO.out.bel)⟩
theorem f27qst_4 (m0 m1 m2 m4 m5 m6 : Int) (t1 t2 : ByteArray) (q : Rat) (qs : Bool) (qa qb ea : Option Addr) (qn qc qm qd en ec : Nat) (w : World)
  (HOK : Hid (∀ W, Below w.heap.size w W → ∀ p, p ∈ (([VP.num (4) 1 12] ++ [VP.idn m5]) : List VP) → p.ok W)) :
  Calls Tryz.prog 128 #[.agg #[.int .i64 m0, .int .i64 m1, .int .i64 m2, .string t1, .string t2, .int .i64 4, .int .i64 m4, .int .i64 m5, .int .i64 m6, .bool qs, .slice qa qn qc, .slice qb qm qd, .slice ea en ec]] w fun e w' => ∃ a c, e = .returned (.slice a (1 + 1) c) ∧ PSW w' a (1 + 1) c ([VP.num (4) 1 12] ++ [VP.idn m5]) ∧ Below w.heap.size w w' := by
 obtain ⟨i0, hi, hz0, hz1, hz2⟩ := info_parts Tryz.infoPart
 obtain ⟨W0, hW0⟩ : ∃ W0, W0 = w.alloc (.cells #[.int .i64 m0, .int .i64 m1, .int .i64 m2, .string t1, .string t2, .int .i64 4, .int .i64 m4, .int .i64 m5, .int .i64 m6, .bool qs, .slice qa qn qc, .slice qb qm qd, .slice ea en ec] 63) := ⟨_, rfl⟩
 have HN := Lib.hid (show BS w [⟨w.heap.size, 63, [.int .i64 m0, .int .i64 m1, .int .i64 m2, .string t1, .string t2, .int .i64 4, .int .i64 m4, .int .i64 m5, .int .i64 m6, .bool qs, .slice qa qn qc, .slice qb qm qd, .slice ea en ec]⟩] [] W0 from by rw [hW0]; exact (BS.start w).alloc (p := w.heap.size) rfl 63 [.int .i64 m0, .int .i64 m1, .int .i64 m2, .string t1, .string t2, .int .i64 4, .int .i64 m4, .int .i64 m5, .int .i64 m6, .bool qs, .slice qa qn qc, .slice qb qm qd, .slice ea en ec] rfl)
 have HW0 := Lib.hid hW0
 have HMX := Lib.hid (fun (W : World) (hb : Below W0.heap.size W0 W) => (⟨(hb.cell (p := ⟨w.heap.size, 0, none⟩) (HN.out.lt 0 rfl)).trans (HN.out.cell 0 0 rfl rfl), (hb.cell (p := ⟨w.heap.size, 1, none⟩) (HN.out.lt 0 rfl)).trans (HN.out.cell 0 1 rfl rfl), (hb.cell (p := ⟨w.heap.size, 2, none⟩) (HN.out.lt 0 rfl)).trans (HN.out.cell 0 2 rfl rfl), (hb.cell (p := ⟨w.heap.size, 3, none⟩) (HN.out.lt 0 rfl)).trans (HN.out.cell 0 3 rfl rfl), (hb.cell (p := ⟨w.heap.size, 4, none⟩) (HN.out.lt 0 rfl)).trans (HN.out.cell 0 4 rfl rfl), (hb.cell (p := ⟨w.heap.size, 5, none⟩) (HN.out.lt 0 rfl)).trans (HN.out.cell 0 5 rfl rfl), (hb.cell (p := ⟨w.heap.size, 6, none⟩) (HN.out.lt 0 rfl)).trans (HN.out.cell 0 6 rfl rfl), (hb.cell (p := ⟨w.heap.size, 7, none⟩) (HN.out.lt 0 rfl)).trans (HN.out.cell 0 7 rfl rfl), (hb.cell (p := ⟨w.heap.size, 8, none⟩) (HN.out.lt 0 rfl)).trans (HN.out.cell 0 8 rfl rfl), (hb.cell (p := ⟨w.heap.size, 9, none⟩) (HN.out.lt 0 rfl)).trans (HN.out.cell 0 9 rfl rfl), (hb.cell (p := ⟨w.heap.size, 10, none⟩) (HN.out.lt 0 rfl)).trans (HN.out.cell 0 10 rfl rfl), (hb.cell (p := ⟨w.heap.size, 11, none⟩) (HN.out.lt 0 rfl)).trans (HN.out.cell 0 11 rfl rfl), (hb.cell (p := ⟨w.heap.size, 12, none⟩) (HN.out.lt 0 rfl)).trans (HN.out.cell 0 12 rfl rfl)⟩ : W.cell? ⟨w.heap.size, 0, none⟩ = some (.int .i64 m0) ∧ W.cell? ⟨w.heap.size, 1, none⟩ = some (.int .i64 m1) ∧ W.cell? ⟨w.heap.size, 2, none⟩ = some (.int .i64 m2) ∧ W.cell? ⟨w.heap.size, 3, none⟩ = some (.string t1) ∧ W.cell? ⟨w.heap.size, 4, none⟩ = some (.string t2) ∧ W.cell? ⟨w.heap.size, 5, none⟩ = some (.int .i64 4) ∧ W.cell? ⟨w.heap.size, 6, none⟩ = some (.int .i64 m4) ∧ W.cell? ⟨w.heap.size, 7, none⟩ = some (.int .i64 m5) ∧ W.cell? ⟨w.heap.size, 8, none⟩ = some (.int .i64 m6) ∧ W.cell? ⟨w.heap.size, 9, none⟩ = some (.bool qs) ∧ W.cell? ⟨w.heap.size, 10, none⟩ = some (.slice qa qn qc) ∧ W.cell? ⟨w.heap.size, 11, none⟩ = some (.slice qb qm qd) ∧ W.cell? ⟨w.heap.size, 12, none⟩ = some (.slice ea en ec)))
 clear hW0
 go_enter Tryz.func128, Tryz.ntmps128
 go_upto_region 1 with fail
 rw [← HW0.out]
 have HO := Lib.hid (PL.nil W0)
 have ⟨k0, k1, k2, k3, k4, k5, k6, k7, k8, k9, k10, k11, k12⟩ := HMX.out _ HO.out.bel
 go_wp2_with fail
 clear k0 k1 k2 k3 k4 k5 k6 k7 k8 k9 k10 k11 k12
 refine (f27num (4) 1 12 _).mono ?_
 rintro e w1 ⟨rfl, hb⟩
 replace HO := Lib.hid (HO.out.call hb)
 clear hb
 replace HO := Lib.hid (show PL W0 (some ⟨w1.heap.size, 0, none⟩) 1 1 [VP.num (4) 1 12] (w1.alloc (.cells #[.int .i64 1, .int .i64 1, .int .i64 12, .int .i64 4, .string ⟨#[]⟩, .bool false, .slice none 0 0, .slice none 0 0] 152)) from HO.out.lit [VP.num (4) 1 12] 1 rfl rfl)
 have ⟨k0, k1, k2, k3, k4, k5, k6, k7, k8, k9, k10, k11, k12⟩ := HMX.out _ HO.out.bel
 go_wp2_with fail
 clear k0 k1 k2 k3 k4 k5 k6 k7 k8 k9 k10 k11 k12
 obtain ⟨p2, hp⟩ : ∃ p2, w1.heap.size = p2 := ⟨_, rfl⟩
 rw [hp] at HO
 (try simp only [hp])
 clear hp
 generalize w1.alloc (.cells #[.int .i64 1, .int .i64 1, .int .i64 12, .int .i64 4, .string ⟨#[]⟩, .bool false, .slice none 0 0, .slice none 0 0] 152) = w2 at HO ⊢
 refine (f27idn m5 _).mono ?_
 rintro e w3 ⟨rfl, hb⟩
 replace HO := Lib.hid (HO.out.call hb)
 clear hb
 have HS3 := Lib.hid (show Src Tryz.prog 8 147 (.slice (some ⟨w3.heap.size, 0, none⟩) 1 1) 1 ([VP.idn m5].flatMap VP.cells) (w3.alloc (.cells #[.int .i64 2, .int .i64 0, .int .i64 0, .int .i64 m5, .string ⟨#[]⟩, .bool false, .slice none 0 0, .slice none 0 0] 152)) from (Sl.lit w3 152 8 1 ([VP.idn m5].flatMap VP.cells) (by unfold maxLen; omega) rfl).src (P := Tryz.prog) Tryz.underlying147 (one_VP [VP.idn m5]))
 have HM3 := Lib.hid (HO.out.mid.alloc (.cells #[.int .i64 2, .int .i64 0, .int .i64 0, .int .i64 m5, .string ⟨#[]⟩, .bool false, .slice none 0 0, .slice none 0 0] 152))
 have HW3 := Lib.hid (Nat.le_trans HO.out.bel.size (belowBox w3 (.cells #[.int .i64 2, .int .i64 0, .int .i64 0, .int .i64 m5, .string ⟨#[]⟩, .bool false, .slice none 0 0, .slice none 0 0] 152)).size)
 go_wp2_with (at_builtin; refine wpList_append_mid (v := .slice (some ⟨p2, 0, none⟩) 1 1) rfl _ _ 147 147 rfl i0 (.agg #[.int .i64 0, .int .i64 0, .int .i64 0, .int .i64 0, .string ⟨#[]⟩, .bool false, .slice none 0 0, .slice none 0 0]) 104 Tryz.underlying147 hi hz0 hz1 hz2 rfl rfl HM3.out _ rfl 1 _ HS3.out (by unfold maxLen; omega) (by omega) HW3.out ?_; intro a4 c4 w4 hmo hgo hbo; have HP := Lib.hid (HO.out.push (ys := [VP.idn m5]) hmo hgo); clear hmo hgo hbo HM3 HW3 HS3 HO; have ⟨k0, k1, k2, k3, k4, k5, k6, k7, k8, k9, k10, k11, k12⟩ := HMX.out _ HP.out.bel; go_wp2_with fail)
 have HO := HP
 clear HP k0 k1 k2 k3 k4 k5 k6 k7 k8 k9 k10 k11 k12
 go_ret
 exact ⟨_, _, rfl, HO.out.psw HOK.out rfl (by rw [HW0.out]; exact belowBox _ _), bthen (belowBox w (.cells #[.int .i64 m0, .int .i64 m1, .int .i64 m2, .string t1, .string t2, .int .i64 4, .int .i64 m4, .int .i64 m5, .int .i64 m6, .bool qs, .slice qa qn qc, .slice qb qm qd, .slice ea en ec] 63)) (by rw [← HW0.out]; exact HO.out.bel)⟩
theorem f27qst_10 (m0 m1 m2 m4 m5 m6 : Int) (t1 t2 : ByteArray) (q : Rat) (qs : Bool) (qa qb ea : Option Addr) (qn qc qm qd en ec : Nat) (w : World)
  (HOK : Hid (∀ W, Below w.heap.size w W → ∀ p, p ∈ (([VP.num (10) 1 12] ++ [VP.idn m5]) : List VP) → p.ok W)) :
  Calls Tryz.prog 128 #[.agg #[.int .i64 m0, .int .i64 m1, .int .i64 m2, .string t1, .string t2, .int .i64 10, .int .i64 m4, .int .i64 m5, .int .i64 m6, .bool qs, .slice qa qn qc, .slice qb qm qd, .slice ea en ec]] w fun e w' => ∃ a c, e = .returned (.slice a (1 + 1) c) ∧ PSW w' a (1 + 1) c ([VP.num (10) 1 12] ++ [VP.idn m5]) ∧ Below w.heap.size w w' := by
 obtain ⟨i0, hi, hz0, hz1, hz2⟩ := info_parts Tryz.infoPart
 obtain ⟨W0, hW0⟩ : ∃ W0, W0 = w.alloc (.cells #[.int .i64 m0, .int .i64 m1, .int .i64 m2, .string t1, .string t2, .int .i64 10, .int .i64 m4, .int .i64 m5, .int .i64 m6, .bool qs, .slice qa qn qc, .slice qb qm qd, .slice ea en ec] 63) := ⟨_, rfl⟩
 have HN := Lib.hid (show BS w [⟨w.heap.size, 63, [.int .i64 m0, .int .i64 m1, .int .i64 m2, .string t1, .string t2, .int .i64 10, .int .i64 m4, .int .i64 m5, .int .i64 m6, .bool qs, .slice qa qn qc, .slice qb qm qd, .slice ea en ec]⟩] [] W0 from by rw [hW0]; exact (BS.start w).alloc (p := w.heap.size) rfl 63 [.int .i64 m0, .int .i64 m1, .int .i64 m2, .string t1, .string t2, .int .i64 10, .int .i64 m4, .int .i64 m5, .int .i64 m6, .bool qs, .slice qa qn qc, .slice qb qm qd, .slice ea en ec] rfl)
 have HW0 := Lib.hid hW0
 have HMX := Lib.hid (fun (W : World) (hb : Below W0.heap.size W0 W) => (⟨(hb.cell (p := ⟨w.heap.size, 0, none⟩) (HN.out.lt 0 rfl)).trans (HN.out.cell 0 0 rfl rfl), (hb.cell (p := ⟨w.heap.size, 1, none⟩) (HN.out.lt 0 rfl)).trans (HN.out.cell 0 1 rfl rfl), (hb.cell (p := ⟨w.heap.size, 2, none⟩) (HN.out.lt 0 rfl)).trans (HN.out.cell 0 2 rfl rfl), (hb.cell (p := ⟨w.heap.size, 3, none⟩) (HN.out.lt 0 rfl)).trans (HN.out.cell 0 3 rfl rfl), (hb.cell (p := ⟨w.heap.size, 4, none⟩) (HN.out.lt 0 rfl)).trans (HN.out.cell 0 4 rfl rfl), (hb.cell (p := ⟨w.heap.size, 5, none⟩) (HN.out.lt 0 rfl)).trans (HN.out.cell 0 5 rfl rfl), (hb.cell (p := ⟨w.heap.size, 6, none⟩) (HN.out.lt 0 rfl)).trans (HN.out.cell 0 6 rfl rfl), (hb.cell (p := ⟨w.heap.size, 7, none⟩) (HN.out.lt 0 rfl)).trans (HN.out.cell 0 7 rfl rfl), (hb.cell (p := ⟨w.heap.size, 8, none⟩) (HN.out.lt 0 rfl)).trans (HN.out.cell 0 8 rfl rfl), (hb.cell (p := ⟨w.heap.size, 9, none⟩) (HN.out.lt 0 rfl)).trans (HN.out.cell 0 9 rfl rfl), (hb.cell (p := ⟨w.heap.size, 10, none⟩) (HN.out.lt 0 rfl)).trans (HN.out.cell 0 10 rfl rfl), (hb.cell (p := ⟨w.heap.size, 11, none⟩) (HN.out.lt 0 rfl)).trans (HN.out.cell 0 11 rfl rfl), (hb.cell (p := ⟨w.heap.size, 12, none⟩) (HN.out.lt 0 rfl)).trans (HN.out.cell 0 12 rfl rfl)⟩ : W.cell? ⟨w.heap.size, 0, none⟩ = some (.int .i64 m0) ∧ W.cell? ⟨w.heap.size, 1, none⟩ = some (.int .i64 m1) ∧ W.cell? ⟨w.heap.size, 2, none⟩ = some (.int .i64 m2) ∧ W.cell? ⟨w.heap.size, 3, none⟩ = some (.string t1) ∧ W.cell? ⟨w.heap.size, 4, none⟩ = some (.string t2) ∧ W.cell? ⟨w.heap.size, 5, none⟩ = some (.int .i64 10) ∧ W.cell? ⟨w.heap.size, 6, none⟩ = some (.int .i64 m4) ∧ W.cell? ⟨w.heap.size, 7, none⟩ = some (.int .i64 m5) ∧ W.cell? ⟨w.heap.size, 8, none⟩ = some (.int .i64 m6) ∧ W.cell? ⟨w.heap.size, 9, none⟩ = some (.bool qs) ∧ W.cell? ⟨w.heap.size, 10, none⟩ = some (.slice qa qn qc) ∧ W.cell? ⟨w.heap.size, 11, none⟩ = some (.slice qb qm qd) ∧ W.cell? ⟨w.heap.size, 12, none⟩ = some (.slice ea en ec)))
 clear hW0
 go_enter Tryz.func128, Tryz.ntmps128
 go_upto_region 1 with fail
 rw [← HW0.out]
 have HO := Lib.hid (PL.nil W0)
 have ⟨k0, k1, k2, k3, k4, k5, k6, k7, k8, k9, k10, k11, k12⟩ := HMX.out _ HO.out.bel
 go_wp2_with fail
 clear k0 k1 k2 k3 k4 k5 k6 k7 k8 k9 k10 k11 k12
 refine (f27num (10) 1 12 _).mono ?_
 rintro e w1 ⟨rfl, hb⟩
 replace HO := Lib.hid (HO.out.call hb)
 clear hb
 replace HO := Lib.hid (show PL W0 (some ⟨w1.heap.size, 0, none⟩) 1 1 [VP.num (10) 1 12] (w1.alloc (.cells #[.int .i64 1, .int .i64 1, .int .i64 12, .int .i64 10, .string ⟨#[]⟩, .bool false, .slice none 0 0, .slice none 0 0] 152)) from HO.out.lit [VP.num (10) 1 12] 1 rfl rfl)
 have ⟨k0, k1, k2, k3, k4, k5, k6, k7, k8, k9, k10, k11, k12⟩ := HMX.out _ HO.out.bel
 go_wp2_with fail
 clear k0 k1 k2 k3 k4 k5 k6 k7 k8 k9 k10 k11 k12
 obtain ⟨p2, hp⟩ : ∃ p2, w1.heap.size = p2 := ⟨_, rfl⟩
 rw [hp] at HO
 (try simp only [hp])
 clear hp
 generalize w1.alloc (.cells #[.int .i64 1, .int .i64 1, .int .i64 12, .int .i64 10, .string ⟨#[]⟩, .bool false, .slice none 0 0, .slice none 0 0] 152) = w2 at HO ⊢
 refine (f27idn m5 _).mono ?_
 rintro e w3 ⟨rfl, hb⟩
 replace HO := Lib.hid (HO.out.call hb)
 clear hb
 have HS3 := Lib.hid (show Src Tryz.prog 8 147 (.slice (some ⟨w3.heap.size, 0, none⟩) 1 1) 1 ([VP.idn m5].flatMap VP.cells) (w3.alloc (.cells #[.int .i64 2, .int .i64 0, .int .i64 0, .int .i64 m5, .string ⟨#[]⟩, .bool false, .slice none 0 0, .slice none 0 0] 152)) from (Sl.lit w3 152 8 1 ([VP.idn m5].flatMap VP.cells) (by unfold maxLen; omega) rfl).src (P := Tryz.prog) Tryz.underlying147 (one_VP [VP.idn m5]))
 have HM3 := Lib.hid (HO.out.mid.alloc (.cells #[.int .i64 2, .int .i64 0, .int .i64 0, .int .i64 m5, .string ⟨#[]⟩, .bool false, .slice none 0 0, .slice none 0 0] 152))
 have HW3 := Lib.hid (Nat.le_trans HO.out.bel.size (belowBox w3 (.cells #[.int .i64 2, .int .i64 0, .int .i64 0, .int .i64 m5, .string ⟨#[]⟩, .bool false, .slice none 0 0, .slice none 0 0] 152)).size)
 go_wp2_with (at_builtin; refine wpList_append_mid (v := .slice (some ⟨p2, 0, none⟩) 1 1) rfl _ _ 147 147 rfl i0 (.agg #[.int .i64 0, .int .i64 0, .int .i64 0, .int .i64 0, .string ⟨#[]⟩, .bool false, .slice none 0 0, .slice none 0 0]) 104 Tryz.underlying147 hi hz0 hz1 hz2 rfl rfl HM3.out _ rfl 1 _ HS3.out (by unfold maxLen; omega) (by omega) HW3.out ?_; intro a4 c4 w4 hmo hgo hbo; have HP := Lib.hid (HO.out.push (ys := [VP.idn m5]) hmo hgo); clear hmo hgo hbo HM3 HW3 HS3 HO; have ⟨k0, k1, k2, k3, k4, k5, k6, k7, k8, k9, k10, k11, k12⟩ := HMX.out _ HP.out.bel; go_wp2_with fail)
 have HO := HP
 clear HP k0 k1 k2 k3 k4 k5 k6 k7 k8 k9 k10 k11 k12
 go_ret
 exact ⟨_, _, rfl, HO.out.psw HOK.out rfl (by rw [HW0.out]; exact belowBox _ _), bthen (belowBox w (.cells #[.int .i64 m0, .int .i64 m1, .int .i64 m2, .string t1, .string t2, .int .i64 10, .int .i64 m4, .int .i64 m5, .int .i64 m6, .bool qs, .slice qa qn qc, .slice qb qm qd, .slice ea en ec] 63)) (by rw [← HW0.out]; exact HO.out.bel)⟩
theorem f27qst_0 (m0 m1 m2 m3 m4 m5 m6 : Int) (t1 t2 : ByteArray) (qs : Bool) (qa qb ea : Option Addr) (qn qc qm qd en ec : Nat) (w : World) (h1 : (m3 == 1) = false) (h2 : (m3 == 2) = false) (h5 : (m3 == 5) = false) (h7 : (m3 == 7) = false) (h6 : (m3 == 6) = false) (h8 : (m3 == 8) = false) (h3 : (m3 == 3) = false) (h11 : (m3 == 11) = false) (h4 : (m3 == 4) = false) (h10 : (m3 == 10) = false)
  (HOK : Hid (∀ W, Below w.heap.size w W → ∀ p, p ∈ ([VP.num (m3) 1 12] : List VP) → p.ok W)) :
  Calls Tryz.prog 128 #[.agg #[.int .i64 m0, .int .i64 m1, .int .i64 m2, .string t1, .string t2, .int .i64 m3, .int .i64 m4, .int .i64 m5, .int .i64 m6, .bool qs, .slice qa qn qc, .slice qb qm qd, .slice ea en ec]] w fun e w' => ∃ a c, e = .returned (.slice a 1 c) ∧ PSW w' a 1 c [VP.num (m3) 1 12] ∧ Below w.heap.size w w' := by
 obtain ⟨i0, hi, hz0, hz1, hz2⟩ := info_parts Tryz.infoPart
 obtain ⟨W0, hW0⟩ : ∃ W0, W0 = w.alloc (.cells #[.int .i64 m0, .int .i64 m1, .int .i64 m2, .string t1, .string t2, .int .i64 m3, .int .i64 m4, .int .i64 m5, .int .i64 m6, .bool qs, .slice qa qn qc, .slice qb qm qd, .slice ea en ec] 63) := ⟨_, rfl⟩
 have HN := Lib.hid (show BS w [⟨w.heap.size, 63, [.int .i64 m0, .int .i64 m1, .int .i64 m2, .string t1, .string t2, .int .i64 m3, .int .i64 m4, .int .i64 m5, .int .i64 m6, .bool qs, .slice qa qn qc, .slice qb qm qd, .slice ea en ec]⟩] [] W0 from by rw [hW0]; exact (BS.start w).alloc (p := w.heap.size) rfl 63 [.int .i64 m0, .int .i64 m1, .int .i64 m2, .string t1, .string t2, .int .i64 m3, .int .i64 m4, .int .i64 m5, .int .i64 m6, .bool qs, .slice qa qn qc, .slice qb qm qd, .slice ea en ec] rfl)
 have HW0 := Lib.hid hW0
 have HMX := Lib.hid (fun (W : World) (hb : Below W0.heap.size W0 W) => (⟨(hb.cell (p := ⟨w.heap.size, 0, none⟩) (HN.out.lt 0 rfl)).trans (HN.out.cell 0 0 rfl rfl), (hb.cell (p := ⟨w.heap.size, 1, none⟩) (HN.out.lt 0 rfl)).trans (HN.out.cell 0 1 rfl rfl), (hb.cell (p := ⟨w.heap.size, 2, none⟩) (HN.out.lt 0 rfl)).trans (HN.out.cell 0 2 rfl rfl), (hb.cell (p := ⟨w.heap.size, 3, none⟩) (HN.out.lt 0 rfl)).trans (HN.out.cell 0 3 rfl rfl), (hb.cell (p := ⟨w.heap.size, 4, none⟩) (HN.out.lt 0 rfl)).trans (HN.out.cell 0 4 rfl rfl), (hb.cell (p := ⟨w.heap.size, 5, none⟩) (HN.out.lt 0 rfl)).trans (HN.out.cell 0 5 rfl rfl), (hb.cell (p := ⟨w.heap.size, 6, none⟩) (HN.out.lt 0 rfl)).trans (HN.out.cell 0 6 rfl rfl), (hb.cell (p := ⟨w.heap.size, 7, none⟩) (HN.out.lt 0 rfl)).trans (HN.out.cell 0 7 rfl rfl), (hb.cell (p := ⟨w.heap.size, 8, none⟩) (HN.out.lt 0 rfl)).trans (HN.out.cell 0 8 rfl rfl), (hb.cell (p := ⟨w.heap.size, 9, none⟩) (HN.out.lt 0 rfl)).trans (HN.out.cell 0 9 rfl rfl), (hb.cell (p := ⟨w.heap.size, 10, none⟩) (HN.out.lt 0 rfl)).trans (HN.out.cell 0 10 rfl rfl), (hb.cell (p := ⟨w.heap.size, 11, none⟩) (HN.out.lt 0 rfl)).trans (HN.out.cell 0 11 rfl rfl), (hb.cell (p := ⟨w.heap.size, 12, none⟩) (HN.out.lt 0 rfl)).trans (HN.out.cell 0 12 rfl rfl)⟩ : W.cell? ⟨w.heap.size, 0, none⟩ = some (.int .i64 m0) ∧ W.cell? ⟨w.heap.size, 1, none⟩ = some (.int .i64 m1) ∧ W.cell? ⟨w.heap.size, 2, none⟩ = some (.int .i64 m2) ∧ W.cell? ⟨w.heap.size, 3, none⟩ = some (.string t1) ∧ W.cell? ⟨w.heap.size, 4, none⟩ = some (.string t2) ∧ W.cell? ⟨w.heap.size, 5, none⟩ = some (.int .i64 m3) ∧ W.cell? ⟨w.heap.size, 6, none⟩ = some (.int .i64 m4) ∧ W.cell? ⟨w.heap.size, 7, none⟩ = some (.int .i64 m5) ∧ W.cell? ⟨w.heap.size, 8, none⟩ = some (.int .i64 m6) ∧ W.cell? ⟨w.heap.size, 9, none⟩ = some (.bool qs) ∧ W.cell? ⟨w.heap.size, 10, none⟩ = some (.slice qa qn qc) ∧ W.cell? ⟨w.heap.size, 11, none⟩ = some (.slice qb qm qd) ∧ W.cell? ⟨w.heap.size, 12, none⟩ = some (.slice ea en ec)))
 clear hW0
 go_enter Tryz.func128, Tryz.ntmps128
 go_upto_region 1 with fail
 rw [← HW0.out]
 have HO := Lib.hid (PL.nil W0)
 have ⟨k0, k1, k2, k3, k4, k5, k6, k7, k8, k9, k10, k11, k12⟩ := HMX.out _ HO.out.bel
 go_wp2_with fail
 clear k0 k1 k2 k3 k4 k5 k6 k7 k8 k9 k10 k11 k12
 refine (f27num (m3) 1 12 _).mono ?_
 rintro e w1 ⟨rfl, hb⟩
 replace HO := Lib.hid (HO.out.call hb)
 clear hb
 replace HO := Lib.hid (show PL W0 (some ⟨w1.heap.size, 0, none⟩) 1 1 [VP.num (m3) 1 12] (w1.alloc (.cells #[.int .i64 1, .int .i64 1, .int .i64 12, .int .i64 m3, .string ⟨#[]⟩, .bool false, .slice none 0 0, .slice none 0 0] 152)) from HO.out.lit [VP.num (m3) 1 12] 1 rfl rfl)
 have ⟨k0, k1, k2, k3, k4, k5, k6, k7, k8, k9, k10, k11, k12⟩ := HMX.out _ HO.out.bel
 go_wp2_with fail
 go_ret
 exact ⟨_, _, rfl, HO.out.psw HOK.out rfl (by rw [HW0.out]; exact belowBox _ _), bthen (belowBox w (.cells #[.int .i64 m0, .int .i64 m1, .int .i64 m2, .string t1, .string t2, .int .i64 m3, .int .i64 m4, .int .i64 m5, .int .i64 m6, .bool qs, .slice qa qn qc, .slice qb qm qd, .slice ea en ec] 63)) (by rw [← HW0.out]; exact HO.out.bel)⟩
end Go.Proofs.YtmhainidincjhaaGreatDoor
