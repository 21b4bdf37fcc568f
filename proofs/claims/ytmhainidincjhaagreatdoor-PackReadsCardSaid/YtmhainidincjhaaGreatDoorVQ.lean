/-
 What the laws stand on, part Q: contracts and plain laws of FEnc, FQText; the conditions are each law's own.
-/
import Derived.Test.YtmhainidincjhaaGreatDoorVG
import Derived.Test.YtmhainidincjhaaGreatDoorVL
set_option linter.unusedVariables false
set_option linter.unusedSimpArgs false
set_option maxRecDepth 100000
set_option maxHeartbeats 16000000
namespace Go.Proofs.YtmhainidincjhaaGreatDoor
open Go.RowKit Go.Extern.Stop Go.Stop Go.Extern
theorem f9one (a : Option Addr) (n c x : Nat) (w : World) (h : RD w a n c x) : Calls Tryz.prog 81 #[.slice a n c] w fun e w' => e = .returned (.bool (decide (x = 1))) ∧ w' = w := by
 have hl := h.len
 rcases Nat.lt_or_ge 1 n with h1 | h1
 ·
  have hx : x ≠ 1 := fun e => by have := h.1; rw [e, nd_one] at this; omega
  have e0 : ((n : Int) == 1) = false := beq_eq_false_iff_ne.2 (by omega)
  rw [decide_eq_false hx]
  clear h hx
  go_enter Tryz.func81, Tryz.ntmps81
  go_wp2_with fail
  go_ret
  exact ⟨rfl, rfl⟩
 ·
  rcases Nat.eq_zero_or_pos n with h0 | h0
  ·
   subst h0
   have hx : x ≠ 1 := fun e => by have := h.1; rw [e, nd_one] at this; omega
   rw [decide_eq_false hx]
   clear h hx
   go_enter Tryz.func81, Tryz.ntmps81
   go_wp2_with fail
   go_ret
   exact ⟨rfl, rfl⟩
  ·
   obtain rfl : n = 1 := by omega
   obtain ⟨b, o, rfl, hb, hc⟩ := h.2.get 0 (by omega)
   have hx : x < 65536 := by have := lt_nd x; rw [← h.1] at this; simpa using this
   rw [Nat.pow_zero, Nat.div_one, Nat.mod_eq_of_lt hx, Nat.add_zero] at hc
   clear h
   by_cases h1 : x = 1
   ·
    subst h1
    go_enter Tryz.func81, Tryz.ntmps81
    go_wp2_with fail
    go_ret
    exact ⟨rfl, rfl⟩
   ·
    have e0 : ((x : Int) == 1) = false := beq_eq_false_iff_ne.2 (by omega)
    rw [decide_eq_false h1]
    go_enter Tryz.func81, Tryz.ntmps81
    go_wp2_with fail
    go_ret
    exact ⟨rfl, rfl⟩
theorem f9text_nw (a b : Option Addr) (n c m d x y : Nat) (w : World) (h : RD w a n c x) (h2 : RD w b m d y) (st : ByteArray) (hst : st.size ≤ 21990232555521) (sr : ByteArray) (happ : ByteArray.mk #[45] ++ st = sr)
  (HTX : Hid (∀ W, RT W a n c x → Calls Tryz.prog 85 #[.slice a n c] W fun e w' => e = .returned (.string st) ∧ Below W.heap.size W w'))
  (HON : Hid (∀ W, RT W b m d y → Calls Tryz.prog 81 #[.slice b m d] W fun e w' => e = .returned (.bool true) ∧ Below W.heap.size W w')) :
  Calls Tryz.prog 32 #[.agg #[.bool true, .slice a n c, .slice b m d]] w fun e w' => e = .returned (.string sr) ∧ Below w.heap.size w w' := by
 have hsr : sr.size = st.size + 1 := by rw [← happ, ByteArray.size_append, Nat.add_comm]; rfl
 obtain ⟨W0, hW0⟩ : ∃ W0, W0 = (w.alloc (.cells #[.bool true, .slice a n c, .slice b m d] 60)) := ⟨_, rfl⟩
 have hbs : BS w [⟨w.heap.size, 60, [.bool true, .slice a n c, .slice b m d]⟩] [] (w.alloc (.cells #[.bool true, .slice a n c, .slice b m d] 60)) :=
   ((BS.start w).alloc (p := w.heap.size) rfl 60 [.bool true, .slice a n c, .slice b m d] rfl)
 rw [← hW0] at hbs
 have HW0 := Lib.hid hW0
 have HN := Lib.hid hbs
 clear hW0 hbs
 have HX := Lib.hid (show RT W0 a n c x from by rw [HW0.out]; exact (h.rt.below (belowBox _ _) trivial))
 clear h
 have HD := Lib.hid (show RT W0 b m d y from by rw [HW0.out]; exact (h2.rt.below (belowBox _ _) trivial))
 clear h2
 go_enter Tryz.func32, Tryz.ntmps32
 go_wp2_with fail
 rw [← HW0.out]
 refine (HTX.out _ HX.out).mono ?_
 rintro e w1 ⟨rfl, hb⟩
 replace HX := Lib.hid (show RT w1 a n c x from HX.out.below hb HX.out.lt)
 replace HD := Lib.hid (show RT w1 b m d y from HD.out.below hb HD.out.lt)
 replace HN := Lib.hid (HN.out.call hb)
 clear hb 
 have ⟨k00, f00, k01, f01, k02, f02⟩ := HN.out.cf3 0 rfl
 go_wp2_with fail
 clear k00 f00 k01 f01 k02 f02
 refine (HON.out _ HD.out).mono ?_
 rintro e w2 ⟨rfl, hb⟩
 replace HX := Lib.hid (show RT w2 a n c x from HX.out.below hb HX.out.lt)
 replace HD := Lib.hid (show RT w2 b m d y from HD.out.below hb HD.out.lt)
 replace HN := Lib.hid (HN.out.call hb)
 clear hb 
 have ⟨k00, f00, k01, f01, k02, f02⟩ := HN.out.cf3 0 rfl
 have HE := Lib.hid (HN.out)
 go_wp2_with fail
 refine bodyPost_ret (v := .string sr) (by simp [results, Tryz.results32, go_sem, k00, k01, k02]) rfl ?_
 exact ⟨rfl, HE.out.bel⟩
theorem f9text_nf (a b : Option Addr) (n c m d x y : Nat) (w : World) (h : RD w a n c x) (h2 : RD w b m d y) (st : ByteArray) (hst : st.size ≤ 21990232555521) (sr : ByteArray) (happ : ByteArray.mk #[45] ++ st = sr) (sd : ByteArray) (hsd : sd.size ≤ 21990232555521)
  (HTX : Hid (∀ W, RT W a n c x → Calls Tryz.prog 85 #[.slice a n c] W fun e w' => e = .returned (.string st) ∧ Below W.heap.size W w'))
  (HON : Hid (∀ W, RT W b m d y → Calls Tryz.prog 81 #[.slice b m d] W fun e w' => e = .returned (.bool false) ∧ Below W.heap.size W w'))
  (HTD : Hid (∀ W, RT W b m d y → Calls Tryz.prog 85 #[.slice b m d] W fun e w' => e = .returned (.string sd) ∧ Below W.heap.size W w')) :
  Calls Tryz.prog 32 #[.agg #[.bool true, .slice a n c, .slice b m d]] w fun e w' => e = .returned (.string (sr ++ ByteArray.mk #[47] ++ sd)) ∧ Below w.heap.size w w' := by
 have hsr : sr.size = st.size + 1 := by rw [← happ, ByteArray.size_append, Nat.add_comm]; rfl
 have hc0 : (sr ++ ByteArray.mk #[47]).size = sr.size + 1 := by rw [ByteArray.size_append]; rfl
 have hc1 : ¬ (9223372036854775807 < sr.size + 1) := by omega
 have hc2 : ¬ (9223372036854775807 < (sr ++ ByteArray.mk #[47]).size + sd.size) := by omega
 have hc3 : ¬ (9223372036854775807 < sr.size + 1 + sd.size) := by omega
 clear hc0
 obtain ⟨W0, hW0⟩ : ∃ W0, W0 = (w.alloc (.cells #[.bool true, .slice a n c, .slice b m d] 60)) := ⟨_, rfl⟩
 have hbs : BS w [⟨w.heap.size, 60, [.bool true, .slice a n c, .slice b m d]⟩] [] (w.alloc (.cells #[.bool true, .slice a n c, .slice b m d] 60)) :=
   ((BS.start w).alloc (p := w.heap.size) rfl 60 [.bool true, .slice a n c, .slice b m d] rfl)
 rw [← hW0] at hbs
 have HW0 := Lib.hid hW0
 have HN := Lib.hid hbs
 clear hW0 hbs
 have HX := Lib.hid (show RT W0 a n c x from by rw [HW0.out]; exact (h.rt.below (belowBox _ _) trivial))
 clear h
 have HD := Lib.hid (show RT W0 b m d y from by rw [HW0.out]; exact (h2.rt.below (belowBox _ _) trivial))
 clear h2
 go_enter Tryz.func32, Tryz.ntmps32
 go_wp2_with fail
 rw [← HW0.out]
 refine (HTX.out _ HX.out).mono ?_
 rintro e w1 ⟨rfl, hb⟩
 replace HX := Lib.hid (show RT w1 a n c x from HX.out.below hb HX.out.lt)
 replace HD := Lib.hid (show RT w1 b m d y from HD.out.below hb HD.out.lt)
 replace HN := Lib.hid (HN.out.call hb)
 clear hb 
 have ⟨k00, f00, k01, f01, k02, f02⟩ := HN.out.cf3 0 rfl
 go_wp2_with fail
 clear k00 f00 k01 f01 k02 f02
 refine (HON.out _ HD.out).mono ?_
 rintro e w2 ⟨rfl, hb⟩
 replace HX := Lib.hid (show RT w2 a n c x from HX.out.below hb HX.out.lt)
 replace HD := Lib.hid (show RT w2 b m d y from HD.out.below hb HD.out.lt)
 replace HN := Lib.hid (HN.out.call hb)
 clear hb 
 have ⟨k00, f00, k01, f01, k02, f02⟩ := HN.out.cf3 0 rfl
 go_wp2_with fail
 clear k00 f00 k01 f01 k02 f02
 refine (HTD.out _ HD.out).mono ?_
 rintro e w3 ⟨rfl, hb⟩
 replace HX := Lib.hid (show RT w3 a n c x from HX.out.below hb HX.out.lt)
 replace HD := Lib.hid (show RT w3 b m d y from HD.out.below hb HD.out.lt)
 replace HN := Lib.hid (HN.out.call hb)
 clear hb 
 have ⟨k00, f00, k01, f01, k02, f02⟩ := HN.out.cf3 0 rfl
 have HE := Lib.hid (HN.out)
 go_wp2_with fail
 refine bodyPost_ret (v := .string (sr ++ ByteArray.mk #[47] ++ sd)) (by simp [results, Tryz.results32, go_sem, k00, k01, k02]) rfl ?_
 exact ⟨rfl, HE.out.bel⟩
theorem f9text_pw (a b : Option Addr) (n c m d x y : Nat) (w : World) (h : RD w a n c x) (h2 : RD w b m d y) (st : ByteArray) (hst : st.size ≤ 21990232555521)
  (HTX : Hid (∀ W, RT W a n c x → Calls Tryz.prog 85 #[.slice a n c] W fun e w' => e = .returned (.string st) ∧ Below W.heap.size W w'))
  (HON : Hid (∀ W, RT W b m d y → Calls Tryz.prog 81 #[.slice b m d] W fun e w' => e = .returned (.bool true) ∧ Below W.heap.size W w')) :
  Calls Tryz.prog 32 #[.agg #[.bool false, .slice a n c, .slice b m d]] w fun e w' => e = .returned (.string st) ∧ Below w.heap.size w w' := by
 obtain ⟨W0, hW0⟩ : ∃ W0, W0 = (w.alloc (.cells #[.bool false, .slice a n c, .slice b m d] 60)) := ⟨_, rfl⟩
 have hbs : BS w [⟨w.heap.size, 60, [.bool false, .slice a n c, .slice b m d]⟩] [] (w.alloc (.cells #[.bool false, .slice a n c, .slice b m d] 60)) :=
   ((BS.start w).alloc (p := w.heap.size) rfl 60 [.bool false, .slice a n c, .slice b m d] rfl)
 rw [← hW0] at hbs
 have HW0 := Lib.hid hW0
 have HN := Lib.hid hbs
 clear hW0 hbs
 have HX := Lib.hid (show RT W0 a n c x from by rw [HW0.out]; exact (h.rt.below (belowBox _ _) trivial))
 clear h
 have HD := Lib.hid (show RT W0 b m d y from by rw [HW0.out]; exact (h2.rt.below (belowBox _ _) trivial))
 clear h2
 go_enter Tryz.func32, Tryz.ntmps32
 go_wp2_with fail
 rw [← HW0.out]
 refine (HTX.out _ HX.out).mono ?_
 rintro e w1 ⟨rfl, hb⟩
 replace HX := Lib.hid (show RT w1 a n c x from HX.out.below hb HX.out.lt)
 replace HD := Lib.hid (show RT w1 b m d y from HD.out.below hb HD.out.lt)
 replace HN := Lib.hid (HN.out.call hb)
 clear hb 
 have ⟨k00, f00, k01, f01, k02, f02⟩ := HN.out.cf3 0 rfl
 go_wp2_with fail
 clear k00 f00 k01 f01 k02 f02
 refine (HON.out _ HD.out).mono ?_
 rintro e w2 ⟨rfl, hb⟩
 replace HX := Lib.hid (show RT w2 a n c x from HX.out.below hb HX.out.lt)
 replace HD := Lib.hid (show RT w2 b m d y from HD.out.below hb HD.out.lt)
 replace HN := Lib.hid (HN.out.call hb)
 clear hb 
 have ⟨k00, f00, k01, f01, k02, f02⟩ := HN.out.cf3 0 rfl
 have HE := Lib.hid (HN.out)
 go_wp2_with fail
 refine bodyPost_ret (v := .string st) (by simp [results, Tryz.results32, go_sem, k00, k01, k02]) rfl ?_
 exact ⟨rfl, HE.out.bel⟩
theorem f9text_pf (a b : Option Addr) (n c m d x y : Nat) (w : World) (h : RD w a n c x) (h2 : RD w b m d y) (st : ByteArray) (hst : st.size ≤ 21990232555521) (sd : ByteArray) (hsd : sd.size ≤ 21990232555521)
  (HTX : Hid (∀ W, RT W a n c x → Calls Tryz.prog 85 #[.slice a n c] W fun e w' => e = .returned (.string st) ∧ Below W.heap.size W w'))
  (HON : Hid (∀ W, RT W b m d y → Calls Tryz.prog 81 #[.slice b m d] W fun e w' => e = .returned (.bool false) ∧ Below W.heap.size W w'))
  (HTD : Hid (∀ W, RT W b m d y → Calls Tryz.prog 85 #[.slice b m d] W fun e w' => e = .returned (.string sd) ∧ Below W.heap.size W w')) :
  Calls Tryz.prog 32 #[.agg #[.bool false, .slice a n c, .slice b m d]] w fun e w' => e = .returned (.string (st ++ ByteArray.mk #[47] ++ sd)) ∧ Below w.heap.size w w' := by
 have hc0 : (st ++ ByteArray.mk #[47]).size = st.size + 1 := by rw [ByteArray.size_append]; rfl
 have hc1 : ¬ (9223372036854775807 < st.size + 1) := by omega
 have hc2 : ¬ (9223372036854775807 < (st ++ ByteArray.mk #[47]).size + sd.size) := by omega
 have hc3 : ¬ (9223372036854775807 < st.size + 1 + sd.size) := by omega
 clear hc0
 obtain ⟨W0, hW0⟩ : ∃ W0, W0 = (w.alloc (.cells #[.bool false, .slice a n c, .slice b m d] 60)) := ⟨_, rfl⟩
 have hbs : BS w [⟨w.heap.size, 60, [.bool false, .slice a n c, .slice b m d]⟩] [] (w.alloc (.cells #[.bool false, .slice a n c, .slice b m d] 60)) :=
   ((BS.start w).alloc (p := w.heap.size) rfl 60 [.bool false, .slice a n c, .slice b m d] rfl)
 rw [← hW0] at hbs
 have HW0 := Lib.hid hW0
 have HN := Lib.hid hbs
 clear hW0 hbs
 have HX := Lib.hid (show RT W0 a n c x from by rw [HW0.out]; exact (h.rt.below (belowBox _ _) trivial))
 clear h
 have HD := Lib.hid (show RT W0 b m d y from by rw [HW0.out]; exact (h2.rt.below (belowBox _ _) trivial))
 clear h2
 go_enter Tryz.func32, Tryz.ntmps32
 go_wp2_with fail
 rw [← HW0.out]
 refine (HTX.out _ HX.out).mono ?_
 rintro e w1 ⟨rfl, hb⟩
 replace HX := Lib.hid (show RT w1 a n c x from HX.out.below hb HX.out.lt)
 replace HD := Lib.hid (show RT w1 b m d y from HD.out.below hb HD.out.lt)
 replace HN := Lib.hid (HN.out.call hb)
 clear hb 
 have ⟨k00, f00, k01, f01, k02, f02⟩ := HN.out.cf3 0 rfl
 go_wp2_with fail
 clear k00 f00 k01 f01 k02 f02
 refine (HON.out _ HD.out).mono ?_
 rintro e w2 ⟨rfl, hb⟩
 replace HX := Lib.hid (show RT w2 a n c x from HX.out.below hb HX.out.lt)
 replace HD := Lib.hid (show RT w2 b m d y from HD.out.below hb HD.out.lt)
 replace HN := Lib.hid (HN.out.call hb)
 clear hb 
 have ⟨k00, f00, k01, f01, k02, f02⟩ := HN.out.cf3 0 rfl
 go_wp2_with fail
 clear k00 f00 k01 f01 k02 f02
 refine (HTD.out _ HD.out).mono ?_
 rintro e w3 ⟨rfl, hb⟩
 replace HX := Lib.hid (show RT w3 a n c x from HX.out.below hb HX.out.lt)
 replace HD := Lib.hid (show RT w3 b m d y from HD.out.below hb HD.out.lt)
 replace HN := Lib.hid (HN.out.call hb)
 clear hb 
 have ⟨k00, f00, k01, f01, k02, f02⟩ := HN.out.cf3 0 rfl
 have HE := Lib.hid (HN.out)
 go_wp2_with fail
 refine bodyPost_ret (v := .string (st ++ ByteArray.mk #[47] ++ sd)) (by simp [results, Tryz.results32, go_sem, k00, k01, k02]) rfl ?_
 exact ⟨rfl, HE.out.bel⟩
theorem textN_digs {x n : Nat} (h : nd x ≤ n) : (textN x).length ≤ 16 * n + 1 := by
 unfold textN
 split
 ·
  simp
 ·
  rw [List.length_map, dig_len]
  refine Nat.le_trans (ndig_lt (k := 16 * n) (by omega) ?_) (by omega)
  have h1 := lt_nd x
  have h2 : 65536 ^ nd x ≤ 65536 ^ n := Nat.pow_le_pow_right (by omega) h
  rw [show (65536 : Nat) = 2 ^ 16 from rfl, ← Nat.pow_mul, ← Nat.pow_mul] at h2
  rw [show (65536 : Nat) = 2 ^ 16 from rfl, ← Nat.pow_mul] at h1
  exact Nat.lt_of_lt_of_le (Nat.lt_of_lt_of_le h1 h2) (Nat.pow_le_pow_left (by omega) _)
theorem f9text (q : Rat) (a b : Option Addr) (n c m d : Nat) (w : World) (h : RD w a n c q.num.natAbs) (h2 : RD w b m d q.den) (hn : n ≤ 4294967296) (hm : m ≤ 4294967296) :
  Calls Tryz.prog 32 #[.agg #[.bool (decide (q.num < 0)), .slice a n c, .slice b m d]] w fun e w' => e = .returned (.string (strB (textR q))) ∧ Below w.heap.size w w' := by
 have hT := Lib.hid fun (W : World) (q1 : RT W a n c q.num.natAbs) => f2text a n c _ W q1 hn
 have hD := Lib.hid fun (W : World) (q1 : RT W b m d q.den) => f2text b m d _ W q1 hm
 have l1 : (strB (textN q.num.natAbs)).size ≤ 21990232555521 := by rw [str_size]; have := textN_digs (Nat.le_of_eq h.1.symm); omega
 have l2 : (strB (textN q.den)).size ≤ 21990232555521 := by rw [str_size]; have := textN_digs (Nat.le_of_eq h2.1.symm); omega
 have hO := fun (W : World) (q1 : RT W b m d q.den) => is_bl rfl (f9one b m d q.den W q1)
 have e47 : ∀ u l, strB u ++ ByteArray.mk #[47] ++ strB l = strB (u ++ 47 :: l) := fun u l => by
  rw [show (ByteArray.mk #[47]) = strB [47] from rfl, str_append, str_append]
  simp only [List.append_assoc, List.cons_append, List.nil_append]
 have e45 : ∀ l, ByteArray.mk #[45] ++ strB l = strB (45 :: l) := fun l => str_cons _ _
 unfold textR textZ
 by_cases hz : q.num < 0
 ·
  rw [decide_eq_true hz]
  simp only [if_pos hz]
  by_cases h1 : q.den = 1
  ·
   rw [if_pos h1]
   rw [decide_eq_true h1] at hO
   exact f9text_nw a b n c m d _ _ w h h2 _ l1 _ (e45 _) hT (Lib.hid hO)
  ·
   rw [if_neg h1, ← e47, ← e45]
   rw [decide_eq_false h1] at hO
   exact f9text_nf a b n c m d _ _ w h h2 _ l1 _ rfl _ l2 hT (Lib.hid hO) hD
 ·
  rw [decide_eq_false hz]
  simp only [if_neg hz]
  by_cases h1 : q.den = 1
  ·
   rw [if_pos h1]
   rw [decide_eq_true h1] at hO
   exact f9text_pw a b n c m d _ _ w h h2 _ l1 hT (Lib.hid hO)
  ·
   rw [if_neg h1, ← e47]
   rw [decide_eq_false h1] at hO
   exact f9text_pf a b n c m d _ _ w h h2 _ l1 _ l2 hT (Lib.hid hO) hD
end Go.Proofs.YtmhainidincjhaaGreatDoor
