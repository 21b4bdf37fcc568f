/-
  awake of actuarylaw26 answers true and leaves old memory as it was; the condition: what errors.errorType holds.
  Printed by a program of this repository (wip/frame4.py).
-/
import Derived.Test.YtamkappanknklaaDoorFr3
import Derived.Test.YtamkappanknklaaDoorKit
namespace Go.Proofs.YtamkappanknklaaDoor
open Go.RowKit Go.Extern.Stop Go.Stop Go.Extern

theorem Bytes.lit (W : World) (xs : List Int) (hm : xs.length ≤ maxLen) : Bytes (W.alloc (.cells (xs.map B8).toArray 5)) (.slice (some ⟨W.heap.size, 0, none⟩) xs.length xs.length) xs :=
  ⟨by simp, .inr ⟨W.heap.size, 0, xs.length, rfl, Nat.le_refl _, hm, by simp, fun j u hj => by simpa using hj⟩⟩
theorem split_a : split [0, 0, 0] = ([], [0, 0, 0], false) := by decide
theorem split_b : split [0, 0, 0, 2, 7, 8, 0] = ([[7, 8]], [0], false) := by decide
theorem split_c : split [0, 0, 0, 0] = ([], [], true) := by decide
theorem maxLen_ge {n : Nat} (h : n ≤ 4294967296) : n ≤ maxLen := by unfold maxLen; omega
theorem RowsV.stay {w w' : World} {H : Nat} {v : Value} {xss : List (List Int)} {vs : List Value} {S : Nat → Prop} (h : RowsV w H v xss vs) (hk : Keeps w w' S) (h1 : ∀ k, v.ownBlock = some k → ¬ S k) (h2 : ∀ x, x ∈ vs → ∀ k, x.ownBlock = some k → ¬ S k) : RowsV w' H v xss vs := by
  refine ⟨h.1.same fun k hv => hk.block k (h.1.lt k hv).2 (h1 k hv), fun i x hx => ?_⟩
  obtain ⟨xs, e, hb, ho, hl, hf⟩ := h.2 i x hx
  exact ⟨xs, e, Sl.keeps hb hk fun k _ hv => h2 x (List.mem_of_getElem? hx) k hv, ho, fun k hk2 => Nat.lt_of_lt_of_le (hl k hk2) hk.size, hf⟩

set_option maxRecDepth 100000 in
set_option maxHeartbeats 4000000 in
theorem awake_any (w : World) (hg : Hg w) : Calls Tryd.prog 8 #[] w (Yes w) := by
  have b0 : Bytes (w.alloc (.cells #[.int .u8 7, .int .u8 8] 5)) (.slice (some ⟨w.heap.size, 0, none⟩) 2 2) [7, 8] := Bytes.lit w [7, 8] (maxLen_ge (by decide))
  have HB0 := Lib.hid b0
  clear b0
  go_enter Tryd.func8, Tryd.ntmps8
  go_wp2_with fail
  refine (make_ok (some ⟨w.heap.size, 0, none⟩) 2 [7, 8] _ HB0.out (by decide) (by decide)).mono ?_
  rintro e w1 ⟨fa, fc, rfl, hf, hb1⟩
  have hB1 : Below w.heap.size w w1 := ((Below.refl w.heap.size w).alloc (Nat.le_refl _) _).trans (hb1.mono (by simp))
  have HF := Lib.hid hf
  have HW1 := Lib.hid hB1
  clear hf hb1 hB1
  go_wp2_with fail
  have hj0 := J.new w1 (fun k => k = w1.heap.size) rfl
  have hj1 : J ((w1.alloc (.cells #[.slice none 0 0, .bool false] 32)).alloc (.cells #[.int .u8 0, .int .u8 0, .int .u8 0] 5)) w1.heap.size (fun k => k = w1.heap.size) [] false := hj0.keeps (Keeps.alloc _ _ (fun _ => False)) (fun _ _ h => h)
  have hl1 : Bytes ((w1.alloc (.cells #[.slice none 0 0, .bool false] 32)).alloc (.cells #[.int .u8 0, .int .u8 0, .int .u8 0] 5)) (.slice (some ⟨w1.heap.size + 1, 0, none⟩) 3 3) [0, 0, 0] := by
    have := Bytes.lit (w1.alloc (.cells #[.slice none 0 0, .bool false] 32)) [0, 0, 0] (maxLen_ge (by decide))
    rw [World.size_alloc] at this
    exact this
  have HFEED := Lib.hid (feed_live w1.heap.size _ [] [0, 0, 0] _ _ hj1 hl1 (by simp [Byt]) (by decide))
  clear hj0 hj1 hl1
  refine HFEED.out.mono ?_
  rintro e w2 hp
  unfold FeedPost at hp
  rw [show (([] : List Int) ++ [0, 0, 0]) = [0, 0, 0] from rfl, split_a] at hp
  obtain ⟨oa, oc, ev, vs, F1, rfl, _, hj, hF1, _, _, hk, he⟩ := hp
  obtain rfl : ev = .nilIface := by rcases he with ⟨_, h⟩ | ⟨h, _⟩; exact h; cases h
  have hz2 : w1.heap.size + 1 < w2.heap.size := by have := hk.size; simp at this; omega
  have hk1 : Keeps w1 w2 (fun k => False) := ((Keeps.alloc w1 _ _).trans (Keeps.alloc _ _ (fun _ => False)) (fun _ _ h => h)).trans hk (fun b hb h => by omega)
  have HF1 := Lib.hid (show ∀ k, F1 k → w1.heap.size ≤ k from fun k h => by rcases hF1 k h with h | h; omega; simp at h; omega)
  have HF2 := Lib.hid (HF.out.same (w' := w2) fun k h => hk1.block k (HF.out.lt k h).2 (fun h => h))
  have HFB := Lib.hid HF.out.lt
  have HW2 := Lib.hid (HW1.out.trans ((hk1.below (Nat.le_refl _) (fun _ h => h.elim)).mono HW1.out.size))
  have HJ2 := Lib.hid hj
  clear hk hk1 hj hF1 he HFEED
  dsimp only [List.length_nil]
  go_wp2_with fail
  have hj2 : J (w2.alloc (.cells #[.int .u8 2, .int .u8 7, .int .u8 8, .int .u8 0] 5)) w1.heap.size F1 [0, 0, 0] false := HJ2.out.keeps (Keeps.alloc _ _ (fun _ => False)) (fun _ _ h => h)
  have HFEED := Lib.hid (feed_live w1.heap.size _ [0, 0, 0] [2, 7, 8, 0] _ _ hj2 (Bytes.lit w2 [2, 7, 8, 0] (maxLen_ge (by decide))) (by simp [Byt]) (by decide))
  clear hj2
  refine HFEED.out.mono ?_
  rintro e w3 hp
  unfold FeedPost at hp
  rw [show (([0, 0, 0] : List Int) ++ [2, 7, 8, 0]) = [0, 0, 0, 2, 7, 8, 0] from rfl, split_b] at hp
  obtain ⟨ba, bc, ev, bvs, F2, rfl, hr, hj, hF2, hn1, hn2, hk, he⟩ := hp
  obtain rfl : ev = .nilIface := by rcases he with ⟨_, h⟩ | ⟨h, _⟩; exact h; cases h
  have hz3 : w2.heap.size < w3.heap.size := by have := hk.size; simp at this; omega
  have hk2 : Keeps w2 w3 F1 := (Keeps.alloc w2 _ _).trans hk (fun _ _ h => h)
  have HFF2 := Lib.hid (show ∀ k, F2 k → w1.heap.size ≤ k from fun k h => by rcases hF2 k h with h | h; exact HF1.out k h; simp at h; omega)
  have HF3 := Lib.hid (HF2.out.same (w' := w3) fun k h => hk2.block k (HF2.out.lt k h).2 (fun h2 => by have := HF1.out k h2; have := (HFB.out k h).2; omega))
  have HW3 := Lib.hid (HW2.out.trans (hk2.below (B := w.heap.size) (by have := HW2.out.size; omega) (fun k h => by have := HF1.out k h; have := HW1.out.size; omega)))
  have HJ3 := Lib.hid hj
  have HR3 := Lib.hid hr
  have HN1 := Lib.hid hn1
  have HN2 := Lib.hid hn2
  clear hk hk2 hj hF2 he HFEED hr hn1 hn2
  dsimp only [List.length_nil, List.length_cons]
  go_wp2_with fail
  refine (left_any w1.heap.size F2 [0] false _ HJ3.out).mono ?_
  rintro e w' ⟨rfl, rfl⟩
  dsimp only [List.length_nil, List.length_cons]
  go_wp2_with fail
  have hj3 : J (w'.alloc (.cells #[.int .u8 0, .int .u8 0, .int .u8 0] 5)) w1.heap.size F2 [0] false := HJ3.out.keeps (Keeps.alloc _ _ (fun _ => False)) (fun _ _ h => h)
  have HFEED := Lib.hid (feed_live w1.heap.size _ [0] [0, 0, 0] _ _ hj3 (Bytes.lit w' [0, 0, 0] (maxLen_ge (by decide))) (by simp [Byt]) (by decide))
  clear hj3
  refine HFEED.out.mono ?_
  rintro e w4 hp
  unfold FeedPost at hp
  rw [show (([0] : List Int) ++ [0, 0, 0]) = [0, 0, 0, 0] from rfl, split_c] at hp
  obtain ⟨ca, cc, ev, cvs, F3, rfl, _, hj, hF3, _, _, hk, he⟩ := hp
  obtain ⟨fb, rfl, hx⟩ : ∃ fb, ev = eF fb ∧ IsF w4 fb ⟨#[102, 114, 97, 109, 101]⟩ 0 260 := by rcases he with ⟨h, _⟩ | ⟨_, fb, h1, h2, _⟩; cases h; exact ⟨fb, h1, h2⟩
  have hz4 : w'.heap.size < w4.heap.size := by have := hk.size; simp at this; omega
  have hk3 : Keeps w' w4 F2 := (Keeps.alloc w' _ _).trans hk (fun _ _ h => h)
  have HF4 := Lib.hid (HF3.out.same (w' := w4) fun k h => hk3.block k (HF3.out.lt k h).2 (fun h2 => by have := HFF2.out k h2; have := (HFB.out k h).2; omega))
  have HW4 := Lib.hid (HW3.out.trans (hk3.below (B := w.heap.size) (by have := HW3.out.size; omega) (fun k h => by have := HFF2.out k h; have := HW1.out.size; omega)))
  have HR4 := Lib.hid (HR3.out.stay hk3 HN1.out HN2.out)
  have HJ4 := Lib.hid hj
  have HX4 := Lib.hid hx
  clear hk hk3 hj hF3 he HFEED hx
  dsimp only [List.length_nil, List.length_cons]
  go_wp2_with fail
  have hj4 : J (w4.alloc (.cells #[.int .u8 1] 5)) w1.heap.size F3 [] true := HJ4.out.keeps (Keeps.alloc _ _ (fun _ => False)) (fun _ _ h => h)
  have HJ5 := Lib.hid hj4
  refine (feed_dead w1.heap.size F3 [] _ _ hj4).mono ?_
  clear hj4
  rintro e w5 ⟨rfl, hw5⟩
  have hb5 : Below w4.heap.size w4 w5 := by rw [hw5]; exact (Below.refl _ _).alloc (Nat.le_refl _) _
  have HJ6 := Lib.hid (show J w5 w1.heap.size F3 [] true by rw [hw5]; exact HJ5.out)
  clear hw5
  have HW5 := Lib.hid (HW4.out.trans (hb5.mono HW4.out.size))
  have hg5 := hg.below HW5.out hg.lt
  have hbf : Bytes w5 (.slice fa (frameOf [7, 8]).length fc) (frameOf [7, 8]) := Sl.below (Sl.ofMid HF4.out) hb5
  have hcf := conv_bytes hbf
  have HR5 := Lib.hid (HR4.out.stay (Keeps.of_below hb5 (S := fun k => w4.heap.size ≤ k ∧ k < w4.heap.size) (fun b h1 h2 => ⟨h1, h2⟩)) (fun k _ h => by omega) (fun x _ k _ h => by omega))
  obtain ⟨bg, bo, x, bxs, rfl, hbx, hb0, hbb⟩ := (RowsR.ofV HR5.out).get 0 (by decide)
  obtain rfl : [7, 8] = bxs := by simpa using hb0
  have hcb := conv_bytes hbb
  have e1 : strOf (frameOf [7, 8]) = ⟨#[0, 0, 0, 2, 7, 8]⟩ := by decide +kernel
  have e2 : strOf [7, 8] = ⟨#[7, 8]⟩ := by decide +kernel
  rw [e1] at hcf
  rw [e2] at hcb
  have HX5 := Lib.hid (HX4.out.below hb5 HX4.out.lt)
  have hl6 : (frameOf [7, 8]).length = 6 := by decide
  rw [hl6] at hcf ⊢
  rw [Nat.add_zero] at hbx
  unfold eF eE
  clear hb5 hbf hbb hb0 e1 e2 hl6
  go_wp2_with fail
  refine (told_F fb 260 260 0 0 _ _ _ hg5 HX5.out rfl rfl rfl (by rw [ByteArray.toList_eq]; simp)).mono ?_
  rintro e w6 ⟨rfl, hb6⟩
  have hJ7 := HJ6.out.keeps (Keeps.of_below hb6 (S := fun k => w5.heap.size ≤ k ∧ k < w5.heap.size) (fun b h1 h2 => ⟨h1, h2⟩)) (fun k _ h => by omega)
  have hg6 := hg5.below hb6 hg5.lt
  have HW6 := Lib.hid (HW5.out.trans (hb6.mono HW5.out.size))
  have HJ7 := Lib.hid hJ7
  clear hb6 hcf hcb hbx hJ7
  go_wp2_with fail
  refine (dead_any w1.heap.size F3 [] true _ HJ7.out).mono ?_
  rintro e w' ⟨rfl, rfl⟩
  go_wp2_with fail
  refine (told_E 300 300 0 _ _ hg6 rfl (by rw [ByteArray.toList_eq])).mono ?_
  rintro e w7 ⟨rfl, hb7⟩
  have HW7 := Lib.hid (HW6.out.trans (hb7.mono HW6.out.size))
  clear hb7
  go_wp2
  go_ret
  exact ⟨rfl, HW7.out⟩

end Go.Proofs.YtamkappanknklaaDoor
