/-
  The walk of QueueNews: it answers true; the conditions: what errors.errorType holds.
  Printed by a program of this repository (wip/qu11.py).
-/
import Derived.Test.YtkbopcgijaejjaaDoorAwake
namespace Go.Proofs.YtkbopcgijaejjaaDoor
open Go.RowKit Go.Extern.Stop Go.Stop Go.Extern

theorem busy_new (N : Nat) (m : Int) : busyB (List.replicate N false) m = false := by
  unfold busyB
  simp only [List.getD_eq_getElem?_getD, List.getElem?_replicate]
  split <;> simp
set_option maxRecDepth 100000 in
set_option maxHeartbeats 4000000 in
theorem queueNews_any (n m t s : Int) (w : World) (hg : Hg w) : Calls Tryd.prog 7 #[.int .i64 n, .int .i64 m, .agg #[.int .i64 t, .int .i64 s]] w (Yes w) := by
  have HAW := Lib.hid (awake_any (w.alloc (.cells #[.int .i64 t, .int .i64 s] 29)) (hg.alloc _))
  have HB0 := Lib.hid (show Below w.heap.size w (w.alloc (.cells #[.int .i64 t, .int .i64 s] 29)) from (Below.refl _ _).alloc (Nat.le_refl _) _)
  by_cases hr : n < 1 ∨ 64 < n
  · have HR := Lib.hid hr
    have HG := Lib.hid (hg.alloc (.cells #[.int .i64 t, .int .i64 s] 29))
    by_cases h1 : n < 1
    · clear hr hg
      go_enter Tryd.func7, Tryd.ntmps7
      go_wp2_with fail
      refine HAW.out.mono ?_
      rintro e w1 ⟨rfl, hb1⟩
      have HB1 := Lib.hid hb1
      clear hb1
      go_wp2_with fail
      refine (new_arg n w1 HR.out).mono ?_
      rintro e w2 ⟨rfl, rfl⟩
      unfold eE
      go_wp2_with fail
      refine (told_E 1 1 0 ⟨#[]⟩ _ (HG.out.below HB1.out HG.out.lt) rfl (by rw [ByteArray.toList_eq])).mono ?_
      rintro e w3 ⟨rfl, hb3⟩
      have HB3 := Lib.hid hb3
      clear hb3
      go_wp2
      go_ret
      exact ⟨rfl, (HB0.out.trans (HB1.out.mono HB0.out.size)).trans (HB3.out.mono (HB0.out.trans (HB1.out.mono HB0.out.size)).size)⟩
    · have h2 : 64 < n := by omega
      clear hr hg
      go_enter Tryd.func7, Tryd.ntmps7
      go_wp2_with fail
      refine HAW.out.mono ?_
      rintro e w1 ⟨rfl, hb1⟩
      have HB1 := Lib.hid hb1
      clear hb1
      go_wp2_with fail
      refine (new_arg n w1 HR.out).mono ?_
      rintro e w2 ⟨rfl, rfl⟩
      unfold eE
      go_wp2_with fail
      refine (told_E 1 1 0 ⟨#[]⟩ _ (HG.out.below HB1.out HG.out.lt) rfl (by rw [ByteArray.toList_eq])).mono ?_
      rintro e w3 ⟨rfl, hb3⟩
      have HB3 := Lib.hid hb3
      clear hb3
      go_wp2
      go_ret
      exact ⟨rfl, (HB0.out.trans (HB1.out.mono HB0.out.size)).trans (HB3.out.mono (HB0.out.trans (HB1.out.mono HB0.out.size)).size)⟩
  · obtain ⟨N, rfl⟩ := Int.eq_ofNat_of_zero_le (show 0 ≤ n by omega)
    have HN1 := Lib.hid (show 1 ≤ N by omega)
    have HN2 := Lib.hid (show N ≤ 64 by omega)
    have h1 : ¬ (N : Int) < 1 := by omega
    have h2 : ¬ 64 < (N : Int) := by omega
    by_cases hx : m < 0 ∨ (N : Int) ≤ m
    · have HX := Lib.hid (show m < 0 ∨ ((List.replicate N ((0 : Int), (0 : Int))).length : Int) ≤ m by rw [List.length_replicate]; exact hx)
      by_cases h3 : m < 0
      · have h3' : ¬ 0 ≤ m := by omega
        clear hr hx hg
        go_enter Tryd.func7, Tryd.ntmps7
        go_wp2_with fail
        refine HAW.out.mono ?_
        rintro e w1 ⟨rfl, hb1⟩
        have HB1 := Lib.hid (HB0.out.trans (hb1.mono HB0.out.size))
        have y0 : w1.cell? ⟨w.heap.size, 0, none⟩ = some (.int .i64 t) := (hb1.cell (p := ⟨w.heap.size, 0, none⟩) (by simp)).trans (by simp)
        have y1 : w1.cell? ⟨w.heap.size, 1, none⟩ = some (.int .i64 s) := (hb1.cell (p := ⟨w.heap.size, 1, none⟩) (by simp)).trans (by simp)
        have hlt1 : w.heap.size < w1.heap.size := by have := hb1.size; simp at this; omega
        have Y0 := Lib.hid y0
        have Y1 := Lib.hid y1
        clear hb1 y0 y1
        go_wp2_with fail
        refine (new_ok N w1 HN1.out HN2.out).mono ?_
        rintro e w2 ⟨qb, F, rfl, hq, _, hb2⟩
        have HQ2 := Lib.hid hq
        have HB2 := Lib.hid hb2
        clear hq hb2
        go_wp2_with fail
        refine (begin_arg qb F [] (List.replicate N (0, 0)) (List.replicate N false) m 0 w2 HQ2.out (by simp) HX.out).mono ?_
        rintro e w3 ⟨rfl, hb3⟩
        have HB3 := Lib.hid (HB2.out.trans (hb3.mono HB2.out.size))
        have HQ3 := Lib.hid (HQ2.out.below hb3)
        clear hb3
        unfold eE
        go_wp2_with fail
        refine (end_arg qb F [] (List.replicate N (0, 0)) (List.replicate N false) m w3 HQ3.out HX.out).mono ?_
        rintro e w4 ⟨rfl, hb4⟩
        have hb34 := HB3.out.trans (hb4.mono HB3.out.size)
        have HB4 := Lib.hid (hb34.alloc hb34.size (.cells #[.int .i64 0, .int .i64 0] 29))
        have HQ4 := Lib.hid ((HQ3.out.below hb4).below ((Below.refl _ _).alloc (Nat.le_refl _) (.cells #[.int .i64 0, .int .i64 0] 29)))
        clear hb4 hb34 
        unfold eE
        go_wp2_with fail
        refine (isE_same 1 1 _ rfl).mono ?_
        rintro e w5 ⟨rfl, rfl⟩
        go_wp2_with fail
        refine (isE_same 1 1 _ rfl).mono ?_
        rintro e w6 ⟨rfl, rfl⟩
        go_wp2_with fail
        refine (all_any qb F [] (List.replicate N (0, 0)) (List.replicate N false) _ HQ4.out (by simp [allN])).mono ?_
        rintro e w7 ⟨rfl, hb7⟩
        have HB7 := Lib.hid (HB4.out.trans (hb7.mono HB4.out.size))
        have HQ7 := Lib.hid (HQ4.out.below hb7)
        have k0 := (HB7.out.cell (p := ⟨w.heap.size, 0, none⟩) hlt1).trans Y0.out
        have k1 := (HB7.out.cell (p := ⟨w.heap.size, 1, none⟩) hlt1).trans Y1.out
        clear hb7
        rw [show allN [] = 0 from rfl]
        go_wp2_with fail
        refine (len_any qb F [] (List.replicate N (0, 0)) (List.replicate N false) t s _ HQ7.out).mono ?_
        rintro e w8 ⟨rfl, hb8⟩
        have HB8 := Lib.hid (HB7.out.trans (hb8.mono HB7.out.size))
        have HQ8 := Lib.hid (HQ7.out.below hb8)
        clear hb8 k0 k1
        rw [show lenV [] t s = 0 from rfl]
        go_wp2_with fail
        refine (busy_any qb F [] (List.replicate N (0, 0)) (List.replicate N false) m _ HQ8.out).mono ?_
        rintro e w9 ⟨rfl, rfl⟩
        rw [busy_new]
        go_wp2_with fail
        refine (ready_any qb F [] (List.replicate N (0, 0)) (List.replicate N false) w8 HQ8.out (by simp)).mono ?_
        rintro e w10 ⟨a, c, rfl, _, hb10⟩
        have HB10 := Lib.hid (HB8.out.trans (hb10.mono HB8.out.size))
        clear hb10
        rw [show (readyK []).length = 0 from rfl]
        go_wp2
        go_ret
        exact ⟨rfl, HB1.out.trans (HB10.out.mono HB1.out.size)⟩
      · have h3' : 0 ≤ m := by omega
        have h4 : ¬ m < (N : Int) := by omega
        clear hr hx hg
        go_enter Tryd.func7, Tryd.ntmps7
        go_wp2_with fail
        refine HAW.out.mono ?_
        rintro e w1 ⟨rfl, hb1⟩
        have HB1 := Lib.hid (HB0.out.trans (hb1.mono HB0.out.size))
        have y0 : w1.cell? ⟨w.heap.size, 0, none⟩ = some (.int .i64 t) := (hb1.cell (p := ⟨w.heap.size, 0, none⟩) (by simp)).trans (by simp)
        have y1 : w1.cell? ⟨w.heap.size, 1, none⟩ = some (.int .i64 s) := (hb1.cell (p := ⟨w.heap.size, 1, none⟩) (by simp)).trans (by simp)
        have hlt1 : w.heap.size < w1.heap.size := by have := hb1.size; simp at this; omega
        have Y0 := Lib.hid y0
        have Y1 := Lib.hid y1
        clear hb1 y0 y1
        go_wp2_with fail
        refine (new_ok N w1 HN1.out HN2.out).mono ?_
        rintro e w2 ⟨qb, F, rfl, hq, _, hb2⟩
        have HQ2 := Lib.hid hq
        have HB2 := Lib.hid hb2
        clear hq hb2
        go_wp2_with fail
        refine (begin_arg qb F [] (List.replicate N (0, 0)) (List.replicate N false) m 0 w2 HQ2.out (by simp) HX.out).mono ?_
        rintro e w3 ⟨rfl, hb3⟩
        have HB3 := Lib.hid (HB2.out.trans (hb3.mono HB2.out.size))
        have HQ3 := Lib.hid (HQ2.out.below hb3)
        clear hb3
        unfold eE
        go_wp2_with fail
        refine (end_arg qb F [] (List.replicate N (0, 0)) (List.replicate N false) m w3 HQ3.out HX.out).mono ?_
        rintro e w4 ⟨rfl, hb4⟩
        have hb34 := HB3.out.trans (hb4.mono HB3.out.size)
        have HB4 := Lib.hid (hb34.alloc hb34.size (.cells #[.int .i64 0, .int .i64 0] 29))
        have HQ4 := Lib.hid ((HQ3.out.below hb4).below ((Below.refl _ _).alloc (Nat.le_refl _) (.cells #[.int .i64 0, .int .i64 0] 29)))
        clear hb4 hb34 
        unfold eE
        go_wp2_with fail
        refine (isE_same 1 1 _ rfl).mono ?_
        rintro e w5 ⟨rfl, rfl⟩
        go_wp2_with fail
        refine (isE_same 1 1 _ rfl).mono ?_
        rintro e w6 ⟨rfl, rfl⟩
        go_wp2_with fail
        refine (all_any qb F [] (List.replicate N (0, 0)) (List.replicate N false) _ HQ4.out (by simp [allN])).mono ?_
        rintro e w7 ⟨rfl, hb7⟩
        have HB7 := Lib.hid (HB4.out.trans (hb7.mono HB4.out.size))
        have HQ7 := Lib.hid (HQ4.out.below hb7)
        have k0 := (HB7.out.cell (p := ⟨w.heap.size, 0, none⟩) hlt1).trans Y0.out
        have k1 := (HB7.out.cell (p := ⟨w.heap.size, 1, none⟩) hlt1).trans Y1.out
        clear hb7
        rw [show allN [] = 0 from rfl]
        go_wp2_with fail
        refine (len_any qb F [] (List.replicate N (0, 0)) (List.replicate N false) t s _ HQ7.out).mono ?_
        rintro e w8 ⟨rfl, hb8⟩
        have HB8 := Lib.hid (HB7.out.trans (hb8.mono HB7.out.size))
        have HQ8 := Lib.hid (HQ7.out.below hb8)
        clear hb8 k0 k1
        rw [show lenV [] t s = 0 from rfl]
        go_wp2_with fail
        refine (busy_any qb F [] (List.replicate N (0, 0)) (List.replicate N false) m _ HQ8.out).mono ?_
        rintro e w9 ⟨rfl, rfl⟩
        rw [busy_new]
        go_wp2_with fail
        refine (ready_any qb F [] (List.replicate N (0, 0)) (List.replicate N false) w8 HQ8.out (by simp)).mono ?_
        rintro e w10 ⟨a, c, rfl, _, hb10⟩
        have HB10 := Lib.hid (HB8.out.trans (hb10.mono HB8.out.size))
        clear hb10
        rw [show (readyK []).length = 0 from rfl]
        go_wp2
        go_ret
        exact ⟨rfl, HB1.out.trans (HB10.out.mono HB1.out.size)⟩
    · have HX := Lib.hid (show 0 ≤ m ∧ m < (N : Int) by omega)
      have h3 : 0 ≤ m := by omega
      have h4 : m < (N : Int) := by omega
      clear hr hx hg
      go_enter Tryd.func7, Tryd.ntmps7
      go_wp2_with fail
      refine HAW.out.mono ?_
      rintro e w1 ⟨rfl, hb1⟩
      have HB1 := Lib.hid (HB0.out.trans (hb1.mono HB0.out.size))
      have y0 : w1.cell? ⟨w.heap.size, 0, none⟩ = some (.int .i64 t) := (hb1.cell (p := ⟨w.heap.size, 0, none⟩) (by simp)).trans (by simp)
      have y1 : w1.cell? ⟨w.heap.size, 1, none⟩ = some (.int .i64 s) := (hb1.cell (p := ⟨w.heap.size, 1, none⟩) (by simp)).trans (by simp)
      have hlt1 : w.heap.size < w1.heap.size := by have := hb1.size; simp at this; omega
      have Y0 := Lib.hid y0
      have Y1 := Lib.hid y1
      clear hb1 y0 y1
      go_wp2_with fail
      refine (new_ok N w1 HN1.out HN2.out).mono ?_
      rintro e w2 ⟨qb, F, rfl, hq, _, hb2⟩
      have HQ2 := Lib.hid hq
      have HB2 := Lib.hid hb2
      clear hq hb2
      go_wp2_with fail
      refine (begin_idle qb F [] (List.replicate N (0, 0)) (List.replicate N false) m 0 w2 HQ2.out (by simp) (by simp) HX.out.1 (by rw [List.length_replicate]; exact HX.out.2) (busy_new N m) rfl).mono ?_
      rintro e w3 ⟨pb, rfl, hf3, hb3, _⟩
      have HB3 := Lib.hid (HB2.out.trans (hb3.mono HB2.out.size))
      have HQ3 := Lib.hid (HQ2.out.below hb3)
      clear hb3
      unfold eF
      go_wp2_with fail
      refine (end_idle qb F [] (List.replicate N (0, 0)) (List.replicate N false) m w3 HQ3.out (by simp) HX.out.1 (by rw [List.length_replicate]; exact HX.out.2) (busy_new N m)).mono ?_
      rintro e w4 ⟨pc, rfl, hf4, hb4, _⟩
      have hf34 := hf3.below hb4 hf3.lt
      have b5 : Below w4.heap.size w4 (w4.alloc (.cells #[.int .i64 0, .int .i64 0] 29)) := (Below.refl _ _).alloc (Nat.le_refl _) _
      have HI1 := Lib.hid (hf34.below b5 hf34.lt).2.2
      have HI2 := Lib.hid (hf4.below b5 hf4.lt).2.2
      have hb34 := HB3.out.trans (hb4.mono HB3.out.size)
      have HB4 := Lib.hid (hb34.alloc hb34.size (.cells #[.int .i64 0, .int .i64 0] 29))
      have HQ4 := Lib.hid ((HQ3.out.below hb4).below ((Below.refl _ _).alloc (Nat.le_refl _) (.cells #[.int .i64 0, .int .i64 0] 29)))
      clear hb4 hb34 hf3 hf34 b5 hf4
      unfold eF
      go_wp2_with fail
      refine (isFE_same pb 301 301 _ rfl HI1.out).mono ?_
      rintro e w5 ⟨rfl, rfl⟩
      go_wp2_with fail
      refine (isFE_same pc 301 301 _ rfl HI2.out).mono ?_
      rintro e w6 ⟨rfl, rfl⟩
      go_wp2_with fail
      refine (all_any qb F [] (List.replicate N (0, 0)) (List.replicate N false) _ HQ4.out (by simp [allN])).mono ?_
      rintro e w7 ⟨rfl, hb7⟩
      have HB7 := Lib.hid (HB4.out.trans (hb7.mono HB4.out.size))
      have HQ7 := Lib.hid (HQ4.out.below hb7)
      have k0 := (HB7.out.cell (p := ⟨w.heap.size, 0, none⟩) hlt1).trans Y0.out
      have k1 := (HB7.out.cell (p := ⟨w.heap.size, 1, none⟩) hlt1).trans Y1.out
      clear hb7
      rw [show allN [] = 0 from rfl]
      go_wp2_with fail
      refine (len_any qb F [] (List.replicate N (0, 0)) (List.replicate N false) t s _ HQ7.out).mono ?_
      rintro e w8 ⟨rfl, hb8⟩
      have HB8 := Lib.hid (HB7.out.trans (hb8.mono HB7.out.size))
      have HQ8 := Lib.hid (HQ7.out.below hb8)
      clear hb8 k0 k1
      rw [show lenV [] t s = 0 from rfl]
      go_wp2_with fail
      refine (busy_any qb F [] (List.replicate N (0, 0)) (List.replicate N false) m _ HQ8.out).mono ?_
      rintro e w9 ⟨rfl, rfl⟩
      rw [busy_new]
      go_wp2_with fail
      refine (ready_any qb F [] (List.replicate N (0, 0)) (List.replicate N false) w8 HQ8.out (by simp)).mono ?_
      rintro e w10 ⟨a, c, rfl, _, hb10⟩
      have HB10 := Lib.hid (HB8.out.trans (hb10.mono HB8.out.size))
      clear hb10
      rw [show (readyK []).length = 0 from rfl]
      go_wp2
      go_ret
      exact ⟨rfl, HB1.out.trans (HB10.out.mono HB1.out.size)⟩

end Go.Proofs.YtkbopcgijaejjaaDoor
