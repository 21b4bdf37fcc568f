/-
  What the laws of a store stand on, part V: contracts and plain laws of RCells, RCells, RCells, SBits; the conditions are each law's own.
-/
import Derived.Test.YtaehklhbokocbaaGreatDoorZR
import Derived.Test.YtaehklhbokocbaaGreatDoorZC
set_option linter.unusedVariables false
set_option linter.unusedSimpArgs false
namespace Go.Proofs.YtaehklhbokocbaaGreatDoor
open Go.RowKit Go.Extern.Stop Go.Stop Go.Extern
theorem findC_hit {row col : Int} {l : List RC} {k : Nat} (hk : k < l.length) (h1 : l[k].row = row) (h2 : l[k].col = col) (h0 : ∀ j (hj : j < k), ¬ (l[j].row = row ∧ l[j].col = col)) : findC row col l = l[k].v := by
  unfold findC
  have h : l.find? (fun x => decide (x.row = row) && decide (x.col = col)) = some l[k] := by
    refine List.find?_eq_some_iff_getElem.2 ⟨by simp [h1, h2], k, hk, rfl, fun j hj => ?_⟩
    have := h0 j hj
    by_cases e : l[j].row = row
    · simp [e]; exact fun h => this ⟨e, h⟩
    · simp [e]
  rw [h]
theorem findC_none {row col : Int} {l : List RC} (h0 : ∀ j (hj : j < l.length), ¬ (l[j].row = row ∧ l[j].col = col)) : findC row col l = (0, 1) := by
  unfold findC
  have h : l.find? (fun x => decide (x.row = row) && decide (x.col = col)) = none := by
    refine List.find?_eq_none.2 fun x hx => ?_
    obtain ⟨j, hj, rfl⟩ := List.mem_iff_getElem.1 hx
    have := h0 j hj
    by_cases e : l[j].row = row
    · simp [e]; exact fun h => this ⟨e, h⟩
    · simp [e]
  rw [h]
set_option maxRecDepth 100000 in
set_option maxHeartbeats 8000000 in
theorem r_coef (rb : Nat) (H : Nat → Prop) (m : RM) (row col : Int) (w : World) (hr : RB w rb H m) :
    Calls Tryz.prog 66 #[.pointer (some ⟨rb, 0, none⟩), .int .i64 row, .int .i64 col] w fun e w' => e = .returned (.agg #[.int .i64 (findC row col m.cells).1, .int .i64 (findC row col m.cells).2]) ∧ Below w.heap.size w w' := by
  obtain ⟨h, hq, -⟩ := hr
  have hlen := (RBx.sl5 hq).lenI
  have hrl := lt_of_block hq.1
  have c5 := RBx.c5 hq
  have HSL := Lib.hid (RBx.sl5 hq)
  clear hq
  obtain ⟨w0, hw0⟩ : ∃ w0, w.alloc (.cells #[.int .i64 0, .int .i64 0] 97) = w0 := ⟨_, rfl⟩
  have hb0 : Below w.heap.size w w0 := by rw [← hw0]; exact belowBox w _
  have hz : w.heap.size < w0.heap.size := by rw [← hw0]; simp
  have q0 : w0.cell? ⟨w.heap.size, 0, none⟩ = some (.int .i64 0) := by rw [← hw0]; simp
  have q1 : w0.cell? ⟨w.heap.size, 1, none⟩ = some (.int .i64 0) := by rw [← hw0]; simp
  have qf : ∀ j, w0.frozen? ⟨w.heap.size, j, none⟩ = false := by intro j; rw [← hw0]; simp
  have HB0 := Lib.hid hb0
  clear hb0
  go_enter Tryz.func66, Tryz.ntmps66
  go_wp2_with fail
  (try simp only [hw0])
  clear hw0
  go_loopw [7] (fun iv wr => ∃ (k : Nat), k ≤ m.cells.length ∧ iv = .int .i64 k ∧ (∀ j (hj : j < m.cells.length), j < k → ¬ (m.cells[j].row = row ∧ m.cells[j].col = col)) ∧ Below w0.heap.size w0 wr) (fun iv _ => m.cells.length - (intOf iv).toNat)
  case atStart => exact ⟨0, Nat.zero_le _, rfl, fun j _ hj => by omega, Below.refl _ _⟩
  case round =>
    obtain ⟨k, hk, rfl, hn, hb⟩ := hrel
    have hbw := bthen HB0.out hb
    have d5 := (hbw.cell (p := ⟨rb, 5, none⟩) hrl).trans c5
    have r0 := (hb.cell (p := ⟨w.heap.size, 0, none⟩) hz).trans q0
    have r1 := (hb.cell (p := ⟨w.heap.size, 1, none⟩) hz).trans q1
    have f0 := (hb.frozen (p := ⟨w.heap.size, 0, none⟩) hz).trans (qf 0)
    have f1 := (hb.frozen (p := ⟨w.heap.size, 1, none⟩) hz).trans (qf 1)
    have HBW := Lib.hid hbw
    by_cases hlt : k < m.cells.length
    · obtain ⟨b, o, e1, hbl, k0, k1, k2, k3⟩ := cell_get (HSL.out.below hbw) k hlt hlt
      rw [e1] at d5
      obtain ⟨⟨xr, xc, x1, x2⟩, hx⟩ : ∃ x, m.cells[k] = x := ⟨_, rfl⟩
      rw [hx] at k0 k1 k2 k3
      dsimp only at k0 k1 k2 k3
      have i0' : (0 : Int) ≤ (k : Int) := by omega
      have i1 : (k : Int) < (m.cells.length : Int) := by omega
      have HB := Lib.hid hb
      have HN := Lib.hid hn
      have HX := Lib.hid hx
      clear e1 hbw hb hn hx
      by_cases hc1 : xr = row
      · by_cases hc2 : xc = col
        · have HE := Lib.hid (show findC row col m.cells = (x1, x2) by rw [findC_hit hlt (by rw [HX.out]; exact hc1) (by rw [HX.out]; exact hc2) (fun j hj => HN.out j (by omega) hj), HX.out])
          go_wp2_with fail
          refine bodyPost_ret (v := .agg #[.int .i64 x1, .int .i64 x2]) (by simp [results, Tryz.results66, go_sem, r0, r1]) rfl ?_
          rw [HE.out]
          exact ⟨rfl, (HBW.out.setCell (Nat.le_refl _) _).setCell (Nat.le_refl _) _⟩
        · go_wp2_with fail
          go_roundw
          case rel =>
            refine ⟨k + 1, by omega, by go_num, fun j hj hjk => ?_, HB.out⟩
            by_cases e : j = k
            · subst e; rw [HX.out]; exact fun h => hc2 h.2
            · exact HN.out j hj (by omega)
          case measure => simp [intOf]; omega
      · go_wp2_with fail
        go_roundw
        case rel =>
          refine ⟨k + 1, by omega, by go_num, fun j hj hjk => ?_, HB.out⟩
          by_cases e : j = k
          · subst e; rw [HX.out]; exact fun h => hc1 h.1
          · exact HN.out j hj (by omega)
        case measure => simp [intOf]; omega
    · obtain rfl : k = m.cells.length := by omega
      have HE := Lib.hid (findC_none (fun j hj => hn j hj hj))
      clear hb hn hbw
      go_wp2_with fail
      refine bodyPost_ret (v := .agg #[.int .i64 0, .int .i64 1]) (by simp [results, Tryz.results66, go_sem, r0, r1]) rfl ?_
      rw [HE.out]
      exact ⟨rfl, (HBW.out.setCell (Nat.le_refl _) _).setCell (Nat.le_refl _) _⟩
end Go.Proofs.YtaehklhbokocbaaGreatDoor
namespace Go.Proofs.YtaehklhbokocbaaGreatDoor
open Go.RowKit
set_option maxHeartbeats 2000000 in
theorem size2_any (v : Rv) (w : World) (h : v.ok w) (hs : v.small) : Calls Tryz.prog 65 #[.agg #[.bool v.s, .slice v.a v.l v.c, .slice v.b v.m v.d]] w fun e w' => e = .returned (.int .i64 (sizeQ v.q)) ∧ Below w.heap.size w w' := by
  have hZ := rv_zero v _ (h.below (belowBox w (.cells #[.bool v.s, .slice v.a v.l v.c, .slice v.b v.m v.d] 51)))
  have HB := Lib.hid (fun (W : World) (q : v.ok W) => rv_bits v W q hs)
  have HV := Lib.hid (h.below (belowBox w (.cells #[.bool v.s, .slice v.a v.l v.c, .slice v.b v.m v.d] 51)))
  unfold sizeQ
  by_cases h0 : v.q = 0
  · rw [decide_eq_true h0] at hZ
    rw [if_pos h0]
    have HZ := Lib.hid hZ
    clear hZ h hs h0
    go_enter Tryz.func65, Tryz.ntmps65
    go_wp2_with fail
    refine HZ.out.mono ?_
    rintro e w1 ⟨rfl, hb⟩
    go_wp2_with fail
    go_ret
    exact ⟨rfl, bthen (belowBox _ _) hb⟩
  · rw [decide_eq_false h0] at hZ
    rw [if_neg h0]
    have HZ := Lib.hid hZ
    obtain ⟨x, hx⟩ : ∃ x, bitLen v.q.num.natAbs + bitLen v.q.den = x := ⟨_, rfl⟩
    rw [hx] at HB ⊢
    clear hZ h hs h0 hx
    go_enter Tryz.func65, Tryz.ntmps65
    go_wp2_with fail
    refine HZ.out.mono ?_
    rintro e w1 ⟨rfl, hb⟩
    obtain ⟨hc, _⟩ := bcell hb
    have k0 : w1.cell? ⟨w.heap.size, 0, none⟩ = some (.bool v.s) := (hc _ _ (by simp)).trans (by simp)
    have k1 : w1.cell? ⟨w.heap.size, 1, none⟩ = some (.slice v.a v.l v.c) := (hc _ _ (by simp)).trans (by simp)
    have k2 : w1.cell? ⟨w.heap.size, 2, none⟩ = some (.slice v.b v.m v.d) := (hc _ _ (by simp)).trans (by simp)
    have HB1 := Lib.hid hb
    have HB2 := Lib.hid (HB.out _ (HV.out.below hb))
    clear hb hc
    go_wp2_with fail
    refine HB2.out.mono ?_
    rintro e w2 ⟨rfl, hb2⟩
    go_wp2_with fail
    go_ret
    exact ⟨rfl, bthen (bthen (belowBox _ _) HB1.out) hb2⟩
end Go.Proofs.YtaehklhbokocbaaGreatDoor
