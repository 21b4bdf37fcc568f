/-
  nth of actuarylaw30 by contract; the conditions: the slice of acts.
  Printed by a program of this repository (wip/qu14.py).
-/
import Derived.Test.YtkbopcgijaejjaaDoorJobs
import Derived.BigQuiet
namespace Go.Proofs.YtkbopcgijaejjaaDoor
open Go.RowKit Go.Extern.Stop Go.Stop Go.Extern
theorem Below.dr {w w1 : World} {n : Nat} (h : Below w.heap.size w w1) : Below w.heap.size w (w1.drewN n) := h.trans ((Below.drawn _ _).mono h.size)
set_option maxRecDepth 100000 in
set_option maxHeartbeats 4000000 in
theorem nth_any (a : Option Addr) (c : Nat) (xs : List Ac) (d t s j u p : Int) (n : Nat) (w : World) (hx : Sl w 6 (.slice a xs.length c) xs.length (xs.flatMap acCells)) (hn : n ≤ 4398046511104) :
    Calls Tryd.prog 13 #[.slice a xs.length c, .agg #[.int .i64 d, .int .i64 t, .int .i64 s, .int .i64 j, .int .i64 u, .int .i64 p], .int .i64 n] w fun e w' => e = .returned (.bool (nthV xs (t, s) j n)) ∧ Below w.heap.size w w' := by
  have hlen := hx.lenI
  have HX := Lib.hid hx
  have HB0 := Lib.hid (show Below w.heap.size w (w.alloc (.cells #[.int .i64 d, .int .i64 t, .int .i64 s, .int .i64 j, .int .i64 u, .int .i64 p] 31)) from (Below.refl _ _).alloc (Nat.le_refl _) _)
  have e0 : nthV xs (t, s) j n = nthV (xs.drop 0) (t, s) j n := rfl
  rw [e0]
  clear hx e0
  obtain ⟨R, hR⟩ : ∃ R, R = nthV (xs.drop 0) (t, s) j n := ⟨_, rfl⟩
  rw [← hR]
  have HR := Lib.hid hR
  clear hR
  go_enter Tryd.func13, Tryd.ntmps13
  go_wp2
  go_loopw [2, 7] (fun nv iv wr => ∃ k m : Nat, k ≤ xs.length ∧ m ≤ 4398046511104 ∧ iv = .int .i64 k ∧ nv = .int .i64 m ∧ R = nthV (xs.drop k) (t, s) j m ∧ Below (w.alloc (.cells #[.int .i64 d, .int .i64 t, .int .i64 s, .int .i64 j, .int .i64 u, .int .i64 p] 31)).heap.size (w.alloc (.cells #[.int .i64 d, .int .i64 t, .int .i64 s, .int .i64 j, .int .i64 u, .int .i64 p] 31)) wr) (fun _ iv _ => xs.length - (intOf iv).toNat)
  case atStart => exact ⟨0, n, Nat.zero_le _, hn, rfl, rfl, HR.out, Below.refl _ _⟩
  case round =>
    obtain ⟨k, m, hk, hm, rfl, rfl, hr, hb⟩ := hrel
    by_cases hlt : k < xs.length
    · obtain ⟨b, o, rfl, k0, k1, k2, k3, k4, k5⟩ := acs_get HX.out (HB0.out.trans (hb.mono HB0.out.size)) k hlt
      have hd := nthV_drop xs k hlt (t, s) j m
      rw [hd] at hr
      have HRR := Lib.hid hr
      have hbx : ∀ i v, (w.alloc (.cells #[.int .i64 d, .int .i64 t, .int .i64 s, .int .i64 j, .int .i64 u, .int .i64 p] 31)).cell? ⟨w.heap.size, i, none⟩ = some v → wr.cell? ⟨w.heap.size, i, none⟩ = some v := fun i v h => (hb.cell (p := ⟨w.heap.size, i, none⟩) (by simp)).trans h
      have x1 := hbx 1 (.int .i64 t) (by simp)
      have x2 := hbx 2 (.int .i64 s) (by simp)
      have x3 := hbx 3 (.int .i64 j) (by simp)
      have i0 : (0 : Int) ≤ (k : Int) := by omega
      have i1 : (k : Int) < (xs.length : Int) := by omega
      have HB := Lib.hid hb
      clear hr hd hb hbx k0 k4 k5
      generalize xs[k] = X at *
      obtain ⟨d', t', s', j', u', p'⟩ := X
      simp only at k1 k2 k3
      by_cases hkey : t' = t ∧ s' = s
      · obtain ⟨rfl, rfl⟩ := hkey
        have hrr := HRR.out
        rw [if_pos (show keyA ⟨d', t', s', j', u', p'⟩ = (t', s') from rfl)] at hrr
        have b1 : (t' == t') = true := by simp
        have b2 : (s' == s') = true := by simp
        have b3 : (t' != t') = false := by simp
        have b4 : (s' != s') = false := by simp
        cases m with
        | zero =>
          have HRF := Lib.hid hrr
          clear hrr
          go_wp2_with fail
          go_quiet (fail)
          go_wp2_with fail
          go_quiet (fail)
          go_wp2
          go_ret
          exact ⟨by rw [HRF.out]; rfl, HB0.out.trans ((Below.dr (Below.dr HB.out)).mono HB0.out.size)⟩
        | succ m =>
          have HRF := Lib.hid hrr
          have m0 : ¬ ((m : Int) + 1 = 0) := by omega
          have m1 : (((m : Int) + 1) == 0) = false := beq_eq_false_iff_ne.2 m0
          clear hrr
          go_wp2_with fail
          go_quiet (fail)
          go_wp2
          go_roundw
          case rel => exact ⟨k + 1, m, by omega, by omega, by go_num, by go_num, HRF.out, (Below.dr HB.out)⟩
          case measure => simp [intOf]; omega
      · have hrr := HRR.out
        rw [if_neg (fun e => hkey ⟨congrArg Prod.fst e, congrArg Prod.snd e⟩)] at hrr
        have HRF := Lib.hid hrr
        clear hrr
        by_cases ht : t' = t
        · have b1 : (s' == s) = false := beq_eq_false_iff_ne.2 fun e => hkey ⟨ht, e⟩
          have b2 : (t' == t) = true := by rw [ht]; simp
          clear hkey
          go_wp2_with fail
          go_quiet (fail)
          go_wp2
          go_roundw
          case rel => exact ⟨k + 1, m, by omega, by omega, by go_num, rfl, HRF.out, (Below.dr HB.out)⟩
          case measure => simp [intOf]; omega
        · have b1 : (t' == t) = false := beq_eq_false_iff_ne.2 ht
          clear hkey
          go_wp2_with fail
          go_quiet (fail)
          go_wp2
          go_roundw
          case rel => exact ⟨k + 1, m, by omega, by omega, by go_num, rfl, HRF.out, (Below.dr HB.out)⟩
          case measure => simp [intOf]; omega
    · have hrf : R = false := by
        rw [hr, show k = xs.length by omega, List.drop_length]; rfl
      have HRF := Lib.hid hrf
      have HB := Lib.hid hb
      have hge : (xs.length : Int) ≤ (k : Int) := by omega
      clear hr hrf hb
      go_wp2
      go_ret
      exact ⟨by rw [HRF.out]; rfl, HB0.out.trans (HB.out.mono HB0.out.size)⟩
end Go.Proofs.YtkbopcgijaejjaaDoor
