/-
 What the laws stand on, part Rb: contracts and plain laws of NGcd, FGcd, FOf, FBack, FBytes, FText, FRT, FNew, FRef; the conditions are each law's own.
-/
import Derived.Test.YtmhainidincjhaaGreatDoorYRa
import Derived.Test.YtmhainidincjhaaGreatDoorYV
import Derived.Test.YtmhainidincjhaaGreatDoorYL
import Derived.Test.YtmhainidincjhaaGreatDoorYA
set_option linter.unusedVariables false
set_option linter.unusedSimpArgs false
set_option maxRecDepth 100000
set_option maxHeartbeats 16000000
namespace Go.Proofs.YtmhainidincjhaaGreatDoor
open Go.RowKit
theorem dgs_inj : ∀ (n y z : Nat), dgs n y = dgs n z → y % 65536 ^ n = z % 65536 ^ n
 | 0, y, z, _ => by simp [Nat.mod_one]
 | n + 1, y, z, h => by
  rw [dgs_snoc, dgs_snoc] at h
  have h1 := List.append_inj h (by rw [dgs_len, dgs_len])
  have h2 := dgs_inj n y z h1.1
  have h3 : y / 65536 ^ n % 65536 = z / 65536 ^ n % 65536 := by injection h1.2
  rw [Nat.pow_succ, Nat.mod_mul, Nat.mod_mul, h2, h3]
theorem RD.inj {w : World} {a : Option Addr} {n c y z : Nat} (h1 : RD w a n c y) (h2 : RD w a n c z) : y = z := by
 have e1 : y < 65536 ^ n := by rw [h1.1]; exact lt_nd y
 have e2 : z < 65536 ^ n := by rw [h2.1]; exact lt_nd z
 have hd : dgs n y = dgs n z := by
  apply List.ext_getElem?
  intro i
  by_cases hi : i < n
  ·
   obtain ⟨b, o, ha, _, hc⟩ := h1.2.get i hi
   obtain ⟨b', o', ha', _, hc'⟩ := h2.2.get i hi
   rw [ha] at ha'
   injection ha' with ha'
   injection ha' with hb ho _
   subst hb ho
   rw [hc] at hc'
   injection hc' with hc'
   injection hc' with _ hc'
   rw [dgs_at hi, dgs_at hi]
   congr 1
   exact Int.ofNat.inj hc'
  ·
   rw [List.getElem?_eq_none (by rw [dgs_len]; omega), List.getElem?_eq_none (by rw [dgs_len]; omega)]
 have := dgs_inj n y z hd
 rwa [Nat.mod_eq_of_lt e1, Nat.mod_eq_of_lt e2] at this
open Classical in
noncomputable def valW (w : World) (v : Value) : Nat := if h : ∃ y a n c, v = .slice a n c ∧ RD w a n c y then h.choose else 0
theorem RD.val {w : World} {a : Option Addr} {n c y : Nat} (h : RD w a n c y) : valW w (.slice a n c) = y := by
 have hex : ∃ y a' n' c', Value.slice a n c = .slice a' n' c' ∧ RD w a' n' c' y := ⟨y, a, n, c, rfl, h⟩
 unfold valW
 rw [dif_pos hex]
 obtain ⟨a', n', c', he, hr⟩ := hex.choose_spec
 injection he with h1 h2 h3
 subst h1 h2 h3
 exact hr.inj h
theorem gcd_both {x y : Nat} (hx : x % 2 = 0) (hy : y % 2 = 0) : Nat.gcd x y = 2 * Nat.gcd (x / 2) (y / 2) := by
 rw [← Nat.gcd_mul_left, show 2 * (x / 2) = x by omega, show 2 * (y / 2) = y by omega]
theorem gcd_left {x y : Nat} (hx : x % 2 = 0) (hy : y % 2 = 1) : Nat.gcd (x / 2) y = Nat.gcd x y := by
 have h1 : x = 2 * (x / 2) := by omega
 have h2 : Nat.Coprime 2 y := by
  have h3 := Nat.gcd_dvd_left 2 y
  have h4 := Nat.gcd_dvd_right 2 y
  have h5 : Nat.gcd 2 y ≤ 2 := Nat.le_of_dvd (by omega) h3
  have h6 : 0 < Nat.gcd 2 y := Nat.gcd_pos_of_pos_left _ (by omega)
  show Nat.gcd 2 y = 1
  generalize Nat.gcd 2 y = g at *
  rcases (show g = 1 ∨ g = 2 by omega) with h | h
  ·
   exact h
  ·
   subst h; omega
 conv => rhs; rw [h1]
 exact (Nat.Coprime.gcd_mul_left_cancel (x / 2) h2).symm
theorem gcd_right {x y : Nat} (hx : x % 2 = 1) (hy : y % 2 = 0) : Nat.gcd x (y / 2) = Nat.gcd x y := by
 rw [Nat.gcd_comm x, Nat.gcd_comm x]; exact gcd_left hy hx
theorem gcd_less {x y : Nat} (h : y ≤ x) : Nat.gcd (x - y) y = Nat.gcd x y := Nat.gcd_sub_self_left h
end Go.Proofs.YtmhainidincjhaaGreatDoor
namespace Go.Proofs.YtmhainidincjhaaGreatDoor
open Go.RowKit Go.Extern.Stop Go.Stop Go.Extern
set_option maxRecDepth 100000
set_option maxHeartbeats 4000000
theorem nd_up {y z : Nat} (h : y ≤ z) : nd y ≤ nd z := nd_le (Nat.lt_of_le_of_lt h (lt_nd z))
theorem f2gcd (a b : Option Addr) (n c m d x y : Nat) (w : World) (h : RD w a n c x) (h2 : RD w b m d y) (hn : n ≤ 68719476736) (hm : m ≤ 68719476736) : Calls Tryz.prog 94 #[.slice a n c, .slice b m d] w (RetD (Nat.gcd x y) w) := by
 have hl := h.len
 have hl2 := h2.len
 rcases Nat.eq_zero_or_pos n with h0 | hn0
 ·
  subst h0
  have hx : x = 0 := by have := lt_nd x; rw [← h.1] at this; simpa using this
  subst hx
  rw [Nat.gcd_zero_left]
  have HY := Lib.hid h2
  clear h h2
  go_enter Tryz.func94, Tryz.ntmps94
  go_wp2_with fail
  go_ret
  exact ⟨b, m, d, rfl, HY.out, Below.refl _ _⟩
 rcases Nat.eq_zero_or_pos m with h0 | hm0
 ·
  subst h0
  have hy : y = 0 := by have := lt_nd y; rw [← h2.1] at this; simpa using this
  subst hy
  rw [Nat.gcd_zero_right]
  have HX := Lib.hid h
  clear h h2
  go_enter Tryz.func94, Tryz.ntmps94
  go_wp2_with fail
  go_ret
  exact ⟨a, n, c, rfl, HX.out, Below.refl _ _⟩
 have hx0 : 0 < x := by
  rcases Nat.eq_zero_or_pos x with h0 | h0
  ·
   have := h.1; rw [h0, nd_zero] at this; omega
  ·
   exact h0
 have hy0 : 0 < y := by
  rcases Nat.eq_zero_or_pos y with h0 | h0
  ·
   have := h2.1; rw [h0, nd_zero] at this; omega
  ·
   exact h0
 have en : ((n : Int) == 0) = false := beq_eq_false_iff_ne.2 (by omega)
 have em : ((m : Int) == 0) = false := beq_eq_false_iff_ne.2 (by omega)
 have HNM := Lib.hid (fun z (hz : z ≤ max x y) => by
  have h3 := nd_up hz
  rcases Nat.le_total x y with h4 | h4
  ·
   rw [Nat.max_eq_right h4, ← h2.1] at h3; omega
  ·
   rw [Nat.max_eq_left h4, ← h.1] at h3; omega : ∀ z, z ≤ max x y → nd z ≤ 68719476736)
 have HNX := Lib.hid h.1
 have HNY := Lib.hid h2.1
 have HX := Lib.hid h
 have HY := Lib.hid h2
 clear h h2
 go_enter Tryz.func94, Tryz.ntmps94
 go_wp2_with fail
 go_loopw [0, 1, 5] (fun v0 v1 v5 wr => ∃ (X Y t : Nat) (a1 : Option Addr) (n1 c1 : Nat) (b1 : Option Addr) (m1 d1 : Nat), v0 = .slice a1 n1 c1 ∧ v1 = .slice b1 m1 d1 ∧ v5 = .int .i64 t ∧ RD wr a1 n1 c1 X ∧ RD wr b1 m1 d1 Y ∧ 0 < X ∧ 0 < Y ∧ Y ≤ y ∧ Nat.gcd x y = Nat.gcd X Y * 2 ^ t ∧ X * 2 ^ t = x ∧ Below w.heap.size w wr) (fun v0 _ _ wr => valW wr v0)
 case atStart => exact ⟨x, y, 0, a, n, c, b, m, d, rfl, rfl, rfl, HX.out, HY.out, hx0, hy0, Nat.le_refl _, by rw [Nat.pow_zero, Nat.mul_one], by rw [Nat.pow_zero, Nat.mul_one], Below.refl _ _⟩
 case round =>
  obtain ⟨X, Y, t, a1, n1, c1, b1, m1, d1, rfl, rfl, rfl, ha, hb, hX0, hY0, hYy, hg, hx2, hbl⟩ := hrel
  have hXx : X ≤ x := by rw [← hx2]; exact Nat.le_mul_of_pos_right X (Nat.pow_pos (by omega))
  have hn1 : n1 ≤ n := by rw [ha.1, HNX.out]; exact nd_up hXx
  have hm1 : m1 ≤ m := by rw [hb.1, HNY.out]; exact nd_up hYy
  have ht : t ≤ 1099511627776 := by
   have h1 : 2 ^ t ≤ x := by rw [← hx2]; exact Nat.le_mul_of_pos_left _ hX0
   have h2 : x < 2 ^ (16 * n) := by have := lt_nd x; rw [← HNX.out, show (65536 : Nat) = 2 ^ 16 from rfl, ← Nat.pow_mul] at this; exact this
   have h3 : t < 16 * n := (Nat.pow_lt_pow_iff_right (by omega)).1 (Nat.lt_of_le_of_lt h1 h2)
   omega
  have HE1 := Lib.hid (f2even a1 n1 c1 X wr ha)
  have HE2 := Lib.hid (f2even b1 m1 d1 Y wr hb)
  rcases Nat.mod_two_eq_zero_or_one X with hx9 | hx9
  ·
   rcases Nat.mod_two_eq_zero_or_one Y with hy9 | hy9
   ·
    rw [hx9] at HE1
    rw [hy9] at HE2
    have HA := Lib.hid ha
    have HB := Lib.hid hb
    have HBL := Lib.hid hbl
    have HGG := Lib.hid (show Nat.gcd x y = Nat.gcd (X / 2) (Y / 2) * 2 ^ (t + 1) by rw [hg, gcd_both hx9 hy9, Nat.pow_succ, Nat.mul_comm 2, Nat.mul_assoc, Nat.mul_comm 2])
    have HXX := Lib.hid (show X / 2 * 2 ^ (t + 1) = x by rw [← hx2, Nat.pow_succ, Nat.mul_comm (2 ^ t) 2, ← Nat.mul_assoc, show X / 2 * 2 = X by omega])
    clear ha hb hbl hg hx2
    go_wp2_with fail
    refine HE1.out.mono ?_
    rintro e w2 ⟨rfl, rfl⟩
    go_wp2_with fail
    refine HE2.out.mono ?_
    rintro e w3 ⟨rfl, rfl⟩
    go_wp2_with fail
    refine (f2halved a1 n1 c1 X w3 HA.out (by omega)).mono ?_
    rintro e w4 ⟨a4, n4, c4, rfl, hr4, hb4⟩
    have HA4 := Lib.hid hr4
    have HB4 := Lib.hid (HB.out.below hb4)
    have HL4 := Lib.hid (bthen HBL.out hb4)
    clear hr4 hb4
    go_wp2_with fail
    refine (f2halved b1 m1 d1 Y w4 HB4.out (by omega)).mono ?_
    rintro e w5 ⟨b5, m5, d5, rfl, hr5, hb5⟩
    have HB5 := Lib.hid hr5
    have HA5 := Lib.hid (HA4.out.below hb5)
    have HL5 := Lib.hid (bthen HL4.out hb5)
    clear hr5 hb5
    go_wp2_with fail
    go_roundw
    case rel => exact ⟨X / 2, Y / 2, t + 1, a4, n4, c4, b5, m5, d5, rfl, rfl, by go_num, HA5.out, HB5.out, by omega, by omega, by omega, HGG.out, HXX.out, HL5.out⟩
    case measure =>
     show valW _ (.slice a4 n4 c4) < valW _ (.slice a1 n1 c1)
     rw [HA5.out.val, HA.out.val]; omega
   ·
    rw [hx9] at HE1
    rw [hy9] at HE2
    have hnb : X % 2 = 1 ∨ Y % 2 = 1 := .inr hy9
    go_wp2_with fail
    refine HE1.out.mono ?_
    rintro e w2 ⟨rfl, rfl⟩
    go_wp2_with fail
    refine HE2.out.mono ?_
    rintro e w3 ⟨rfl, rfl⟩
    go_wp2_with fail
    have HG1 := Lib.hid hg
    have HA := Lib.hid ha
    have HB0 := Lib.hid hb
    have HBL := Lib.hid hbl
    have HNB := Lib.hid hnb
    clear hg ha hb hbl hnb hx2
    go_loopw [1] (fun v1 wz => ∃ (B2 : Nat) (b2 : Option Addr) (m2 d2 : Nat), v1 = .slice b2 m2 d2 ∧ RD wz b2 m2 d2 B2 ∧ 0 < B2 ∧ B2 ≤ y ∧ (X % 2 = 1 ∨ B2 % 2 = 1) ∧ Nat.gcd X B2 = Nat.gcd X Y ∧ Below w.heap.size w wz ∧ RD wz a1 n1 c1 X) (fun v1 wz => valW wz v1)
    case atStart => exact ⟨Y, b1, m1, d1, rfl, HB0.out, hY0, hYy, HNB.out, rfl, HBL.out, HA.out⟩
    case round =>
     obtain ⟨B2, b2, m2, d2, rfl, hb2, h20, h2y, h2n, h2g, h2l, ha2⟩ := hrel
     have hm2 : m2 ≤ 68719476736 := by rw [hb2.1]; exact HNM.out _ (by omega)
     have HE2 := Lib.hid (f2even b2 m2 d2 B2 wr hb2)
     have HA2 := Lib.hid ha2
     have HB2 := Lib.hid hb2
     have HL2 := Lib.hid h2l
     have HG2 := Lib.hid h2g
     clear ha2 hb2 h2l h2g
     rcases Nat.mod_two_eq_zero_or_one B2 with h2o | h2o
     ·
      have hxo : X % 2 = 1 := by omega
      rw [h2o] at HE2
      have HG5 := Lib.hid (gcd_right hxo h2o)
      go_wp2_with fail
      refine HE2.out.mono ?_
      rintro e w5 ⟨rfl, rfl⟩
      go_wp2_with fail
      refine (f2halved b2 m2 d2 B2 w5 HB2.out (by omega)).mono ?_
      rintro e w6 ⟨b6, m6, d6, rfl, hr6, hb6⟩
      have HB6 := Lib.hid hr6
      have HA6 := Lib.hid (HA2.out.below hb6)
      have HL6 := Lib.hid (bthen HL2.out hb6)
      clear hr6 hb6
      go_wp2_with fail
      go_roundw
      case rel => exact ⟨B2 / 2, b6, m6, d6, rfl, HB6.out, by omega, by omega, .inl hxo, by rw [HG5.out]; exact HG2.out, HL6.out, HA6.out⟩
      case measure =>
       show valW _ (.slice b6 m6 d6) < valW _ (.slice b2 m2 d2)
       rw [HB6.out.val, HB2.out.val]; omega
     ·
      rw [h2o] at HE2
      go_wp2_with fail
      refine HE2.out.mono ?_
      rintro e w5 ⟨rfl, rfl⟩
      go_wp2_with fail
      go_loopw [0, 1] (fun v0 v1 wq => ∃ (X3 Y3 : Nat) (a3 : Option Addr) (n3 c3 : Nat) (b3 : Option Addr) (m3 d3 : Nat), v0 = .slice a3 n3 c3 ∧ v1 = .slice b3 m3 d3 ∧ RD wq a3 n3 c3 X3 ∧ RD wq b3 m3 d3 Y3 ∧ Y3 % 2 = 1 ∧ X3 ≤ max x y ∧ Y3 ≤ max x y ∧ Nat.gcd X3 Y3 = Nat.gcd X Y ∧ Below w.heap.size w wq) (fun v0 v1 wq => valW wq v0 + valW wq v1)
      case atStart => exact ⟨X, B2, a1, n1, c1, b2, m2, d2, rfl, rfl, HA2.out, HB2.out, h2o, by omega, by omega, HG2.out, HL2.out⟩
      case round =>
       obtain ⟨X3, Y3, a3, n3, c3, b3, m3, d3, rfl, rfl, ha3, hb3, h3o, h3x, h3y, h3g, h3l⟩ := hrel
       have hm3 : m3 ≤ 68719476736 := by rw [hb3.1]; exact HNM.out _ h3y
       have hl3 := ha3.len
       have HA3 := Lib.hid ha3
       have HB3 := Lib.hid hb3
       have HL3 := Lib.hid h3l
       have HG3 := Lib.hid h3g
       rcases Nat.eq_zero_or_pos n3 with h30 | h30
       ·
        subst h30
        have hX3 : X3 = 0 := by have := lt_nd X3; rw [← ha3.1] at this; simpa using this
        have HRS := Lib.hid (show Nat.gcd x y = Y3 * 2 ^ t by rw [HG1.out, ← h3g, hX3, Nat.gcd_zero_left])
        clear ha3 hb3 h3l h3g
        go_wp2_with fail
        refine (f2shl b3 m3 d3 Y3 t _ HB3.out (by omega) (by omega)).mono ?_
        rintro e w7 ⟨a7, n7, c7, rfl, hr, hb⟩
        have HR := Lib.hid hr
        have HB := Lib.hid hb
        clear hr hb
        go_wp2_with fail
        go_ret
        exact ⟨a7, n7, c7, rfl, by rw [HRS.out]; exact HR.out, bthen HL3.out HB.out⟩
       ·
        have hX3 : 0 < X3 := by
         rcases Nat.eq_zero_or_pos X3 with h0 | h0
         ·
          have := ha3.1; rw [h0, nd_zero] at this; omega
         ·
          exact h0
        clear ha3 hb3 h3l h3g
        go_wp2_with fail
        go_loopw [0] (fun v0 wp => ∃ (X4 : Nat) (a4 : Option Addr) (n4 c4 : Nat), v0 = .slice a4 n4 c4 ∧ RD wp a4 n4 c4 X4 ∧ 0 < X4 ∧ X4 ≤ X3 ∧ Nat.gcd X4 Y3 = Nat.gcd X Y ∧ Below w.heap.size w wp ∧ RD wp b3 m3 d3 Y3) (fun v0 wp => valW wp v0)
        case atStart => exact ⟨X3, a3, n3, c3, rfl, HA3.out, hX3, Nat.le_refl _, HG3.out, HL3.out, HB3.out⟩
        case round =>
         obtain ⟨X4, a4, n4, c4, rfl, ha4, h40, h4x, h4g, h4l, hb4⟩ := hrel
         have hn4 : n4 ≤ 68719476736 := by rw [ha4.1]; exact HNM.out _ (by omega)
         have HE4 := Lib.hid (f2even a4 n4 c4 X4 wr ha4)
         have HA4 := Lib.hid ha4
         have HB4 := Lib.hid hb4
         have HL4 := Lib.hid h4l
         have HG4 := Lib.hid h4g
         clear ha4 hb4 h4l h4g
         rcases Nat.mod_two_eq_zero_or_one X4 with h9 | h9
         ·
          rw [h9] at HE4
          have HG5 := Lib.hid (gcd_left h9 h3o)
          go_wp2_with fail
          refine HE4.out.mono ?_
          rintro e w5 ⟨rfl, rfl⟩
          go_wp2_with fail
          refine (f2halved a4 n4 c4 X4 w5 HA4.out (by omega)).mono ?_
          rintro e w6 ⟨a6, n6, c6, rfl, hr6, hb6⟩
          have HA6 := Lib.hid hr6
          have HB6 := Lib.hid (HB4.out.below hb6)
          have HL6 := Lib.hid (bthen HL4.out hb6)
          clear hr6 hb6
          go_wp2_with fail
          go_roundw
          case rel => exact ⟨X4 / 2, a6, n6, c6, rfl, HA6.out, by omega, by omega, by rw [HG5.out]; exact HG4.out, HL6.out, HB6.out⟩
          case measure =>
           show valW _ (.slice a6 n6 c6) < valW _ (.slice a4 n4 c4)
           rw [HA6.out.val, HA4.out.val]; omega
         ·
          rw [h9] at HE4
          have HCM := Lib.hid (f2cmp a4 b3 n4 c4 m3 d3 X4 Y3 wr HA4.out HB4.out (by omega) (by omega))
          go_wp2_with fail
          refine HE4.out.mono ?_
          rintro e w5 ⟨rfl, rfl⟩
          rcases Nat.lt_or_ge X4 Y3 with h8 | h8
          ·
           rw [cmpF_lt h8] at HCM
           have HG5 := Lib.hid (show Nat.gcd (Y3 - X4) X4 = Nat.gcd X4 Y3 by rw [gcd_less (Nat.le_of_lt h8), Nat.gcd_comm])
           go_wp2_with fail
           refine HCM.out.mono ?_
           rintro e w6 ⟨rfl, hb6⟩
           have HA6 := Lib.hid (HA4.out.below hb6)
           have HB6 := Lib.hid (HB4.out.below hb6)
           have HL6 := Lib.hid (bthen HL4.out hb6)
           clear hb6
           go_wp2_with fail
           refine (f2sub b3 a4 m3 d3 n4 c4 Y3 X4 (Y3 - X4) w6 HB6.out HA6.out (by omega) (by omega) (by omega)).mono ?_
           rintro e w7 ⟨a7, n7, c7, rfl, hr7, hb7⟩
           have HA7 := Lib.hid hr7
           have HB7 := Lib.hid (HA6.out.below hb7)
           have HL7 := Lib.hid (bthen HL6.out hb7)
           clear hr7 hb7
           go_wp2_with fail
           go_roundw
           case rel => exact ⟨Y3 - X4, X4, a7, n7, c7, a4, n4, c4, rfl, rfl, HA7.out, HB7.out, h9, by omega, by omega, by rw [HG5.out]; exact HG4.out, HL7.out⟩
           case measure =>
            show valW _ (.slice a7 n7 c7) + valW _ (.slice a4 n4 c4) < valW _ (.slice a3 n3 c3) + valW _ (.slice b3 m3 d3)
            rw [HA7.out.val, HB7.out.val, HA3.out.val, HB3.out.val]; omega
          ·
           obtain ⟨v, hv, hv0, hv1⟩ : ∃ v, cmpF X4 Y3 = v ∧ 0 ≤ v ∧ v ≤ 1 := by
            rcases cmpF_ge h8 with h | h
            ·
             exact ⟨0, h, by omega, by omega⟩
            ·
             exact ⟨1, h, by omega, by omega⟩
           rw [hv] at HCM
           have HG5 := Lib.hid (gcd_less h8)
           clear hv
           go_wp2_with fail
           refine HCM.out.mono ?_
           rintro e w6 ⟨rfl, hb6⟩
           have HA6 := Lib.hid (HA4.out.below hb6)
           have HB6 := Lib.hid (HB4.out.below hb6)
           have HL6 := Lib.hid (bthen HL4.out hb6)
           clear hb6
           go_wp2_with fail
           refine (f2sub a4 b3 n4 c4 m3 d3 X4 Y3 (X4 - Y3) w6 HA6.out HB6.out (by omega) (by omega) (by omega)).mono ?_
           rintro e w7 ⟨a7, n7, c7, rfl, hr7, hb7⟩
           have HA7 := Lib.hid hr7
           have HB7 := Lib.hid (HB6.out.below hb7)
           have HL7 := Lib.hid (bthen HL6.out hb7)
           clear hr7 hb7
           go_wp2_with fail
           go_roundw
           case rel => exact ⟨X4 - Y3, Y3, a7, n7, c7, b3, m3, d3, rfl, rfl, HA7.out, HB7.out, h3o, by omega, by omega, by rw [HG5.out]; exact HG4.out, HL7.out⟩
           case measure =>
            show valW _ (.slice a7 n7 c7) + valW _ (.slice b3 m3 d3) < valW _ (.slice a3 n3 c3) + valW _ (.slice b3 m3 d3)
            rw [HA7.out.val, HB7.out.val, HA3.out.val, HB3.out.val]; omega
  ·
   rw [hx9] at HE1
   have hnb : X % 2 = 1 ∨ Y % 2 = 1 := .inl hx9
   go_wp2_with fail
   refine HE1.out.mono ?_
   rintro e w2 ⟨rfl, rfl⟩
   go_wp2_with fail
   have HG1 := Lib.hid hg
   have HA := Lib.hid ha
   have HB0 := Lib.hid hb
   have HBL := Lib.hid hbl
   have HNB := Lib.hid hnb
   clear hg ha hb hbl hnb hx2
   go_loopw [1] (fun v1 wz => ∃ (B2 : Nat) (b2 : Option Addr) (m2 d2 : Nat), v1 = .slice b2 m2 d2 ∧ RD wz b2 m2 d2 B2 ∧ 0 < B2 ∧ B2 ≤ y ∧ (X % 2 = 1 ∨ B2 % 2 = 1) ∧ Nat.gcd X B2 = Nat.gcd X Y ∧ Below w.heap.size w wz ∧ RD wz a1 n1 c1 X) (fun v1 wz => valW wz v1)
   case atStart => exact ⟨Y, b1, m1, d1, rfl, HB0.out, hY0, hYy, HNB.out, rfl, HBL.out, HA.out⟩
   case round =>
    obtain ⟨B2, b2, m2, d2, rfl, hb2, h20, h2y, h2n, h2g, h2l, ha2⟩ := hrel
    have hm2 : m2 ≤ 68719476736 := by rw [hb2.1]; exact HNM.out _ (by omega)
    have HE2 := Lib.hid (f2even b2 m2 d2 B2 wr hb2)
    have HA2 := Lib.hid ha2
    have HB2 := Lib.hid hb2
    have HL2 := Lib.hid h2l
    have HG2 := Lib.hid h2g
    clear ha2 hb2 h2l h2g
    rcases Nat.mod_two_eq_zero_or_one B2 with h2o | h2o
    ·
     have hxo : X % 2 = 1 := by omega
     rw [h2o] at HE2
     have HG5 := Lib.hid (gcd_right hxo h2o)
     go_wp2_with fail
     refine HE2.out.mono ?_
     rintro e w5 ⟨rfl, rfl⟩
     go_wp2_with fail
     refine (f2halved b2 m2 d2 B2 w5 HB2.out (by omega)).mono ?_
     rintro e w6 ⟨b6, m6, d6, rfl, hr6, hb6⟩
     have HB6 := Lib.hid hr6
     have HA6 := Lib.hid (HA2.out.below hb6)
     have HL6 := Lib.hid (bthen HL2.out hb6)
     clear hr6 hb6
     go_wp2_with fail
     go_roundw
     case rel => exact ⟨B2 / 2, b6, m6, d6, rfl, HB6.out, by omega, by omega, .inl hxo, by rw [HG5.out]; exact HG2.out, HL6.out, HA6.out⟩
     case measure =>
      show valW _ (.slice b6 m6 d6) < valW _ (.slice b2 m2 d2)
      rw [HB6.out.val, HB2.out.val]; omega
    ·
     rw [h2o] at HE2
     go_wp2_with fail
     refine HE2.out.mono ?_
     rintro e w5 ⟨rfl, rfl⟩
     go_wp2_with fail
     go_loopw [0, 1] (fun v0 v1 wq => ∃ (X3 Y3 : Nat) (a3 : Option Addr) (n3 c3 : Nat) (b3 : Option Addr) (m3 d3 : Nat), v0 = .slice a3 n3 c3 ∧ v1 = .slice b3 m3 d3 ∧ RD wq a3 n3 c3 X3 ∧ RD wq b3 m3 d3 Y3 ∧ Y3 % 2 = 1 ∧ X3 ≤ max x y ∧ Y3 ≤ max x y ∧ Nat.gcd X3 Y3 = Nat.gcd X Y ∧ Below w.heap.size w wq) (fun v0 v1 wq => valW wq v0 + valW wq v1)
     case atStart => exact ⟨X, B2, a1, n1, c1, b2, m2, d2, rfl, rfl, HA2.out, HB2.out, h2o, by omega, by omega, HG2.out, HL2.out⟩
     case round =>
      obtain ⟨X3, Y3, a3, n3, c3, b3, m3, d3, rfl, rfl, ha3, hb3, h3o, h3x, h3y, h3g, h3l⟩ := hrel
      have hm3 : m3 ≤ 68719476736 := by rw [hb3.1]; exact HNM.out _ h3y
      have hl3 := ha3.len
      have HA3 := Lib.hid ha3
      have HB3 := Lib.hid hb3
      have HL3 := Lib.hid h3l
      have HG3 := Lib.hid h3g
      rcases Nat.eq_zero_or_pos n3 with h30 | h30
      ·
       subst h30
       have hX3 : X3 = 0 := by have := lt_nd X3; rw [← ha3.1] at this; simpa using this
       have HRS := Lib.hid (show Nat.gcd x y = Y3 * 2 ^ t by rw [HG1.out, ← h3g, hX3, Nat.gcd_zero_left])
       clear ha3 hb3 h3l h3g
       go_wp2_with fail
       refine (f2shl b3 m3 d3 Y3 t _ HB3.out (by omega) (by omega)).mono ?_
       rintro e w7 ⟨a7, n7, c7, rfl, hr, hb⟩
       have HR := Lib.hid hr
       have HB := Lib.hid hb
       clear hr hb
       go_wp2_with fail
       go_ret
       exact ⟨a7, n7, c7, rfl, by rw [HRS.out]; exact HR.out, bthen HL3.out HB.out⟩
      ·
       have hX3 : 0 < X3 := by
        rcases Nat.eq_zero_or_pos X3 with h0 | h0
        ·
         have := ha3.1; rw [h0, nd_zero] at this; omega
        ·
         exact h0
       clear ha3 hb3 h3l h3g
       go_wp2_with fail
       go_loopw [0] (fun v0 wp => ∃ (X4 : Nat) (a4 : Option Addr) (n4 c4 : Nat), v0 = .slice a4 n4 c4 ∧ RD wp a4 n4 c4 X4 ∧ 0 < X4 ∧ X4 ≤ X3 ∧ Nat.gcd X4 Y3 = Nat.gcd X Y ∧ Below w.heap.size w wp ∧ RD wp b3 m3 d3 Y3) (fun v0 wp => valW wp v0)
       case atStart => exact ⟨X3, a3, n3, c3, rfl, HA3.out, hX3, Nat.le_refl _, HG3.out, HL3.out, HB3.out⟩
       case round =>
        obtain ⟨X4, a4, n4, c4, rfl, ha4, h40, h4x, h4g, h4l, hb4⟩ := hrel
        have hn4 : n4 ≤ 68719476736 := by rw [ha4.1]; exact HNM.out _ (by omega)
        have HE4 := Lib.hid (f2even a4 n4 c4 X4 wr ha4)
        have HA4 := Lib.hid ha4
        have HB4 := Lib.hid hb4
        have HL4 := Lib.hid h4l
        have HG4 := Lib.hid h4g
        clear ha4 hb4 h4l h4g
        rcases Nat.mod_two_eq_zero_or_one X4 with h9 | h9
        ·
         rw [h9] at HE4
         have HG5 := Lib.hid (gcd_left h9 h3o)
         go_wp2_with fail
         refine HE4.out.mono ?_
         rintro e w5 ⟨rfl, rfl⟩
         go_wp2_with fail
         refine (f2halved a4 n4 c4 X4 w5 HA4.out (by omega)).mono ?_
         rintro e w6 ⟨a6, n6, c6, rfl, hr6, hb6⟩
         have HA6 := Lib.hid hr6
         have HB6 := Lib.hid (HB4.out.below hb6)
         have HL6 := Lib.hid (bthen HL4.out hb6)
         clear hr6 hb6
         go_wp2_with fail
         go_roundw
         case rel => exact ⟨X4 / 2, a6, n6, c6, rfl, HA6.out, by omega, by omega, by rw [HG5.out]; exact HG4.out, HL6.out, HB6.out⟩
         case measure =>
          show valW _ (.slice a6 n6 c6) < valW _ (.slice a4 n4 c4)
          rw [HA6.out.val, HA4.out.val]; omega
        ·
         rw [h9] at HE4
         have HCM := Lib.hid (f2cmp a4 b3 n4 c4 m3 d3 X4 Y3 wr HA4.out HB4.out (by omega) (by omega))
         go_wp2_with fail
         refine HE4.out.mono ?_
         rintro e w5 ⟨rfl, rfl⟩
         rcases Nat.lt_or_ge X4 Y3 with h8 | h8
         ·
          rw [cmpF_lt h8] at HCM
          have HG5 := Lib.hid (show Nat.gcd (Y3 - X4) X4 = Nat.gcd X4 Y3 by rw [gcd_less (Nat.le_of_lt h8), Nat.gcd_comm])
          go_wp2_with fail
          refine HCM.out.mono ?_
          rintro e w6 ⟨rfl, hb6⟩
          have HA6 := Lib.hid (HA4.out.below hb6)
          have HB6 := Lib.hid (HB4.out.below hb6)
          have HL6 := Lib.hid (bthen HL4.out hb6)
          clear hb6
          go_wp2_with fail
          refine (f2sub b3 a4 m3 d3 n4 c4 Y3 X4 (Y3 - X4) w6 HB6.out HA6.out (by omega) (by omega) (by omega)).mono ?_
          rintro e w7 ⟨a7, n7, c7, rfl, hr7, hb7⟩
          have HA7 := Lib.hid hr7
          have HB7 := Lib.hid (HA6.out.below hb7)
          have HL7 := Lib.hid (bthen HL6.out hb7)
          clear hr7 hb7
          go_wp2_with fail
          go_roundw
          case rel => exact ⟨Y3 - X4, X4, a7, n7, c7, a4, n4, c4, rfl, rfl, HA7.out, HB7.out, h9, by omega, by omega, by rw [HG5.out]; exact HG4.out, HL7.out⟩
          case measure =>
           show valW _ (.slice a7 n7 c7) + valW _ (.slice a4 n4 c4) < valW _ (.slice a3 n3 c3) + valW _ (.slice b3 m3 d3)
           rw [HA7.out.val, HB7.out.val, HA3.out.val, HB3.out.val]; omega
         ·
          obtain ⟨v, hv, hv0, hv1⟩ : ∃ v, cmpF X4 Y3 = v ∧ 0 ≤ v ∧ v ≤ 1 := by
           rcases cmpF_ge h8 with h | h
           ·
            exact ⟨0, h, by omega, by omega⟩
           ·
            exact ⟨1, h, by omega, by omega⟩
          rw [hv] at HCM
          have HG5 := Lib.hid (gcd_less h8)
          clear hv
          go_wp2_with fail
          refine HCM.out.mono ?_
          rintro e w6 ⟨rfl, hb6⟩
          have HA6 := Lib.hid (HA4.out.below hb6)
          have HB6 := Lib.hid (HB4.out.below hb6)
          have HL6 := Lib.hid (bthen HL4.out hb6)
          clear hb6
          go_wp2_with fail
          refine (f2sub a4 b3 n4 c4 m3 d3 X4 Y3 (X4 - Y3) w6 HA6.out HB6.out (by omega) (by omega) (by omega)).mono ?_
          rintro e w7 ⟨a7, n7, c7, rfl, hr7, hb7⟩
          have HA7 := Lib.hid hr7
          have HB7 := Lib.hid (HB6.out.below hb7)
          have HL7 := Lib.hid (bthen HL6.out hb7)
          clear hr7 hb7
          go_wp2_with fail
          go_roundw
          case rel => exact ⟨X4 - Y3, Y3, a7, n7, c7, b3, m3, d3, rfl, rfl, HA7.out, HB7.out, h3o, by omega, by omega, by rw [HG5.out]; exact HG4.out, HL7.out⟩
          case measure =>
           show valW _ (.slice a7 n7 c7) + valW _ (.slice b3 m3 d3) < valW _ (.slice a3 n3 c3) + valW _ (.slice b3 m3 d3)
           rw [HA7.out.val, HB7.out.val, HA3.out.val, HB3.out.val]; omega
set_option maxRecDepth 100000
set_option maxHeartbeats 4000000
theorem of_dig (y i j : Nat) (hj : j < 4) : y / 65536 ^ (4 * i + j) % 65536 = wordOf y i / 65536 ^ j % 65536 := by
 unfold wordOf
 have h1 : (65536 : Nat) ^ (4 * i + j) = W64 ^ i * 65536 ^ j := by
  rw [Nat.pow_add, Nat.pow_mul]
 rw [h1, ← Nat.div_div_eq_div_mul]
 generalize y / W64 ^ i = t
 unfold W64
 match j, hj with
 | 0, _ => omega
 | 1, _ => omega
 | 2, _ => omega
 | 3, _ => omega
theorem f2of (a : Option Addr) (n c : Nat) (xs : List Nat) (w : World) (h : Sl w 1 (.slice a n c) n (xs.map UV)) (hx : ∀ x, x ∈ xs → x < W64) (hn : n ≤ 68719476736) : Calls Tryz.prog 73 #[.slice a n c] w (RetD (val xs) w) := by
 obtain ⟨i0, hi, hz0, hz1, hz2⟩ := info_parts Tryz.infoInt
 have hlen : xs.length = n := by have := h.1; rw [List.length_map] at this; omega
 have hl : n ≤ c ∧ c ≤ 9223372036854775807 := by
  obtain ⟨a', c', e, h1, h2, h3⟩ := Sl.len h
  cases e
  exact ⟨h1, by unfold maxLen at h2; omega⟩
 obtain ⟨y, hy⟩ : ∃ y, val xs = y := ⟨_, rfl⟩
 have HG := Lib.hid (fun (W : World) (hb : Below w.heap.size w W) (k : Nat) (hk : k < n) => (by
  obtain ⟨b, o, c', e, _, _, hlt, hc⟩ := Sl.plain (Sl.below h hb) (by omega)
  cases e
  refine ⟨b, o, rfl, hlt, ?_⟩
  have := hc k (UV (wordOf y k)) (by rw [List.getElem?_map, ← hy, word_val xs hx, List.getD_eq_getElem?_getD, List.getElem?_eq_getElem (by omega)]; rfl)
  exact this : ∃ b o, a = some ⟨b, o, none⟩ ∧ b < W.heap.size ∧ W.cell? ⟨b, o + k, none⟩ = some (.int .u64 (wordOf y k))))
 have HYL := Lib.hid (show y < 65536 ^ (4 * n) by rw [← hy, Nat.pow_mul, ← hlen]; exact val_lt xs hx)
 have HDG := Lib.hid (fun i j hj => of_dig y i j hj)
 have HWL := Lib.hid (fun k => (wordOf_lt y k : wordOf y k < W64))
 rw [hy]
 clear h hx hlen hy
 go_enter Tryz.func73, Tryz.ntmps73
 go_wp2_with fail
 go_loopw [3, 4] (fun v3 v4 wr => ∃ (i : Nat) (a5 : Option Addr) (c5 : Nat), i ≤ n ∧ v3 = .slice a5 (4 * i) c5 ∧ v4 = .int .i64 i ∧ DO w a5 (4 * i) c5 y wr) (fun _ v4 _ => n - (intOf v4).toNat)
 case atStart => exact ⟨0, none, 0, Nat.zero_le _, rfl, rfl, DO.nil w y⟩
 case round =>
  obtain ⟨i, a5, c5, hin, rfl, rfl, ho⟩ := hrel
  have HO := Lib.hid ho
  by_cases hlt : i < n
  ·
   obtain ⟨b, o, ha, hb, hcell⟩ := HG.out wr ho.bel i hlt
   have hwl := HWL.out i
   have hdg := HDG.out i
   subst ha
   generalize wordOf y i = v at hcell hwl hdg
   have HDI := Lib.hid hdg
   clear ho hdg
   go_wp2_with fail
   go_loopw [3, 5, 6] (fun v3 v5 v6 wq => ∃ (j : Nat) (a5 : Option Addr) (c5 : Nat), j ≤ 4 ∧ v3 = .slice a5 (4 * i + j) c5 ∧ v5 = .int .u64 (v / 65536 ^ j : Nat) ∧ v6 = .int .i64 j ∧ DO w a5 (4 * i + j) c5 y wq) (fun _ _ v6 _ => 4 - (intOf v6).toNat)
   case atStart => exact ⟨0, a5, c5, by omega, rfl, by rw [Nat.pow_zero, Nat.div_one], rfl, HO.out⟩
   case round =>
    obtain ⟨j, a5, c5, hj, rfl, rfl, rfl, ho⟩ := hrel
    have HO := Lib.hid ho
    have hcl := ho.len
    clear ho
    by_cases hj4 : j < 4
    ·
     have hdg := HDI.out j hj4
     have hq : v / 65536 ^ j ≤ 18446744073709551615 := Nat.le_trans (Nat.div_le_self _ _) (by unfold W64 at hwl; omega)
     have hnx : v / 65536 ^ (j + 1) = v / 65536 ^ j / 65536 := by rw [Nat.pow_succ, ← Nat.div_div_eq_div_mul]
     generalize v / 65536 ^ j = q at hdg hq hnx ⊢
     have HNX := Lib.hid hnx
     have e2 : (q : Int).tmod 65536 = ((q % 65536 : Nat) : Int) := by rw [Int.tmod_eq_emod_of_nonneg (by omega)]; omega
     have e3 : (q : Int).tdiv 65536 = ((q / 65536 : Nat) : Int) := by rw [Int.tdiv_eq_ediv_of_nonneg (by omega)]; omega
     have hd : dgs (4 * i + j + [q % 65536].length) y = dgs (4 * i + j) y ++ [q % 65536] := by rw [← hdg]; exact dgs_snoc (4 * i + j) y
     clear hdg hnx
     have HM3 := Lib.hid (HO.out.mid.alloc (.cells #[.int .i64 ((q % 65536 : Nat) : Int)] 3))
     have HS3 := Lib.hid ((Sl.lit wr 3 1 1 ([q % 65536].map IN) (by unfold maxLen; omega) rfl).src (P := Tryz.prog) Tryz.underlyingIS (one_IN [q % 65536]))
     have HW3 := Lib.hid (Nat.le_trans HO.out.bel.size (belowBox wr (.cells #[.int .i64 ((q % 65536 : Nat) : Int)] 3)).size)
     go_wp2_with (at_builtin; refine wpList_append_mid (v := .slice a5 (4 * i + j) c5) rfl _ _ 55 55 rfl i0 (.int .i64 0) 8 Tryz.underlyingIS hi hz0 hz1 hz2 rfl rfl HM3.out _ rfl 1 _ HS3.out (by unfold maxLen; omega) (by omega) HW3.out ?_; intro a6 c6 w6 hmo hgo hbo; have HP := Lib.hid (show DO _ a6 ((4 * i + j) + 1) c6 y w6 from HO.out.push (ds := [q % 65536]) hd hmo hgo); clear hmo hgo hbo HM3 HS3 HW3; go_wp2_with fail)
     go_roundw
     case rel => exact ⟨j + 1, a6, c6, by omega, rfl, by rw [HNX.out]; go_num, by go_num, HP.out⟩
     case measure => simp [intOf]; omega
    ·
     obtain rfl : j = 4 := by omega
     go_wp2_with fail
     go_roundw
     case rel => exact ⟨i + 1, a5, c5, by omega, by rw [show 4 * (i + 1) = 4 * i + 4 by omega], by go_num, by rw [show 4 * (i + 1) = 4 * i + 4 by omega]; exact HO.out⟩
     case measure => simp [intOf]; omega
  ·
   obtain rfl : i = n := by omega
   clear ho
   go_wp2_with fail
   refine (f2trim_any a5 _ c5 y _ HO.out.dw HYL.out (by omega)).mono ?_
   rintro e w7 ⟨a7, n7, c7, rfl, hr, hb⟩
   have HR := Lib.hid hr
   have HB := Lib.hid hb
   clear hr hb
   go_wp2_with fail
   go_ret
   exact ⟨a7, n7, c7, rfl, HR.out, bthen HO.out.bel HB.out⟩
set_option maxRecDepth 100000
set_option maxHeartbeats 4000000
def low (m k x : Nat) : List Nat := (List.range k).map fun i => x / m ^ i % m
theorem low_snoc (m k x : Nat) : low m (k + 1) x = low m k x ++ [x / m ^ k % m] := by
 unfold low; rw [List.range_succ, List.map_append]; rfl
structure DL (w : World) (a : Option Addr) (n c : Nat) (l : List Nat) (W : World) : Prop where
 mid : Mid W w.heap.size 3 1 (.slice a n c) n (l.map IN)
 bel : Below w.heap.size w W
theorem DL.nil (w : World) : DL w none 0 0 [] w := ⟨Mid.nil w w.heap.size 3 1, Below.refl _ _⟩
theorem DL.call {w W W' : World} {a : Option Addr} {n c : Nat} {l : List Nat} (h : DL w a n c l W) (hb : Below W.heap.size W W') : DL w a n c l W' := ⟨h.mid.below hb fun k hk => (h.mid.lt k hk).2, bthen h.bel hb⟩
theorem DL.len {w W : World} {a : Option Addr} {n c : Nat} {l : List Nat} (h : DL w a n c l W) : n ≤ c ∧ c ≤ 9223372036854775807 := by
 obtain ⟨a', c', e, h1, h2, h3⟩ := Sl.len (Sl.ofMid h.mid)
 cases e
 exact ⟨h1, by unfold maxLen at h2; omega⟩
theorem DL.push {w W W5 : World} {a a5 : Option Addr} {n c c5 : Nat} {l ds : List Nat} {ob : Obj} (h : DL w a n c l W)
  (hm : Mid W5 w.heap.size 3 1 (.slice a5 (n + ds.length) c5) (n + ds.length) (l.map IN ++ ds.map IN)) (hg : (W.alloc ob).grownBy W5 (Value.slice a n c).ownBlock) : DL w a5 (n + ds.length) c5 (l ++ ds) W5 := by
 refine ⟨by rw [List.map_append]; exact hm, Below.trans h.bel ?_⟩
 have h1 : Below w.heap.size (W.alloc ob) W5 := (Keeps.of_grown hg (S := fun b => w.heap.size ≤ b) fun b hb => (h.mid.lt b hb).1).below (Nat.le_trans h.bel.size (by simp)) fun b hb => hb
 exact Below.trans ((belowBox W ob).mono h.bel.size) h1
theorem f2back (a : Option Addr) (n c x m : Nat) (w : World) (h : RD w a n c x) (hm2 : 2 ≤ m) (hm : m ≤ 256) (hn : n ≤ 4294967296) : Calls Tryz.prog 145 #[.slice a n c, .int .i64 m] w
  fun e w' => ∃ a' c', e = .returned (.slice a' (ndig m x) c') ∧ DL w a' (ndig m x) c' (low m (ndig m x) x) w' := by
 obtain ⟨i0, hi, hz0, hz1, hz2⟩ := info_parts Tryz.infoInt
 have HNX := Lib.hid h.1
 have hl := h.2.len
 have HX := Lib.hid h
 have hbd : ndig m x ≤ 16 * n := ndig_lt (by omega) (by
  have h1 := lt_nd x
  rw [← h.1, show (65536 : Nat) = 2 ^ 16 from rfl, ← Nat.pow_mul] at h1
  exact Nat.lt_of_lt_of_le h1 (Nat.pow_le_pow_left hm2 _))
 clear h
 go_enter Tryz.func145, Tryz.ntmps145
 go_wp2_with fail
 go_loopw [0, 5] (fun v0 v5 wr => ∃ (j : Nat) (a1 : Option Addr) (n1 c1 : Nat) (a5 : Option Addr) (c5 : Nat), v0 = .slice a1 n1 c1 ∧ v5 = .slice a5 j c5 ∧ RD wr a1 n1 c1 (x / m ^ j) ∧ j + ndig m (x / m ^ j) = ndig m x ∧ DL w a5 j c5 (low m j x) wr) (fun _ v5 _ => ndig m x - (match v5 with | .slice _ k _ => k | _ => 0))
 case atStart => exact ⟨0, a, n, c, none, 0, rfl, rfl, by rw [Nat.pow_zero, Nat.div_one]; exact HX.out, by rw [Nat.pow_zero, Nat.div_one, Nat.zero_add], DL.nil w⟩
 case round =>
  obtain ⟨j, a1, n1, c1, a5, c5, rfl, rfl, hr, hj, ho⟩ := hrel
  have hl1 := hr.2.len
  have hcl := ho.len
  have hxj : x / m ^ j ≤ x := Nat.div_le_self _ _
  have hn1 : n1 ≤ n := by rw [hr.1, HNX.out]; exact nd_le (Nat.lt_of_le_of_lt hxj (lt_nd x))
  have HO := Lib.hid ho
  have HR := Lib.hid hr
  rcases Nat.eq_zero_or_pos n1 with h0 | h0
  ·
   have hx0 : x / m ^ j = 0 := by have := lt_nd (x / m ^ j); rw [← hr.1, h0] at this; simpa using this
   have HJ := Lib.hid (show ndig m x = j by rw [← hj, hx0, ndig_zero]; rfl)
   subst h0
   clear hr ho hj
   go_wp2_with fail
   go_ret
   exact ⟨a5, c5, by rw [HJ.out]; rfl, by rw [HJ.out]; exact HO.out⟩
  ·
   have hx0 : x / m ^ j ≠ 0 := fun h1 => by have := hr.1; rw [h1, nd_zero] at this; omega
   have hst := ndig_pos (B := m) hm2 hx0
   rw [Nat.div_div_eq_div_mul, ← Nat.pow_succ] at hst
   have HJ := Lib.hid (show j + 1 + ndig m (x / m ^ (j + 1)) = ndig m x by rw [← hj, hst]; simp only [Nat.succ_eq_add_one]; omega)
   have hjm : j < ndig m x := by omega
   have HHF := Lib.hid (half_own a1 n1 c1 (x / m ^ j) m wr hr (by omega) (by omega) (by omega))
   rw [Nat.div_div_eq_div_mul, ← Nat.pow_succ] at HHF
   have HSN := Lib.hid (low_snoc m j x)
   have hdm : x / m ^ j % m < m := Nat.mod_lt _ (by omega)
   generalize x / m ^ j % m = t at HHF HSN hdm
   have HLT := Lib.hid (fun k hk => (ho.mid.lt k hk).2)
   clear hr ho hj hst
   go_wp2_with fail
   refine HHF.out.mono ?_
   rintro e w2 ⟨a2, n2, c2, rfl, hn2, hr2⟩
   have HN2 := Lib.hid hn2
   have HM2 := Lib.hid (hr2.mid.alloc (.cells #[.int .i64 ((t : Nat) : Int)] 3))
   have HO2 := Lib.hid (HO.out.call hr2.bel)
   clear hn2 hr2 HHF
   have HM3 := Lib.hid (HO2.out.mid.alloc (.cells #[.int .i64 ((t : Nat) : Int)] 3))
   have HS3 := Lib.hid ((Sl.lit w2 3 1 1 ([t].map IN) (by unfold maxLen; omega) rfl).src (P := Tryz.prog) Tryz.underlyingIS (one_IN [t]))
   have HW3 := Lib.hid (Nat.le_trans HO2.out.bel.size (belowBox w2 (.cells #[.int .i64 ((t : Nat) : Int)] 3)).size)
   go_wp2_with (at_builtin; refine wpList_append_mid (v := .slice a5 j c5) rfl _ _ 55 55 rfl i0 (.int .i64 0) 8 Tryz.underlyingIS hi hz0 hz1 hz2 rfl rfl HM3.out _ rfl 1 _ HS3.out (by unfold maxLen; omega) (by omega) HW3.out ?_; intro a6 c6 w6 hmo hgo hbo; have HP := Lib.hid (show DL w a6 (j + 1) c6 _ w6 from HO2.out.push (ds := [t]) hmo hgo); have HR6 := Lib.hid (HM2.out.grown hgo fun k hk he => by have h1 := (HM2.out.lt k hk).1; have h2 := HLT.out k he.symm; omega); clear hmo hgo hbo HM3 HS3 HW3 HM2; go_wp2_with fail)
   go_roundw
   case rel => exact ⟨j + 1, a2, n2, c2, a6, c6, rfl, rfl, ⟨HN2.out, Sl.ofMid HR6.out⟩, HJ.out, by rw [HSN.out]; exact HP.out⟩
   case measure => simp; omega
set_option maxRecDepth 100000
set_option maxHeartbeats 4000000
theorem f2bytes (a : Option Addr) (n c x : Nat) (w : World) (h : RD w a n c x) (hn : n ≤ 4294967296) : Calls Tryz.prog 141 #[.slice a n c] w
  fun e w' => ∃ a' c', e = .returned (.slice a' (ndig 256 x) c') ∧ Mid w' w.heap.size 5 1 (.slice a' (ndig 256 x) c') (ndig 256 x) ((dig 256 x).map BN) ∧ Below w.heap.size w w' := by
 obtain ⟨i0, hi, hz0, hz1, hz2⟩ := info_parts Tryz.info_bytes
 have HBK := Lib.hid (f2back a n c x 256 w h (by omega) (by omega) hn)
 have hKb : ndig 256 x ≤ 68719476736 := by
  refine Nat.le_trans (ndig_lt (k := 16 * n) (by omega) ?_) (by omega)
  have h1 := lt_nd x
  rw [← h.1, show (65536 : Nat) = 2 ^ 16 from rfl, ← Nat.pow_mul] at h1
  exact Nat.lt_of_lt_of_le h1 (Nat.pow_le_pow_left (by omega) _)
 obtain ⟨K, hK⟩ : ∃ K, ndig 256 x = K := ⟨_, rfl⟩
 have HDA := Lib.hid (fun i (hi : i < K) => (by
  have := dig_at (B := 256) (n := x) (j := i) (by omega)
  rw [hK] at this
  exact this : (dig 256 x)[i]? = some (x / 256 ^ (K - 1 - i) % 256)))
 have HDL := Lib.hid (show (dig 256 x).length = K by rw [dig_len, hK])
 have HLW := Lib.hid (fun i (hi : i < K) => (by unfold low; rw [List.getElem?_map, List.getElem?_map, List.getElem?_range hi]; rfl : ((low 256 K x).map IN)[i]? = some (IN (x / 256 ^ i % 256))))
 rw [hK] at HBK hKb ⊢
 clear h hK
 go_enter Tryz.func141, Tryz.ntmps141
 go_wp2_with fail
 refine HBK.out.mono ?_
 rintro e w1 ⟨a1, c1, rfl, hd⟩
 have hcl1 := hd.len
 have HS := Lib.hid (Sl.ofMid hd.mid)
 have HB1 := Lib.hid hd.bel
 clear hd
 go_wp2_with fail
 go_loopw [4, 5] (fun v4 v5 wr => ∃ (i : Nat) (a5 : Option Addr) (c5 : Nat), i ≤ K ∧ v5 = .int .i64 ((K : Int) - 1 - (i : Int)) ∧ v4 = .slice a5 i c5 ∧ YB w1 [] [] a5 i c5 ((dig 256 x).take i) wr) (fun _ v5 _ => (intOf v5 + 1).toNat)
 case atStart => exact ⟨0, none, 0, Nat.zero_le _, by go_num, rfl, YB.start (BS.start w1)⟩
 case round =>
  obtain ⟨i, a5, c5, hiK, rfl, rfl, hy⟩ := hrel
  have HY := Lib.hid hy
  have hcl : i ≤ c5 ∧ c5 ≤ 9223372036854775807 := ⟨hy.bytes.len.2.1, hy.bytes.len.2.2.1⟩
  by_cases hlt : i < K
  ·
   obtain ⟨j, hj⟩ : ∃ j, K - 1 - i = j := ⟨_, rfl⟩
   have hda := HDA.out i hlt
   rw [hj] at hda
   have hjK : j < K := by omega
   have e0 : (K : Int) - 1 - (i : Int) = (j : Int) := by omega
   have hlw := HLW.out j hjK
   obtain ⟨b, o, c', he, _, _, hb, hc⟩ := Sl.plain (Sl.below HS.out hy.st.bel) (by omega)
   injection he with he1 he2 he3
   have hcell := hc j _ hlw
   subst he1
   have hq : x / 256 ^ j % 256 < 256 := Nat.mod_lt _ (by omega)
   generalize x / 256 ^ j % 256 = q at hda hcell hq
   have hcell : wr.cell? ⟨b, o + j, none⟩ = some (.int .i64 ((q : Nat) : Int)) := hcell
   have HTK := Lib.hid (show (dig 256 x).take (i + 1) = (dig 256 x).take i ++ [q] by rw [List.take_add_one, hda]; rfl)
   have ew : IntKind.u8.wrap ((q : Nat) : Int) = (q : Int) := by unfold IntKind.wrap; simp [IntKind.bits, IntKind.signed]; omega
   rw [e0]
   clear hy hda hlw hc he2 he3 hj
   have HM3 := Lib.hid (HY.out.mid.alloc (.cells #[.int .u8 ((q : Nat) : Int)] 5))
   have HS3 := Lib.hid ((Sl.lit wr 5 1 1 ([q].map BN) (by unfold maxLen; omega) rfl).src (P := Tryz.prog) Tryz.underlying32 (one_BN [q]))
   have HW3 := Lib.hid (Nat.le_trans HY.out.st.bel.size (belowBox wr (.cells #[.int .u8 ((q : Nat) : Int)] 5)).size)
   go_wp2_with (at_builtin; refine wpList_append_mid (v := .slice a5 i c5) rfl _ _ 32 32 rfl i0 (.int .u8 0) 1 Tryz.underlying32 hi hz0 hz1 hz2 rfl rfl HM3.out _ rfl 1 _ HS3.out (by unfold maxLen; omega) (by omega) HW3.out ?_; intro a6 c6 w6 hmo hgo hbo; have HP := Lib.hid (show YB _ _ _ a6 (i + 1) c6 _ w6 from HY.out.push (ys := [q]) hmo hgo hbo); clear hmo hgo hbo HM3 HS3 HW3; go_wp2_with fail)
   go_roundw
   case rel => exact ⟨i + 1, a6, c6, by omega, by go_num, rfl, by rw [HTK.out]; exact HP.out⟩
   case measure => simp [intOf]
  ·
   obtain rfl : i = K := by omega
   have HT := Lib.hid (show (dig 256 x).take i = dig 256 x from List.take_of_length_le (by rw [HDL.out]; omega))
   clear hy
   go_wp2_with fail
   go_ret
   exact ⟨a5, c5, rfl, by have := HY.out.mid; rw [HT.out] at this; exact this.mono HB1.out.size, bthen HB1.out HY.out.st.bel⟩
set_option maxRecDepth 100000
set_option maxHeartbeats 4000000
def RT (w : World) (a : Option Addr) (n c y : Nat) : Prop := RD w a n c y
theorem RD.rt {w : World} {a : Option Addr} {n c y : Nat} (h : RD w a n c y) : RT w a n c y := h
theorem RT.rd {w : World} {a : Option Addr} {n c y : Nat} (h : RT w a n c y) : RD w a n c y := h
theorem RT.lt {w : World} {a : Option Addr} {n c y : Nat} (_ : RT w a n c y) : True := trivial
theorem RT.below {w w' : World} {a : Option Addr} {n c y : Nat} (h : RT w a n c y) (hb : Below w.heap.size w w') (_ : True) : RT w' a n c y := RD.below h hb
theorem DW.cellset {w : World} {a : Option Addr} {n c y : Nat} (h : DW w a n c y) {p : Addr} {u0 : Value} (hp : w.cell? p = some u0) (h0 : ∀ x, u0 ≠ .int .i64 x) (u : Value) : DW (w.setCell p u) a n c y := by
 refine ⟨h.1, ?_⟩
 rcases h.2 with h1 | ⟨b, o, c', e, h1, h2, h3, h4⟩
 ·
  exact .inl h1
 ·
  refine .inr ⟨b, o, c', e, h1, h2, by simpa using h3, fun j v hj => ?_⟩
  have hc := h4 j v hj
  rw [World.cell?_setCell_other]
  ·
   exact hc
  ·
   intro e2
   rw [← e2, hp] at hc
   cases hc
   rw [List.getElem?_map] at hj
   obtain ⟨x, _, hx⟩ := Option.map_eq_some_iff.1 hj
   exact h0 _ hx.symm
theorem RD.set {w W : World} {bs : List Bk} {ns : List Nm} {a : Option Addr} {n c y : Nat} (h : RD W a n c y) (hb : BS w bs ns W) (i j : Nat) (x : Value) {b : Bk} {c0 : Value} (hi : bs[i]? = some b) (hj : b.cs[j]? = some c0) (hn : ∀ s, c0 ≠ .int .i64 s) : RD (W.setCell ⟨b.p, j, none⟩ x) a n c y :=
 ⟨h.1, h.2.cellset (hb.cell i j hi hj) hn x⟩
theorem RT.set {w W : World} {bs : List Bk} {ns : List Nm} {a : Option Addr} {n c y : Nat} (h : RT W a n c y) (hb : BS w bs ns W) (i j : Nat) (x : Value) {b : Bk} {c0 : Value} (hi : bs[i]? = some b) (hj : b.cs[j]? = some c0) (hn : ∀ s, c0 ≠ .int .i64 s) : RT (W.setCell ⟨b.p, j, none⟩ x) a n c y := RD.set h hb i j x hi hj hn
theorem RT.one {W : World} {p : Nat} (h : W.heap[p]? = some (.cells #[.int .i64 1] 3 (0, 0))) : RT W (some ⟨p, 0, none⟩) 1 1 1 :=
 ⟨nd_one.symm, rfl, .inr ⟨p, 0, 1, rfl, Nat.le_refl _, by unfold maxLen; omega, lt_of_block h, fun j u hj => by
  match j, hj with
  | 0, hj => injection hj with hj; subst hj; exact cell_of_block h rfl⟩⟩
structure QW (w : World) (a : Option Addr) (n c : Nat) (b : Option Addr) (m d x y : Nat) : Prop where
 num : RD w a n c x
 den : RD w b m d y
theorem QW.lt {w : World} {a b : Option Addr} {n c m d x y : Nat} (_ : QW w a n c b m d x y) : True := trivial
theorem QW.below {w w' : World} {a b : Option Addr} {n c m d x y : Nat} (h : QW w a n c b m d x y) (hb : Below w.heap.size w w') (_ : True := trivial) : QW w' a n c b m d x y := ⟨h.num.below hb, h.den.below hb⟩
theorem QW.set {w W : World} {bs : List Bk} {ns : List Nm} {a b : Option Addr} {n c m d x y : Nat} (h : QW W a n c b m d x y) (hb : BS w bs ns W) (i j : Nat) (u : Value) {k : Bk} {c0 : Value} (hi : bs[i]? = some k) (hj : k.cs[j]? = some c0) (hn : ∀ s, c0 ≠ .int .i64 s) : QW (W.setCell ⟨k.p, j, none⟩ u) a n c b m d x y :=
 ⟨h.num.set hb i j u hi hj hn, h.den.set hb i j u hi hj hn⟩
theorem nd_eq0 {y : Nat} : nd y = 0 ↔ y = 0 := ⟨fun h => by have := lt_nd y; rw [h] at this; simpa using this, fun h => by rw [h, nd_zero]⟩
theorem f7new (sg : Bool) (a : Option Addr) (n c x : Nat) (w : World) (h : RD w a n c x) : Calls Tryz.prog 76 #[.bool sg, .slice a n c] w fun e w' => e = .returned (.agg #[.bool (decide (newI sg x < 0)), .slice a n c]) ∧ Below w.heap.size w w' := by
 have hl := h.len
 have hz : (sg && x != 0) = (sg && decide (0 < n)) := by
  congr 1
  rcases Nat.eq_zero_or_pos n with h0 | h0
  ·
   rw [show x = 0 from nd_eq0.1 (h.1.symm.trans h0), h0]; rfl
  ·
   rw [decide_eq_true h0]
   have : x ≠ 0 := fun e => by have := h.1; rw [e, nd_zero] at this; omega
   simpa using this
 rw [newI_neg, hz]
 clear h hz
 cases sg with
 | false =>
  obtain ⟨W0, hW0⟩ : ∃ W0, W0 = (w.alloc (.cells #[.bool false, .slice none 0 0] 58)) := ⟨_, rfl⟩
  have hbs : BS w [⟨w.heap.size, 58, [.bool false, .slice none 0 0]⟩] [] (w.alloc (.cells #[.bool false, .slice none 0 0] 58)) :=
    ((BS.start w).alloc (p := w.heap.size) rfl 58 [.bool false, .slice none 0 0] rfl)
  rw [← hW0] at hbs
  have HW0 := Lib.hid hW0
  have HN := Lib.hid hbs
  clear hW0 hbs
  go_enter Tryz.func76, Tryz.ntmps76
  go_upto_region 1 with fail
  rw [← HW0.out]
  have ⟨k00, f00, k01, f01⟩ := HN.out.cf2 0 rfl
  have HE := Lib.hid (((HN.out).set 0 0 rfl rfl (fun _ => by simp) (.bool false)).set 0 1 rfl rfl (fun _ => by simp) (.slice a n c))
  have ⟨j0_0, j1_0⟩ := HE.out.cg2 0 rfl
  go_wp2_with fail
  refine bodyPost_ret (v := .agg #[.bool false, .slice a n c]) (by simp [results, Tryz.results76, go_sem, j0_0, j1_0, k00, k01]) rfl ?_
  exact ⟨rfl, HE.out.bel⟩
 | true =>
  rcases Nat.eq_zero_or_pos n with h0 | h0
  ·
   subst h0
   have e0 : decide (0 < 0) = false := rfl
   rw [e0]
   obtain ⟨W0, hW0⟩ : ∃ W0, W0 = (w.alloc (.cells #[.bool false, .slice none 0 0] 58)) := ⟨_, rfl⟩
   have hbs : BS w [⟨w.heap.size, 58, [.bool false, .slice none 0 0]⟩] [] (w.alloc (.cells #[.bool false, .slice none 0 0] 58)) :=
     ((BS.start w).alloc (p := w.heap.size) rfl 58 [.bool false, .slice none 0 0] rfl)
   rw [← hW0] at hbs
   have HW0 := Lib.hid hW0
   have HN := Lib.hid hbs
   clear hW0 hbs
   go_enter Tryz.func76, Tryz.ntmps76
   go_upto_region 1 with fail
   rw [← HW0.out]
   have ⟨k00, f00, k01, f01⟩ := HN.out.cf2 0 rfl
   have HE := Lib.hid (((HN.out).set 0 0 rfl rfl (fun _ => by simp) (.bool false)).set 0 1 rfl rfl (fun _ => by simp) (.slice a 0 c))
   have ⟨j0_0, j1_0⟩ := HE.out.cg2 0 rfl
   go_wp2_with fail
   refine bodyPost_ret (v := .agg #[.bool false, .slice a 0 c]) (by simp [results, Tryz.results76, go_sem, j0_0, j1_0, k00, k01]) rfl ?_
   exact ⟨rfl, HE.out.bel⟩
  ·
   have e0 : decide (0 < n) = true := decide_eq_true h0
   rw [e0]
   obtain ⟨W0, hW0⟩ : ∃ W0, W0 = (w.alloc (.cells #[.bool false, .slice none 0 0] 58)) := ⟨_, rfl⟩
   have hbs : BS w [⟨w.heap.size, 58, [.bool false, .slice none 0 0]⟩] [] (w.alloc (.cells #[.bool false, .slice none 0 0] 58)) :=
     ((BS.start w).alloc (p := w.heap.size) rfl 58 [.bool false, .slice none 0 0] rfl)
   rw [← hW0] at hbs
   have HW0 := Lib.hid hW0
   have HN := Lib.hid hbs
   clear hW0 hbs
   go_enter Tryz.func76, Tryz.ntmps76
   go_upto_region 1 with fail
   rw [← HW0.out]
   have ⟨k00, f00, k01, f01⟩ := HN.out.cf2 0 rfl
   have HE := Lib.hid (((HN.out).set 0 0 rfl rfl (fun _ => by simp) (.bool true)).set 0 1 rfl rfl (fun _ => by simp) (.slice a n c))
   have ⟨j0_0, j1_0⟩ := HE.out.cg2 0 rfl
   go_wp2_with fail
   refine bodyPost_ret (v := .agg #[.bool true, .slice a n c]) (by simp [results, Tryz.results76, go_sem, j0_0, j1_0, k00, k01]) rfl ?_
   exact ⟨rfl, HE.out.bel⟩
theorem f8new_walk (sg qs : Bool) (a b : Option Addr) (n c m d x y g u u3 v v3 : Nat) (w : World) (h : RD w a n c x) (h2 : RD w b m d y)
  (HGC : Hid (∀ W, RT W a n c x → RT W b m d y → Calls Tryz.prog 94 #[.slice a n c, .slice b m d] W (RetD g W)))
  (HDX : Hid (∀ a8 n8 c8 W, Below w.heap.size w W → RT W a n c x → RT W a8 n8 c8 g → Calls Tryz.prog 138 #[.slice a n c, .slice a8 n8 c8] W fun e w' => ∃ a1 n1 c1 a2 n2 c2, e = .returned (.tuple #[.slice a1 n1 c1, .slice a2 n2 c2]) ∧ RD w' a1 n1 c1 u ∧ RD w' a2 n2 c2 u3 ∧ OwnS w a1 n1 c1 ∧ Below W.heap.size W w'))
  (HDY : Hid (∀ a8 n8 c8 W, Below w.heap.size w W → RT W b m d y → RT W a8 n8 c8 g → Calls Tryz.prog 138 #[.slice b m d, .slice a8 n8 c8] W fun e w' => ∃ a1 n1 c1 a2 n2 c2, e = .returned (.tuple #[.slice a1 n1 c1, .slice a2 n2 c2]) ∧ RD w' a1 n1 c1 v ∧ RD w' a2 n2 c2 v3 ∧ OwnS w a1 n1 c1 ∧ Below W.heap.size W w'))
  (HNW : Hid (∀ a8 n8 c8 W, RT W a8 n8 c8 u → Calls Tryz.prog 76 #[.bool sg, .slice a8 n8 c8] W fun e w' => e = .returned (.agg #[.bool qs, .slice a8 n8 c8]) ∧ Below W.heap.size W w')) :
  Calls Tryz.prog 74 #[.agg #[.bool sg, .slice a n c], .agg #[.bool false, .slice b m d]] w (fun e w' => ∃ a8 n8 c8 b9 m9 d9, e = .returned (.agg #[.bool qs, .slice a8 n8 c8, .slice b9 m9 d9]) ∧ RD w' a8 n8 c8 u ∧ RD w' b9 m9 d9 v ∧ OwnS w a8 n8 c8 ∧ OwnS w b9 m9 d9 ∧ Below w.heap.size w w') := by
 cases sg with
 | false =>
 obtain ⟨W0, hW0⟩ : ∃ W0, W0 = (((w.alloc (.cells #[.bool false, .slice a n c] 58)).alloc (.cells #[.bool false, .slice b m d] 58)).alloc (.cells #[.bool false, .slice none 0 0, .slice none 0 0] 60)) := ⟨_, rfl⟩
 have hbs : BS w [⟨w.heap.size, 58, [.bool false, .slice a n c]⟩, ⟨w.heap.size + 1, 58, [.bool false, .slice b m d]⟩, ⟨w.heap.size + 1 + 1, 60, [.bool false, .slice none 0 0, .slice none 0 0]⟩] [] (((w.alloc (.cells #[.bool false, .slice a n c] 58)).alloc (.cells #[.bool false, .slice b m d] 58)).alloc (.cells #[.bool false, .slice none 0 0, .slice none 0 0] 60)) :=
   ((((BS.start w).alloc (p := w.heap.size) rfl 58 [.bool false, .slice a n c] rfl).alloc (p := w.heap.size + 1) (by simp) 58 [.bool false, .slice b m d] rfl).alloc (p := w.heap.size + 1 + 1) (by simp) 60 [.bool false, .slice none 0 0, .slice none 0 0] rfl)
 rw [← hW0] at hbs
 have HW0 := Lib.hid hW0
 have HN := Lib.hid hbs
 clear hW0 hbs
 have HX := Lib.hid (show RT W0 a n c x from by rw [HW0.out]; exact (((h.rt.below (belowBox _ _) trivial).below (belowBox _ _) trivial).below (belowBox _ _) trivial))
 clear h
 have HY := Lib.hid (show RT W0 b m d y from by rw [HW0.out]; exact (((h2.rt.below (belowBox _ _) trivial).below (belowBox _ _) trivial).below (belowBox _ _) trivial))
 clear h2
 go_enter Tryz.func74, Tryz.ntmps74
 go_wp2_with fail
 rw [← HW0.out]
 refine (HGC.out _ HX.out HY.out).mono ?_
 rintro e w1 ⟨a1, n1, c1, rfl, hr0, hb⟩
 replace HX := Lib.hid (show RT w1 a n c x from HX.out.below hb HX.out.lt)
 replace HY := Lib.hid (show RT w1 b m d y from HY.out.below hb HY.out.lt)
 have HG := Lib.hid hr0.rt
 replace HN := Lib.hid (HN.out.call hb)
 clear hb hr0
 have ⟨k00, f00, k01, f01⟩ := HN.out.cf2 0 rfl
 have ⟨k10, f10, k11, f11⟩ := HN.out.cf2 1 rfl
 have ⟨k20, f20, k21, f21, k22, f22⟩ := HN.out.cf3 2 rfl
 go_wp2_with fail
 clear k00 f00 k01 f01 k10 f10 k11 f11 k20 f20 k21 f21 k22 f22
 refine (HDX.out _ _ _ _ HN.out.bel HX.out HG.out).mono ?_
 rintro e w2 ⟨a2, n2, c2, a3, n3, c3, rfl, hr0, hr1, ho0, hb⟩
 have HOU := Lib.hid ho0
 clear ho0
 replace HX := Lib.hid (show RT w2 a n c x from HX.out.below hb HX.out.lt)
 replace HY := Lib.hid (show RT w2 b m d y from HY.out.below hb HY.out.lt)
 replace HG := Lib.hid (show RT w2 a1 n1 c1 g from HG.out.below hb HG.out.lt)
 have HU := Lib.hid hr0.rt
 have HU3 := Lib.hid hr1.rt
 replace HN := Lib.hid (HN.out.call hb)
 clear hb hr0 hr1
 have ⟨k00, f00, k01, f01⟩ := HN.out.cf2 0 rfl
 have ⟨k10, f10, k11, f11⟩ := HN.out.cf2 1 rfl
 have ⟨k20, f20, k21, f21, k22, f22⟩ := HN.out.cf3 2 rfl
 go_wp2_with fail
 clear k00 f00 k01 f01 k10 f10 k11 f11 k20 f20 k21 f21 k22 f22
 refine (HDY.out _ _ _ _ HN.out.bel HY.out HG.out).mono ?_
 rintro e w3 ⟨a4, n4, c4, a5, n5, c5, rfl, hr0, hr1, ho0, hb⟩
 have HOV := Lib.hid ho0
 clear ho0
 replace HX := Lib.hid (show RT w3 a n c x from HX.out.below hb HX.out.lt)
 replace HY := Lib.hid (show RT w3 b m d y from HY.out.below hb HY.out.lt)
 replace HG := Lib.hid (show RT w3 a1 n1 c1 g from HG.out.below hb HG.out.lt)
 replace HU := Lib.hid (show RT w3 a2 n2 c2 u from HU.out.below hb HU.out.lt)
 replace HU3 := Lib.hid (show RT w3 a3 n3 c3 u3 from HU3.out.below hb HU3.out.lt)
 have HV := Lib.hid hr0.rt
 have HV3 := Lib.hid hr1.rt
 replace HN := Lib.hid (HN.out.call hb)
 clear hb hr0 hr1
 have ⟨k00, f00, k01, f01⟩ := HN.out.cf2 0 rfl
 have ⟨k10, f10, k11, f11⟩ := HN.out.cf2 1 rfl
 have ⟨k20, f20, k21, f21, k22, f22⟩ := HN.out.cf3 2 rfl
 go_wp2_with fail
 clear k00 f00 k01 f01 k10 f10 k11 f11 k20 f20 k21 f21 k22 f22
 refine (HNW.out _ _ _ _ HU.out).mono ?_
 rintro e w4 ⟨rfl, hb⟩
 replace HX := Lib.hid (show RT w4 a n c x from HX.out.below hb HX.out.lt)
 replace HY := Lib.hid (show RT w4 b m d y from HY.out.below hb HY.out.lt)
 replace HG := Lib.hid (show RT w4 a1 n1 c1 g from HG.out.below hb HG.out.lt)
 replace HU := Lib.hid (show RT w4 a2 n2 c2 u from HU.out.below hb HU.out.lt)
 replace HU3 := Lib.hid (show RT w4 a3 n3 c3 u3 from HU3.out.below hb HU3.out.lt)
 replace HV := Lib.hid (show RT w4 a4 n4 c4 v from HV.out.below hb HV.out.lt)
 replace HV3 := Lib.hid (show RT w4 a5 n5 c5 v3 from HV3.out.below hb HV3.out.lt)
 replace HN := Lib.hid (HN.out.call hb)
 clear hb 
 have HUE := Lib.hid (RT.set (RT.set (RT.set HU.out HN.out 2 0 (.bool qs) rfl rfl (fun _ => by simp)) (HN.out.set 2 0 rfl rfl (fun _ => by simp) (.bool qs)) 2 1 (.slice a2 n2 c2) rfl rfl (fun _ => by simp)) ((HN.out.set 2 0 rfl rfl (fun _ => by simp) (.bool qs)).set 2 1 rfl rfl (fun _ => by simp) (.slice a2 n2 c2)) 2 2 (.slice a4 n4 c4) rfl rfl (fun _ => by simp))
 have HVE := Lib.hid (RT.set (RT.set (RT.set HV.out HN.out 2 0 (.bool qs) rfl rfl (fun _ => by simp)) (HN.out.set 2 0 rfl rfl (fun _ => by simp) (.bool qs)) 2 1 (.slice a2 n2 c2) rfl rfl (fun _ => by simp)) ((HN.out.set 2 0 rfl rfl (fun _ => by simp) (.bool qs)).set 2 1 rfl rfl (fun _ => by simp) (.slice a2 n2 c2)) 2 2 (.slice a4 n4 c4) rfl rfl (fun _ => by simp))
 have ⟨k00, f00, k01, f01⟩ := HN.out.cf2 0 rfl
 have ⟨k10, f10, k11, f11⟩ := HN.out.cf2 1 rfl
 have ⟨k20, f20, k21, f21, k22, f22⟩ := HN.out.cf3 2 rfl
 have HE := Lib.hid ((((HN.out).set 2 0 rfl rfl (fun _ => by simp) (.bool qs)).set 2 1 rfl rfl (fun _ => by simp) (.slice a2 n2 c2)).set 2 2 rfl rfl (fun _ => by simp) (.slice a4 n4 c4))
 have ⟨j0_2, j1_2, j2_2⟩ := HE.out.cg3 2 rfl
 go_wp2_with fail
 refine bodyPost_ret (v := .agg #[.bool qs, .slice a2 n2 c2, .slice a4 n4 c4]) (by simp [results, Tryz.results74, go_sem, j0_2, j1_2, j2_2, k00, k01, k10, k11, k20, k21, k22]) rfl ?_
 exact ⟨a2, n2, c2, a4, n4, c4, rfl, HUE.out.rd, HVE.out.rd, HOU.out, HOV.out, HE.out.bel⟩
 | true =>
 obtain ⟨W0, hW0⟩ : ∃ W0, W0 = (((w.alloc (.cells #[.bool true, .slice a n c] 58)).alloc (.cells #[.bool false, .slice b m d] 58)).alloc (.cells #[.bool false, .slice none 0 0, .slice none 0 0] 60)) := ⟨_, rfl⟩
 have hbs : BS w [⟨w.heap.size, 58, [.bool true, .slice a n c]⟩, ⟨w.heap.size + 1, 58, [.bool false, .slice b m d]⟩, ⟨w.heap.size + 1 + 1, 60, [.bool false, .slice none 0 0, .slice none 0 0]⟩] [] (((w.alloc (.cells #[.bool true, .slice a n c] 58)).alloc (.cells #[.bool false, .slice b m d] 58)).alloc (.cells #[.bool false, .slice none 0 0, .slice none 0 0] 60)) :=
   ((((BS.start w).alloc (p := w.heap.size) rfl 58 [.bool true, .slice a n c] rfl).alloc (p := w.heap.size + 1) (by simp) 58 [.bool false, .slice b m d] rfl).alloc (p := w.heap.size + 1 + 1) (by simp) 60 [.bool false, .slice none 0 0, .slice none 0 0] rfl)
 rw [← hW0] at hbs
 have HW0 := Lib.hid hW0
 have HN := Lib.hid hbs
 clear hW0 hbs
 have HX := Lib.hid (show RT W0 a n c x from by rw [HW0.out]; exact (((h.rt.below (belowBox _ _) trivial).below (belowBox _ _) trivial).below (belowBox _ _) trivial))
 clear h
 have HY := Lib.hid (show RT W0 b m d y from by rw [HW0.out]; exact (((h2.rt.below (belowBox _ _) trivial).below (belowBox _ _) trivial).below (belowBox _ _) trivial))
 clear h2
 go_enter Tryz.func74, Tryz.ntmps74
 go_wp2_with fail
 rw [← HW0.out]
 refine (HGC.out _ HX.out HY.out).mono ?_
 rintro e w1 ⟨a1, n1, c1, rfl, hr0, hb⟩
 replace HX := Lib.hid (show RT w1 a n c x from HX.out.below hb HX.out.lt)
 replace HY := Lib.hid (show RT w1 b m d y from HY.out.below hb HY.out.lt)
 have HG := Lib.hid hr0.rt
 replace HN := Lib.hid (HN.out.call hb)
 clear hb hr0
 have ⟨k00, f00, k01, f01⟩ := HN.out.cf2 0 rfl
 have ⟨k10, f10, k11, f11⟩ := HN.out.cf2 1 rfl
 have ⟨k20, f20, k21, f21, k22, f22⟩ := HN.out.cf3 2 rfl
 go_wp2_with fail
 clear k00 f00 k01 f01 k10 f10 k11 f11 k20 f20 k21 f21 k22 f22
 refine (HDX.out _ _ _ _ HN.out.bel HX.out HG.out).mono ?_
 rintro e w2 ⟨a2, n2, c2, a3, n3, c3, rfl, hr0, hr1, ho0, hb⟩
 have HOU := Lib.hid ho0
 clear ho0
 replace HX := Lib.hid (show RT w2 a n c x from HX.out.below hb HX.out.lt)
 replace HY := Lib.hid (show RT w2 b m d y from HY.out.below hb HY.out.lt)
 replace HG := Lib.hid (show RT w2 a1 n1 c1 g from HG.out.below hb HG.out.lt)
 have HU := Lib.hid hr0.rt
 have HU3 := Lib.hid hr1.rt
 replace HN := Lib.hid (HN.out.call hb)
 clear hb hr0 hr1
 have ⟨k00, f00, k01, f01⟩ := HN.out.cf2 0 rfl
 have ⟨k10, f10, k11, f11⟩ := HN.out.cf2 1 rfl
 have ⟨k20, f20, k21, f21, k22, f22⟩ := HN.out.cf3 2 rfl
 go_wp2_with fail
 clear k00 f00 k01 f01 k10 f10 k11 f11 k20 f20 k21 f21 k22 f22
 refine (HDY.out _ _ _ _ HN.out.bel HY.out HG.out).mono ?_
 rintro e w3 ⟨a4, n4, c4, a5, n5, c5, rfl, hr0, hr1, ho0, hb⟩
 have HOV := Lib.hid ho0
 clear ho0
 replace HX := Lib.hid (show RT w3 a n c x from HX.out.below hb HX.out.lt)
 replace HY := Lib.hid (show RT w3 b m d y from HY.out.below hb HY.out.lt)
 replace HG := Lib.hid (show RT w3 a1 n1 c1 g from HG.out.below hb HG.out.lt)
 replace HU := Lib.hid (show RT w3 a2 n2 c2 u from HU.out.below hb HU.out.lt)
 replace HU3 := Lib.hid (show RT w3 a3 n3 c3 u3 from HU3.out.below hb HU3.out.lt)
 have HV := Lib.hid hr0.rt
 have HV3 := Lib.hid hr1.rt
 replace HN := Lib.hid (HN.out.call hb)
 clear hb hr0 hr1
 have ⟨k00, f00, k01, f01⟩ := HN.out.cf2 0 rfl
 have ⟨k10, f10, k11, f11⟩ := HN.out.cf2 1 rfl
 have ⟨k20, f20, k21, f21, k22, f22⟩ := HN.out.cf3 2 rfl
 go_wp2_with fail
 clear k00 f00 k01 f01 k10 f10 k11 f11 k20 f20 k21 f21 k22 f22
 refine (HNW.out _ _ _ _ HU.out).mono ?_
 rintro e w4 ⟨rfl, hb⟩
 replace HX := Lib.hid (show RT w4 a n c x from HX.out.below hb HX.out.lt)
 replace HY := Lib.hid (show RT w4 b m d y from HY.out.below hb HY.out.lt)
 replace HG := Lib.hid (show RT w4 a1 n1 c1 g from HG.out.below hb HG.out.lt)
 replace HU := Lib.hid (show RT w4 a2 n2 c2 u from HU.out.below hb HU.out.lt)
 replace HU3 := Lib.hid (show RT w4 a3 n3 c3 u3 from HU3.out.below hb HU3.out.lt)
 replace HV := Lib.hid (show RT w4 a4 n4 c4 v from HV.out.below hb HV.out.lt)
 replace HV3 := Lib.hid (show RT w4 a5 n5 c5 v3 from HV3.out.below hb HV3.out.lt)
 replace HN := Lib.hid (HN.out.call hb)
 clear hb 
 have HUE := Lib.hid (RT.set (RT.set (RT.set HU.out HN.out 2 0 (.bool qs) rfl rfl (fun _ => by simp)) (HN.out.set 2 0 rfl rfl (fun _ => by simp) (.bool qs)) 2 1 (.slice a2 n2 c2) rfl rfl (fun _ => by simp)) ((HN.out.set 2 0 rfl rfl (fun _ => by simp) (.bool qs)).set 2 1 rfl rfl (fun _ => by simp) (.slice a2 n2 c2)) 2 2 (.slice a4 n4 c4) rfl rfl (fun _ => by simp))
 have HVE := Lib.hid (RT.set (RT.set (RT.set HV.out HN.out 2 0 (.bool qs) rfl rfl (fun _ => by simp)) (HN.out.set 2 0 rfl rfl (fun _ => by simp) (.bool qs)) 2 1 (.slice a2 n2 c2) rfl rfl (fun _ => by simp)) ((HN.out.set 2 0 rfl rfl (fun _ => by simp) (.bool qs)).set 2 1 rfl rfl (fun _ => by simp) (.slice a2 n2 c2)) 2 2 (.slice a4 n4 c4) rfl rfl (fun _ => by simp))
 have ⟨k00, f00, k01, f01⟩ := HN.out.cf2 0 rfl
 have ⟨k10, f10, k11, f11⟩ := HN.out.cf2 1 rfl
 have ⟨k20, f20, k21, f21, k22, f22⟩ := HN.out.cf3 2 rfl
 have HE := Lib.hid ((((HN.out).set 2 0 rfl rfl (fun _ => by simp) (.bool qs)).set 2 1 rfl rfl (fun _ => by simp) (.slice a2 n2 c2)).set 2 2 rfl rfl (fun _ => by simp) (.slice a4 n4 c4))
 have ⟨j0_2, j1_2, j2_2⟩ := HE.out.cg3 2 rfl
 go_wp2_with fail
 refine bodyPost_ret (v := .agg #[.bool qs, .slice a2 n2 c2, .slice a4 n4 c4]) (by simp [results, Tryz.results74, go_sem, j0_2, j1_2, j2_2, k00, k01, k10, k11, k20, k21, k22]) rfl ?_
 exact ⟨a2, n2, c2, a4, n4, c4, rfl, HUE.out.rd, HVE.out.rd, HOU.out, HOV.out, HE.out.bel⟩
def RetQ (q : Rat) (w : World) (e : Ending) (w' : World) : Prop := ∃ a n c b m d, e = .returned (.agg #[.bool (decide (q.num < 0)), .slice a n c, .slice b m d]) ∧ RD w' a n c q.num.natAbs ∧ RD w' b m d q.den ∧ Below w.heap.size w w'
def RetQO (q : Rat) (w0 w : World) (e : Ending) (w' : World) : Prop := ∃ a n c b m d, e = .returned (.agg #[.bool (decide (q.num < 0)), .slice a n c, .slice b m d]) ∧ RD w' a n c q.num.natAbs ∧ RD w' b m d q.den ∧ OwnS w0 a n c ∧ OwnS w0 b m d ∧ Below w.heap.size w w'
theorem RetQO.ret {q : Rat} {w0 w w' : World} {e : Ending} (h : RetQO q w0 w e w') : RetQ q w e w' := by
 obtain ⟨a, n, c, b, m, d, h1, h2, h3, _, _, h4⟩ := h
 exact ⟨a, n, c, b, m, d, h1, h2, h3, h4⟩
theorem f8new_own (z : Int) (y : Nat) (a b : Option Addr) (n c m d : Nat) (w : World) (h : RD w a n c z.natAbs) (h2 : RD w b m d y) (hy : y ≠ 0) (hn : n ≤ 68719476736) (hm : m ≤ 68719476736) :
  Calls Tryz.prog 74 #[.agg #[.bool (decide (z < 0)), .slice a n c], .agg #[.bool false, .slice b m d]] w (RetQO (Rat.divInt z y) w w) := by
 have hyz : (y : Int) ≠ 0 := by omega
 have hyn : (y : Int).natAbs = y := Int.natAbs_natCast y
 obtain ⟨g, hg⟩ : ∃ g, Nat.gcd z.natAbs y = g := ⟨_, rfl⟩
 have hg0 : 0 < g := by rw [← hg]; exact Nat.gcd_pos_of_pos_right _ (by omega)
 have hgy : g ≤ y := by rw [← hg]; exact Nat.gcd_le_right _ (by omega)
 have e1 : (Rat.divInt z y).num.natAbs = z.natAbs / g := by rw [rat_num z y hyz, newI_abs, hyn, hg]
 have e2 : (Rat.divInt z y).den = y / g := by rw [rat_den z y hyz, hyn, hg]
 have e3 : decide ((Rat.divInt z y).num < 0) = decide (newI (decide (z < 0)) (z.natAbs / g) < 0) := by
  rw [rat_num z y hyz, hyn, hg]
  congr 2
  rw [show decide ((y : Int) < 0) = false from decide_eq_false (by omega)]
  cases decide (z < 0) <;> rfl
 have gl : ∀ W a8 n8 c8, RT W a8 n8 c8 g → n8 ≤ 68719476736 := fun W a8 n8 c8 hh => by
  have := nd_up hgy
  rw [← hh.rd.1, ← h2.1] at this
  omega
 unfold RetQO
 rw [e1, e2, e3]
 exact f8new_walk _ _ a b n c m d z.natAbs y g _ (z.natAbs % g) _ (y % g) w h h2 (Lib.hid fun W q1 q2 => hg ▸ f2gcd a b n c m d _ y W q1 q2 hn hm)
  (Lib.hid fun a8 n8 c8 W hb q1 q2 => (f2divmod_own a a8 n c n8 c8 _ g W q1 q2 hg0 (by omega) (by have := gl W a8 n8 c8 q2; omega)).mono fun _ _ hh => by obtain ⟨a1, n1, c1, a2, n2, c2, h1, h2, h3, h4, h5⟩ := hh; exact ⟨a1, n1, c1, a2, n2, c2, h1, h2, h3, h4.base hb.size, h5⟩)
  (Lib.hid fun a8 n8 c8 W hb q1 q2 => (f2divmod_own b a8 m d n8 c8 _ g W q1 q2 hg0 (by omega) (by have := gl W a8 n8 c8 q2; omega)).mono fun _ _ hh => by obtain ⟨a1, n1, c1, a2, n2, c2, h1, h2, h3, h4, h5⟩ := hh; exact ⟨a1, n1, c1, a2, n2, c2, h1, h2, h3, h4.base hb.size, h5⟩)
  (Lib.hid fun a8 n8 c8 W q1 => f7new _ a8 n8 c8 _ W q1)
theorem RetQO.base {q : Rat} {w w0 w1 w' : World} {e : Ending} (h : RetQO q w0 w1 e w') (hb : w.heap.size ≤ w0.heap.size) : RetQO q w w1 e w' := by
 obtain ⟨a, n, c, b, m, d, h1, h2, h3, h4, h5, h6⟩ := h
 exact ⟨a, n, c, b, m, d, h1, h2, h3, h4.base hb, h5.base hb, h6⟩
theorem ref7_walk (sg zs : Bool) (a : Option Addr) (n c x : Nat) (w : World)
  (HOF : Hid (∀ W, Below w.heap.size w W → Calls Tryz.prog 73 #[.slice a n c] W (RetD x W)))
  (HNW : Hid (∀ a8 n8 c8 W, RT W a8 n8 c8 x → Calls Tryz.prog 76 #[.bool sg, .slice a8 n8 c8] W fun e w' => e = .returned (.agg #[.bool zs, .slice a8 n8 c8]) ∧ Below W.heap.size W w')) :
  Calls Tryz.prog 75 #[.agg #[.bool sg, .slice a n c]] w fun e w' => ∃ a8 n8 c8, e = .returned (.agg #[.bool zs, .slice a8 n8 c8]) ∧ RD w' a8 n8 c8 x ∧ Below w.heap.size w w' := by
 obtain ⟨W0, hW0⟩ : ∃ W0, W0 = ((w.alloc (.cells #[.bool sg, .slice a n c] 24)).alloc (.cells #[.bool false, .slice none 0 0] 58)) := ⟨_, rfl⟩
 have hbs : BS w [⟨w.heap.size, 24, [.bool sg, .slice a n c]⟩, ⟨w.heap.size + 1, 58, [.bool false, .slice none 0 0]⟩] [] ((w.alloc (.cells #[.bool sg, .slice a n c] 24)).alloc (.cells #[.bool false, .slice none 0 0] 58)) :=
   (((BS.start w).alloc (p := w.heap.size) rfl 24 [.bool sg, .slice a n c] rfl).alloc (p := w.heap.size + 1) (by simp) 58 [.bool false, .slice none 0 0] rfl)
 rw [← hW0] at hbs
 have HW0 := Lib.hid hW0
 have HN := Lib.hid hbs
 clear hW0 hbs
 go_enter Tryz.func75, Tryz.ntmps75
 go_upto_region 1 with fail
 rw [← HW0.out]
 replace HN := Lib.hid HN.out.drew
 refine wp_region_held_drew (S := fun W => W.cell? ⟨w.heap.size, 0, none⟩ = some (.bool sg) ∧ W.cell? ⟨w.heap.size, 1, none⟩ = some (.slice a n c)) (by kernel_rfl) (⟨HN.out.cell 0 0 rfl rfl, HN.out.cell 0 1 rfl rfl⟩) (fun hHeld => ?_)
 generalize W0.drew = wd at HN hHeld ⊢
 refine tm 0 (some 3) ?_
 refine tl 1 (some 4) ?_
 refine tm 2 (some 5) ?_
 refine tl 3 (some 6) ?_
 have tg := Mk.mk (v := 0) (d := 0)
 iterate 3
  all_goals first
  |
   have _ : Mk _ 0 := tg
   refine wpAnyH_ready (rs := [4]) (by kernel_rfl) (by simp) (AllReadyH.cons rfl (fun K hK => cT 0 1 fun tg => ?_) AllReadyH.nil)
  |
   have _ : Mk _ 1 := tg
   refine wpAnyH_ready (rs := [5]) (by kernel_rfl) (by simp) (AllReadyH.cons rfl (fun K hK => cT 1 2 fun tg => ?_) AllReadyH.nil)
  |
   have _ : Mk _ 2 := tg
   refine wpAnyH_ready (rs := [6]) (by kernel_rfl) (by simp) (AllReadyH.cons rfl (fun K hK => cT 2 3 fun tg => ?_) AllReadyH.nil)
  all_goals first
  |
   have _ : Mk 0 _ := tg
   go_simp
   refine (HOF.out _ HN.out.bel).mono ?_
   rintro e wd ⟨a1, n1, c1, rfl, hf, hb⟩
   replace HN := Lib.hid (HN.out.call hb)
   have HX := Lib.hid hf
   clear hf
   clear hb 
   go_wp2_with fail
   refine hK.out _ _ (⟨HN.out.cell 0 0 rfl rfl, HN.out.cell 0 1 rfl rfl⟩) (fun hHeld2 => ?_)
   clear hK K hHeld
   rename _ => hHeld
   try simp only [Act.put, stB, stZ, stS]
  |
   have _ : Mk 1 _ := tg
   go_simp
   refine (HNW.out _ _ _ _ HX.out.rt).mono ?_
   rintro e wd ⟨rfl, hb⟩
   replace HX := Lib.hid (show RD wd a1 n1 c1 x from HX.out.below hb)
   replace HN := Lib.hid (HN.out.call hb)
   clear hb 
   go_wp2_with fail
   refine hK.out _ _ (⟨HN.out.cell 0 0 rfl rfl, HN.out.cell 0 1 rfl rfl⟩) (fun hHeld2 => ?_)
   clear hK K hHeld
   rename _ => hHeld
   try simp only [Act.put, stB, stZ, stS]
  |
   have _ : Mk 2 _ := tg
   have hc0 := HN.out.cell 1 0 rfl rfl
   have hf0 := HN.out.free 1 0 rfl
   have hc1 := HN.out.cell 1 1 rfl rfl
   have hf1 := HN.out.free 1 1 rfl
   go_simp
   clear hc0 hf0 hc1 hf1
   replace HX := Lib.hid (RD.set (RD.set HX.out HN.out 1 0 (.bool zs) rfl rfl (fun _ => by simp)) (HN.out.set 1 0 rfl rfl (fun _ => by simp) (.bool zs)) 1 1 (.slice a1 n1 c1) rfl rfl (fun _ => by simp))
   replace HN := Lib.hid (((HN.out).set 1 0 rfl rfl (fun _ => by simp) (.bool zs)).set 1 1 rfl rfl (fun _ => by simp) (.slice a1 n1 c1))
   generalize ((wd.setCell ⟨w.heap.size + 1, 0, none⟩ (.bool zs)).setCell ⟨w.heap.size + 1, 1, none⟩ (.slice a1 n1 c1)) = wd at HN HX ⊢
   refine hK.out _ _ (⟨HN.out.cell 0 0 rfl rfl, HN.out.cell 0 1 rfl rfl⟩) (fun hHeld2 => ?_)
   clear hK K hHeld
   rename _ => hHeld
   try simp only [Act.put, stB, stZ, stS]
 all_goals (refine wpAnyH_done (by kernel_rfl) ?_ _)
 all_goals
  have ⟨j0_1, j1_1⟩ := HN.out.cg2 1 rfl
  go_wp2_with fail
  refine bodyPost_ret (v := .agg #[.bool zs, .slice a1 n1 c1]) (by simp [results, Tryz.results75, go_sem, j0_1, j1_1]) rfl ?_
  exact ⟨a1, n1, c1, rfl, HX.out, HN.out.bel⟩
theorem ref8_other (sg zs qs : Bool) (a b : Option Addr) (n c m d x y u v : Nat) (w : World)
  (HOF : Hid (∀ W, Below w.heap.size w W → Calls Tryz.prog 73 #[.slice b m d] W (RetD y W)))
  (HNY : Hid (0 < nd y))
  (HR7 : Hid (∀ W, Below w.heap.size w W → Calls Tryz.prog 75 #[.agg #[.bool sg, .slice a n c]] W fun e w' => ∃ a8 n8 c8, e = .returned (.agg #[.bool zs, .slice a8 n8 c8]) ∧ RD w' a8 n8 c8 x ∧ Below W.heap.size W w'))
  (HNF : Hid (∀ a8 n8 c8 W, RT W a8 n8 c8 y → Calls Tryz.prog 76 #[.bool false, .slice a8 n8 c8] W fun e w' => e = .returned (.agg #[.bool false, .slice a8 n8 c8]) ∧ Below W.heap.size W w'))
  (HN8 : Hid (∀ a8 n8 c8 a9 n9 c9 W, Below w.heap.size w W → RT W a8 n8 c8 x → RT W a9 n9 c9 y → Calls Tryz.prog 74 #[.agg #[.bool zs, .slice a8 n8 c8], .agg #[.bool false, .slice a9 n9 c9]] W (fun e w' => ∃ a8 n8 c8 b9 m9 d9, e = .returned (.agg #[.bool qs, .slice a8 n8 c8, .slice b9 m9 d9]) ∧ RD w' a8 n8 c8 u ∧ RD w' b9 m9 d9 v ∧ OwnS w a8 n8 c8 ∧ OwnS w b9 m9 d9 ∧ Below W.heap.size W w'))) :
  Calls Tryz.prog 27 #[.agg #[.bool sg, .slice a n c, .slice b m d]] w (fun e w' => ∃ a8 n8 c8 b9 m9 d9, e = .returned (.agg #[.bool qs, .slice a8 n8 c8, .slice b9 m9 d9]) ∧ RD w' a8 n8 c8 u ∧ RD w' b9 m9 d9 v ∧ OwnS w a8 n8 c8 ∧ OwnS w b9 m9 d9 ∧ Below w.heap.size w w') := by
 obtain ⟨W0, hW0⟩ : ∃ W0, W0 = ((w.alloc (.cells #[.bool sg, .slice a n c, .slice b m d] 26)).alloc (.cells #[.bool false, .slice none 0 0, .slice none 0 0] 60)) := ⟨_, rfl⟩
 have hbs : BS w [⟨w.heap.size, 26, [.bool sg, .slice a n c, .slice b m d]⟩, ⟨w.heap.size + 1, 60, [.bool false, .slice none 0 0, .slice none 0 0]⟩] [] ((w.alloc (.cells #[.bool sg, .slice a n c, .slice b m d] 26)).alloc (.cells #[.bool false, .slice none 0 0, .slice none 0 0] 60)) :=
   (((BS.start w).alloc (p := w.heap.size) rfl 26 [.bool sg, .slice a n c, .slice b m d] rfl).alloc (p := w.heap.size + 1) (by simp) 60 [.bool false, .slice none 0 0, .slice none 0 0] rfl)
 rw [← hW0] at hbs
 have HW0 := Lib.hid hW0
 have HN := Lib.hid hbs
 clear hW0 hbs
 go_enter Tryz.func27, Tryz.ntmps27
 go_wp2_with fail
 rw [← HW0.out]
 refine (HOF.out _ HN.out.bel).mono ?_
 rintro e w1 ⟨a3, n3, c3, rfl, hr0, hb⟩
 have HY := Lib.hid hr0.rt
 replace HN := Lib.hid (HN.out.call hb)
 clear hb hr0
 have hn3 : 0 < n3 := by have q1 := HY.out.rd.1; have q2 := HNY.out; omega
 have e0 : ((n3 : Int) == 0) = false := beq_eq_false_iff_ne.2 (by omega)
 have ⟨k00, f00, k01, f01, k02, f02⟩ := HN.out.cf3 0 rfl
 have ⟨k10, f10, k11, f11, k12, f12⟩ := HN.out.cf3 1 rfl
 go_wp2_with fail
 clear k00 f00 k01 f01 k02 f02 k10 f10 k11 f11 k12 f12
 refine (HR7.out _ HN.out.bel).mono ?_
 rintro e w2 ⟨a5, n5, c5, rfl, hr0, hb⟩
 replace HY := Lib.hid (show RT w2 a3 n3 c3 y from HY.out.below hb HY.out.lt)
 have HZ := Lib.hid hr0.rt
 replace HN := Lib.hid (HN.out.call hb)
 clear hb hr0
 have ⟨k00, f00, k01, f01, k02, f02⟩ := HN.out.cf3 0 rfl
 have ⟨k10, f10, k11, f11, k12, f12⟩ := HN.out.cf3 1 rfl
 go_wp2_with fail
 clear k00 f00 k01 f01 k02 f02 k10 f10 k11 f11 k12 f12
 refine (HNF.out _ _ _ _ HY.out).mono ?_
 rintro e w3 ⟨rfl, hb⟩
 replace HY := Lib.hid (show RT w3 a3 n3 c3 y from HY.out.below hb HY.out.lt)
 replace HZ := Lib.hid (show RT w3 a5 n5 c5 x from HZ.out.below hb HZ.out.lt)
 replace HN := Lib.hid (HN.out.call hb)
 clear hb 
 have ⟨k00, f00, k01, f01, k02, f02⟩ := HN.out.cf3 0 rfl
 have ⟨k10, f10, k11, f11, k12, f12⟩ := HN.out.cf3 1 rfl
 go_wp2_with fail
 clear k00 f00 k01 f01 k02 f02 k10 f10 k11 f11 k12 f12
 refine (HN8.out _ _ _ _ _ _ _ HN.out.bel HZ.out HY.out).mono ?_
 rintro e w4 ⟨a8, n8, c8, b9, m9, d9, rfl, hr0, hr1, ho0, ho1, hb⟩
 have HOU := Lib.hid ho0
 clear ho0
 have HOV := Lib.hid ho1
 clear ho1
 replace HY := Lib.hid (show RT w4 a3 n3 c3 y from HY.out.below hb HY.out.lt)
 replace HZ := Lib.hid (show RT w4 a5 n5 c5 x from HZ.out.below hb HZ.out.lt)
 have HU := Lib.hid hr0.rt
 have HV := Lib.hid hr1.rt
 replace HN := Lib.hid (HN.out.call hb)
 clear hb hr0 hr1
 have HUE := Lib.hid (RT.set (RT.set (RT.set HU.out HN.out 1 0 (.bool qs) rfl rfl (fun _ => by simp)) (HN.out.set 1 0 rfl rfl (fun _ => by simp) (.bool qs)) 1 1 (.slice a8 n8 c8) rfl rfl (fun _ => by simp)) ((HN.out.set 1 0 rfl rfl (fun _ => by simp) (.bool qs)).set 1 1 rfl rfl (fun _ => by simp) (.slice a8 n8 c8)) 1 2 (.slice b9 m9 d9) rfl rfl (fun _ => by simp))
 have HVE := Lib.hid (RT.set (RT.set (RT.set HV.out HN.out 1 0 (.bool qs) rfl rfl (fun _ => by simp)) (HN.out.set 1 0 rfl rfl (fun _ => by simp) (.bool qs)) 1 1 (.slice a8 n8 c8) rfl rfl (fun _ => by simp)) ((HN.out.set 1 0 rfl rfl (fun _ => by simp) (.bool qs)).set 1 1 rfl rfl (fun _ => by simp) (.slice a8 n8 c8)) 1 2 (.slice b9 m9 d9) rfl rfl (fun _ => by simp))
 have ⟨k00, f00, k01, f01, k02, f02⟩ := HN.out.cf3 0 rfl
 have ⟨k10, f10, k11, f11, k12, f12⟩ := HN.out.cf3 1 rfl
 have HE := Lib.hid ((((HN.out).set 1 0 rfl rfl (fun _ => by simp) (.bool qs)).set 1 1 rfl rfl (fun _ => by simp) (.slice a8 n8 c8)).set 1 2 rfl rfl (fun _ => by simp) (.slice b9 m9 d9))
 have ⟨j0_1, j1_1, j2_1⟩ := HE.out.cg3 1 rfl
 go_wp2_with fail
 refine bodyPost_ret (v := .agg #[.bool qs, .slice a8 n8 c8, .slice b9 m9 d9]) (by simp [results, Tryz.results27, go_sem, j0_1, j1_1, j2_1, k00, k01, k02, k10, k11, k12]) rfl ?_
 exact ⟨a8, n8, c8, b9, m9, d9, rfl, HUE.out.rd, HVE.out.rd, HOU.out, HOV.out, HE.out.bel⟩
theorem ref8_zero (sg zs qs : Bool) (a b : Option Addr) (n c m d x y u v : Nat) (w : World)
  (HOF : Hid (∀ W, Below w.heap.size w W → Calls Tryz.prog 73 #[.slice b m d] W (RetD y W)))
  (HNY : Hid (nd y = 0))
  (HR7 : Hid (∀ W, Below w.heap.size w W → Calls Tryz.prog 75 #[.agg #[.bool sg, .slice a n c]] W fun e w' => ∃ a8 n8 c8, e = .returned (.agg #[.bool zs, .slice a8 n8 c8]) ∧ RD w' a8 n8 c8 x ∧ Below W.heap.size W w'))
  (HNF : Hid (∀ a8 n8 c8 W, RT W a8 n8 c8 1 → Calls Tryz.prog 76 #[.bool false, .slice a8 n8 c8] W fun e w' => e = .returned (.agg #[.bool false, .slice a8 n8 c8]) ∧ Below W.heap.size W w'))
  (HN8 : Hid (∀ a8 n8 c8 a9 n9 c9 W, Below w.heap.size w W → RT W a8 n8 c8 x → RT W a9 n9 c9 1 → Calls Tryz.prog 74 #[.agg #[.bool zs, .slice a8 n8 c8], .agg #[.bool false, .slice a9 n9 c9]] W (fun e w' => ∃ a8 n8 c8 b9 m9 d9, e = .returned (.agg #[.bool qs, .slice a8 n8 c8, .slice b9 m9 d9]) ∧ RD w' a8 n8 c8 u ∧ RD w' b9 m9 d9 v ∧ OwnS w a8 n8 c8 ∧ OwnS w b9 m9 d9 ∧ Below W.heap.size W w'))) :
  Calls Tryz.prog 27 #[.agg #[.bool sg, .slice a n c, .slice b m d]] w (fun e w' => ∃ a8 n8 c8 b9 m9 d9, e = .returned (.agg #[.bool qs, .slice a8 n8 c8, .slice b9 m9 d9]) ∧ RD w' a8 n8 c8 u ∧ RD w' b9 m9 d9 v ∧ OwnS w a8 n8 c8 ∧ OwnS w b9 m9 d9 ∧ Below w.heap.size w w') := by
 obtain ⟨W0, hW0⟩ : ∃ W0, W0 = ((w.alloc (.cells #[.bool sg, .slice a n c, .slice b m d] 26)).alloc (.cells #[.bool false, .slice none 0 0, .slice none 0 0] 60)) := ⟨_, rfl⟩
 have hbs : BS w [⟨w.heap.size, 26, [.bool sg, .slice a n c, .slice b m d]⟩, ⟨w.heap.size + 1, 60, [.bool false, .slice none 0 0, .slice none 0 0]⟩] [] ((w.alloc (.cells #[.bool sg, .slice a n c, .slice b m d] 26)).alloc (.cells #[.bool false, .slice none 0 0, .slice none 0 0] 60)) :=
   (((BS.start w).alloc (p := w.heap.size) rfl 26 [.bool sg, .slice a n c, .slice b m d] rfl).alloc (p := w.heap.size + 1) (by simp) 60 [.bool false, .slice none 0 0, .slice none 0 0] rfl)
 rw [← hW0] at hbs
 have HW0 := Lib.hid hW0
 have HN := Lib.hid hbs
 clear hW0 hbs
 go_enter Tryz.func27, Tryz.ntmps27
 go_wp2_with fail
 rw [← HW0.out]
 refine (HOF.out _ HN.out.bel).mono ?_
 rintro e w1 ⟨a3, n3, c3, rfl, hr0, hb⟩
 have HY := Lib.hid hr0.rt
 replace HN := Lib.hid (HN.out.call hb)
 clear hb hr0
 obtain rfl : n3 = 0 := by rw [HY.out.rd.1]; exact HNY.out
 have ⟨k00, f00, k01, f01, k02, f02⟩ := HN.out.cf3 0 rfl
 have l0 := HN.out.lt 0 rfl
 have ⟨k10, f10, k11, f11, k12, f12⟩ := HN.out.cf3 1 rfl
 have l1 := HN.out.lt 1 rfl
 have HP := Lib.hid (HN.out.alloc (p := w1.heap.size) rfl 3 [.int .i64 1] rfl)
 have ⟨k00p, f00p, k01p, f01p, k02p, f02p⟩ := HP.out.cf3 0 rfl
 have ⟨k10p, f10p, k11p, f11p, k12p, f12p⟩ := HP.out.cf3 1 rfl
 have ⟨k20p, f20p⟩ := HP.out.cf1 2 rfl
 go_upto_region 4 with fail
 clear k00 f00 k01 f01 k02 f02 l0 k10 f10 k11 f11 k12 f12 l1 k00p f00p k01p f01p k02p f02p k10p f10p k11p f11p k12p f12p k20p f20p HN
 have HN := HP
 clear HP
 replace HY := Lib.hid (show RT (w1.alloc (.cells #[.int .i64 1] 3)) a3 0 c3 y from HY.out.below (belowBox _ _) HY.out.lt)
 generalize (w1.alloc (.cells #[.int .i64 1] 3)) = wa2 at HN HY ⊢
 have HD1 := Lib.hid (show RT wa2 (some ⟨w1.heap.size, 0, none⟩) 1 1 1 from RT.one (HN.out.at 2 rfl))
 have ⟨k00, f00, k01, f01, k02, f02⟩ := HN.out.cf3 0 rfl
 have ⟨k10, f10, k11, f11, k12, f12⟩ := HN.out.cf3 1 rfl
 have ⟨k20, f20⟩ := HN.out.cf1 2 rfl
 go_wp2_with fail
 clear k00 f00 k01 f01 k02 f02 k10 f10 k11 f11 k12 f12 k20 f20
 refine (HR7.out _ HN.out.bel).mono ?_
 rintro e w3 ⟨a5, n5, c5, rfl, hr0, hb⟩
 replace HY := Lib.hid (show RT w3 a3 0 c3 y from HY.out.below hb HY.out.lt)
 replace HD1 := Lib.hid (show RT w3 (some ⟨w1.heap.size, 0, none⟩) 1 1 1 from HD1.out.below hb HD1.out.lt)
 have HZ := Lib.hid hr0.rt
 replace HN := Lib.hid (HN.out.call hb)
 clear hb hr0
 have ⟨k00, f00, k01, f01, k02, f02⟩ := HN.out.cf3 0 rfl
 have ⟨k10, f10, k11, f11, k12, f12⟩ := HN.out.cf3 1 rfl
 have ⟨k20, f20⟩ := HN.out.cf1 2 rfl
 go_wp2_with fail
 clear k00 f00 k01 f01 k02 f02 k10 f10 k11 f11 k12 f12 k20 f20
 refine (HNF.out _ _ _ _ HD1.out).mono ?_
 rintro e w4 ⟨rfl, hb⟩
 replace HY := Lib.hid (show RT w4 a3 0 c3 y from HY.out.below hb HY.out.lt)
 replace HD1 := Lib.hid (show RT w4 (some ⟨w1.heap.size, 0, none⟩) 1 1 1 from HD1.out.below hb HD1.out.lt)
 replace HZ := Lib.hid (show RT w4 a5 n5 c5 x from HZ.out.below hb HZ.out.lt)
 replace HN := Lib.hid (HN.out.call hb)
 clear hb 
 have ⟨k00, f00, k01, f01, k02, f02⟩ := HN.out.cf3 0 rfl
 have ⟨k10, f10, k11, f11, k12, f12⟩ := HN.out.cf3 1 rfl
 have ⟨k20, f20⟩ := HN.out.cf1 2 rfl
 go_wp2_with fail
 clear k00 f00 k01 f01 k02 f02 k10 f10 k11 f11 k12 f12 k20 f20
 refine (HN8.out _ _ _ _ _ _ _ HN.out.bel HZ.out HD1.out).mono ?_
 rintro e w5 ⟨a8, n8, c8, b9, m9, d9, rfl, hr0, hr1, ho0, ho1, hb⟩
 have HOU := Lib.hid ho0
 clear ho0
 have HOV := Lib.hid ho1
 clear ho1
 replace HY := Lib.hid (show RT w5 a3 0 c3 y from HY.out.below hb HY.out.lt)
 replace HD1 := Lib.hid (show RT w5 (some ⟨w1.heap.size, 0, none⟩) 1 1 1 from HD1.out.below hb HD1.out.lt)
 replace HZ := Lib.hid (show RT w5 a5 n5 c5 x from HZ.out.below hb HZ.out.lt)
 have HU := Lib.hid hr0.rt
 have HV := Lib.hid hr1.rt
 replace HN := Lib.hid (HN.out.call hb)
 clear hb hr0 hr1
 have HUE := Lib.hid (RT.set (RT.set (RT.set HU.out HN.out 1 0 (.bool qs) rfl rfl (fun _ => by simp)) (HN.out.set 1 0 rfl rfl (fun _ => by simp) (.bool qs)) 1 1 (.slice a8 n8 c8) rfl rfl (fun _ => by simp)) ((HN.out.set 1 0 rfl rfl (fun _ => by simp) (.bool qs)).set 1 1 rfl rfl (fun _ => by simp) (.slice a8 n8 c8)) 1 2 (.slice b9 m9 d9) rfl rfl (fun _ => by simp))
 have HVE := Lib.hid (RT.set (RT.set (RT.set HV.out HN.out 1 0 (.bool qs) rfl rfl (fun _ => by simp)) (HN.out.set 1 0 rfl rfl (fun _ => by simp) (.bool qs)) 1 1 (.slice a8 n8 c8) rfl rfl (fun _ => by simp)) ((HN.out.set 1 0 rfl rfl (fun _ => by simp) (.bool qs)).set 1 1 rfl rfl (fun _ => by simp) (.slice a8 n8 c8)) 1 2 (.slice b9 m9 d9) rfl rfl (fun _ => by simp))
 have ⟨k00, f00, k01, f01, k02, f02⟩ := HN.out.cf3 0 rfl
 have ⟨k10, f10, k11, f11, k12, f12⟩ := HN.out.cf3 1 rfl
 have ⟨k20, f20⟩ := HN.out.cf1 2 rfl
 have HE := Lib.hid ((((HN.out).set 1 0 rfl rfl (fun _ => by simp) (.bool qs)).set 1 1 rfl rfl (fun _ => by simp) (.slice a8 n8 c8)).set 1 2 rfl rfl (fun _ => by simp) (.slice b9 m9 d9))
 have ⟨j0_1, j1_1, j2_1⟩ := HE.out.cg3 1 rfl
 go_wp2_with fail
 refine bodyPost_ret (v := .agg #[.bool qs, .slice a8 n8 c8, .slice b9 m9 d9]) (by simp [results, Tryz.results27, go_sem, j0_1, j1_1, j2_1, k00, k01, k02, k10, k11, k12, k20]) rfl ?_
 exact ⟨a8, n8, c8, b9, m9, d9, rfl, HUE.out.rd, HVE.out.rd, HOU.out, HOV.out, HE.out.bel⟩
theorem f8ref_own (sg : Bool) (a b : Option Addr) (n c m d : Nat) (xs ys : List Nat) (w : World) (h : PartW w a n c b m d xs ys) : Calls Tryz.prog 27 #[.agg #[.bool sg, .slice a n c, .slice b m d]] w (RetQO (ratG sg xs ys) w w) := by
 have hOX := fun (W : World) (hb : Below w.heap.size w W) => f2of a n c xs W (Sl.below h.num hb) h.nw (by have := h.ns; omega)
 have hOY := fun (W : World) (hb : Below w.heap.size w W) => f2of b m d ys W (Sl.below h.den hb) h.dw (by have := h.ds; omega)
 have l1 : xs.length = n := by have := h.num.1; rw [List.length_map, Nat.mul_one] at this; exact this
 have l2 : ys.length = m := by have := h.den.1; rw [List.length_map, Nat.mul_one] at this; exact this
 have v1 := val_lt xs h.nw
 have v2 := val_lt ys h.dw
 rw [l1] at v1
 rw [l2] at v2
 have hlx : nd (val xs) ≤ 4 * n := nd_le (by rw [Nat.pow_mul]; exact v1)
 have hly : nd (val ys) ≤ 4 * m := nd_le (by rw [Nat.pow_mul]; exact v2)
 have hns := h.ns
 have hds := h.ds
 have e1 : (newI sg (val xs)).natAbs = val xs := newI_abs _ _
 have hR7 := Lib.hid fun (W : World) (hb : Below w.heap.size w W) => ref7_walk sg _ a n c (val xs) W (Lib.hid fun W2 hb2 => hOX W2 (bthen hb hb2)) (Lib.hid fun a8 n8 c8 W q1 => f7new sg a8 n8 c8 _ W q1)
 have hF : ∀ (z : Nat) (a8 : Option Addr) (n8 c8 : Nat) (W : World), RT W a8 n8 c8 z → Calls Tryz.prog 76 #[.bool false, .slice a8 n8 c8] W fun e w' => e = .returned (.agg #[.bool false, .slice a8 n8 c8]) ∧ Below W.heap.size W w' := fun z a8 n8 c8 W q1 => by
  have h9 := f7new false a8 n8 c8 z W q1
  rw [newI_neg, Bool.false_and] at h9
  exact h9
 unfold ratG
 by_cases h0 : val ys = 0
 ·
  have hd : denG ys = 1 := by unfold denG; rw [if_pos h0]
  rw [hd]
  refine ref8_zero sg _ _ a b n c m d (val xs) (val ys) _ _ w (Lib.hid hOY) (Lib.hid (by rw [h0, nd_zero])) hR7 (Lib.hid (hF 1)) (Lib.hid fun a8 n8 c8 a9 n9 c9 W hb q1 q2 => ?_)
  have q1 : RD W a8 n8 c8 (newI sg (val xs)).natAbs := by rw [e1]; exact q1
  have l1 : n8 ≤ 4 * n := by have := q1.1; rw [e1] at this; omega
  have l2 : n9 = nd 1 := q2.rd.1
  rw [nd_one] at l2
  exact (f8new_own (newI sg (val xs)) 1 a8 a9 n8 c8 n9 c9 W q1 q2 (by omega) (by omega) (by omega)).mono fun _ _ hh => hh.base hb.size
 ·
  have hd : denG ys = val ys := by unfold denG; rw [if_neg h0]
  rw [hd]
  refine ref8_other sg _ _ a b n c m d (val xs) (val ys) _ _ w (Lib.hid hOY) (Lib.hid (by have := (not_congr (nd_eq0 (y := val ys))).2 h0; omega)) hR7 (Lib.hid (hF _)) (Lib.hid fun a8 n8 c8 a9 n9 c9 W hb q1 q2 => ?_)
  have q1 : RD W a8 n8 c8 (newI sg (val xs)).natAbs := by rw [e1]; exact q1
  have l1 : n8 ≤ 4 * n := by have := q1.1; rw [e1] at this; omega
  have l2 : n9 ≤ 4 * m := by have := q2.rd.1; omega
  exact (f8new_own (newI sg (val xs)) (val ys) a8 a9 n8 c8 n9 c9 W q1 q2 h0 (by omega) (by omega)).mono fun _ _ hh => hh.base hb.size
end Go.Proofs.YtmhainidincjhaaGreatDoor
