/-
  alike and awake of actuarylaw28 by contract; the conditions: what errors.errorType holds, and that the need is an int.
  Printed by a program of this repository (wip/tok9.py).
-/
import Derived.Test.YtbhkbdmjikgpgaaDoorDoes3
namespace Go.Proofs.YtbhkbdmjikgpgaaDoor
open Go.RowKit Go.Extern.Stop Go.Stop Go.Extern

set_option maxRecDepth 100000 in
set_option maxHeartbeats 2000000 in
theorem alike_none (w0 : World) (jb : Nat) (G : Nat → Prop) (l : List Gr) (a : Option Addr) (c : Nat) (n m : Int) (t : ByteArray) (w : World) (hg : Hg w) (h : St w0 jb G l a c w) (ht : t.size ≤ maxLen) (_ : -9223372036854775808 ≤ n) (_ : n ≤ 9223372036854775807) (hh : hit l t = none) :
    Calls Tryd.prog 16 #[.pointer (some ⟨jb, 0, none⟩), .slice a l.length c, .string t, .int .i64 n, .int .i64 m] w fun e w' => e = .returned (.bool true) ∧ Below w.heap.size w w' := by
  have hlen : l.length ≤ 9223372036854775807 := by
    obtain ⟨a', c', e, h1, h2, _⟩ := h.grs.1.len
    unfold maxLen at h2; omega
  have HF2 := Lib.hid (lfind_none a c l t w h.grs hh)
  obtain ⟨F, hbk, _⟩ := id h
  have HFN := Lib.hid (find_none jb F l t w hbk ht hh)
  have HCK := Lib.hid (fun W (hb : Below w.heap.size w W) => check_none jb F l t n W (hbk.below hb) ht hh)
  have HCT := Lib.hid (fun W (hb : Below w.heap.size w W) => count_any jb F l m W (hbk.below hb))
  have HGR := Lib.hid h.grs
  have HG := Lib.hid hg
  clear h hbk hh ht hg 
  go_enter Tryd.func16, Tryd.ntmps16
  go_wp2_with fail
  refine HF2.out.mono ?_
  rintro e w0' ⟨rfl, rfl⟩
  go_wp2_with fail
  refine HFN.out.mono ?_
  rintro e w1 ⟨rfl, hb1⟩
  have HB1 := Lib.hid hb1
  clear hb1
  go_wp2_with fail
  refine (HCK.out w1 HB1.out).mono ?_
  rintro e w2 ⟨rfl, hb2⟩
  have HB2 := Lib.hid (HB1.out.trans (hb2.mono HB1.out.size))
  skip
  clear hb2 
  go_wp2_with fail
  go_loop [17, 18] (fun x i => ∃ k : Nat, k ≤ l.length ∧ i = .int .i64 k ∧ x = .int .i64 (cnt (l.take k) m)) (fun _ i => l.length - (intOf i).toNat)
  case atStart => exact ⟨0, Nat.zero_le _, rfl, rfl⟩
  case round =>
    obtain ⟨k, hk, rfl, rfl⟩ := hrel
    by_cases hlt : k < l.length
    · obtain ⟨b, o, rfl, h1, h2, c0, c1, c2, _⟩ := (HGR.out.below HB2.out).get k hlt
      have hn := cnt_take l k hlt m
      have hcl := cnt_le (l.take k) m
      rw [List.length_take] at hcl
      clear h1 c0 c2
      have j0 : (0 : Int) ≤ (k : Int) := by omega
      have j1 : (k : Int) < (l.length : Int) := by omega
      generalize hG : l[k] = G at c1 hn
      clear hG
      obtain ⟨s', u', r'⟩ := G
      simp only at c1 hn
      generalize cnt (l.take k) m = C at *
      by_cases he : u' = m
      · have hd : (u' == m) = true := beq_iff_eq.2 he
        rw [if_pos hd] at hn
        have HN := Lib.hid hn
        clear he hn
        go_wp2
        go_round
        case rel => exact ⟨k + 1, by omega, by go_num, by rw [HN.out]; go_num⟩
        case measure => simp [intOf]; omega
      · have hd : (u' == m) = false := beq_eq_false_iff_ne.2 he
        rw [if_neg (by rw [hd]; decide)] at hn
        have HN := Lib.hid hn
        clear he hn
        go_wp2
        go_round
        case rel => exact ⟨k + 1, by omega, by go_num, by rw [HN.out]; rfl⟩
        case measure => simp [intOf]; omega
    · obtain rfl : k = l.length := by omega
      rw [List.take_length]
      have hcl := cnt_le l m
      go_wp2_with fail
      refine (HCT.out w2 HB2.out).mono ?_
      rintro e w4 ⟨rfl, hb4⟩
      skip
      have HBW := Lib.hid (HB2.out.trans (hb4.mono HB2.out.size))
      clear hb4
      generalize cnt l m = C at *
      unfold eE
      go_wp2_with fail
      refine (told_E 280 280 0 ⟨#[]⟩ _ (HG.out.below HBW.out HG.out.lt) rfl (by rw [ByteArray.toList_eq])).mono ?_
      rintro e w5 ⟨rfl, hb5⟩
      have HB5 := Lib.hid hb5
      clear hb5
      go_wp2
      go_ret
      exact ⟨rfl, HBW.out.trans (HB5.out.mono HBW.out.size)⟩

set_option maxRecDepth 100000 in
set_option maxHeartbeats 2000000 in
theorem alike_ok (w0 : World) (jb : Nat) (G : Nat → Prop) (l : List Gr) (a : Option Addr) (c : Nat) (n m : Int) (t : ByteArray) (w : World) (hg : Hg w) (h : St w0 jb G l a c w) (ht : t.size ≤ maxLen) (n0 : -9223372036854775808 ≤ n) (n1 : n ≤ 9223372036854775807) (g : Gr) (hh : hit l t = some g) (hk : lack n g.rts = 0) :
    Calls Tryd.prog 16 #[.pointer (some ⟨jb, 0, none⟩), .slice a l.length c, .string t, .int .i64 n, .int .i64 m] w fun e w' => e = .returned (.bool true) ∧ Below w.heap.size w w' := by
  have hlen : l.length ≤ 9223372036854775807 := by
    obtain ⟨a', c', e, h1, h2, _⟩ := h.grs.1.len
    unfold maxLen at h2; omega
  have hok := h.okl
  obtain ⟨i, hi, q1, q2, q0, qa⟩ := hok.first hh
  have HF2 := Lib.hid (lfind_hit a c l t i w h.grs hi (by rw [q1]; exact q2) q0)
  have Q1 := Lib.hid q1
  have i0 : (0 : Int) ≤ (i : Int) := by omega
  have i1 : (i : Int) < (l.length : Int) := by omega
  clear q1 q0 qa hok q2
  obtain ⟨F, hbk, _⟩ := id h
  have HFN := Lib.hid (find_some jb F l t g w hbk ht hh)
  have HCK := Lib.hid (fun W (hb : Below w.heap.size w W) => check_ok jb F l t n g W (hbk.below hb) ht hh n0 n1 hk)
  have HCT := Lib.hid (fun W (hb : Below w.heap.size w W) => count_any jb F l m W (hbk.below hb))
  have HGR := Lib.hid h.grs
  have HG := Lib.hid hg
  have hl0 : (bits .andNot .i64 n g.rts != 0) = false := by show (lack n g.rts != 0) = false; rw [hk]; rfl
  clear h hbk hh ht hg hk
  go_enter Tryd.func16, Tryd.ntmps16
  go_wp2_with fail
  refine HF2.out.mono ?_
  rintro e w0' ⟨rfl, rfl⟩
  go_wp2_with fail
  refine HFN.out.mono ?_
  rintro e w1 ⟨rfl, hb1⟩
  have HB1 := Lib.hid hb1
  clear hb1
  go_wp2_with fail
  refine (HCK.out w1 HB1.out).mono ?_
  rintro e w2 ⟨rfl, hb2⟩
  have HB2 := Lib.hid (HB1.out.trans (hb2.mono HB1.out.size))
  skip
  clear hb2 
  go_wp2_with fail
  go_loop [17, 18] (fun x i => ∃ k : Nat, k ≤ l.length ∧ i = .int .i64 k ∧ x = .int .i64 (cnt (l.take k) m)) (fun _ i => l.length - (intOf i).toNat)
  case atStart => exact ⟨0, Nat.zero_le _, rfl, rfl⟩
  case round =>
    obtain ⟨k, hk, rfl, rfl⟩ := hrel
    by_cases hlt : k < l.length
    · obtain ⟨b, o, rfl, h1, h2, c0, c1, c2, _⟩ := (HGR.out.below HB2.out).get k hlt
      have hn := cnt_take l k hlt m
      have hcl := cnt_le (l.take k) m
      rw [List.length_take] at hcl
      clear h1 c0 c2
      have j0 : (0 : Int) ≤ (k : Int) := by omega
      have j1 : (k : Int) < (l.length : Int) := by omega
      generalize hG : l[k] = G at c1 hn
      clear hG
      obtain ⟨s', u', r'⟩ := G
      simp only at c1 hn
      generalize cnt (l.take k) m = C at *
      by_cases he : u' = m
      · have hd : (u' == m) = true := beq_iff_eq.2 he
        rw [if_pos hd] at hn
        have HN := Lib.hid hn
        clear he hn
        go_wp2
        go_round
        case rel => exact ⟨k + 1, by omega, by go_num, by rw [HN.out]; go_num⟩
        case measure => simp [intOf]; omega
      · have hd : (u' == m) = false := beq_eq_false_iff_ne.2 he
        rw [if_neg (by rw [hd]; decide)] at hn
        have HN := Lib.hid hn
        clear he hn
        go_wp2
        go_round
        case rel => exact ⟨k + 1, by omega, by go_num, by rw [HN.out]; rfl⟩
        case measure => simp [intOf]; omega
    · obtain rfl : k = l.length := by omega
      rw [List.take_length]
      have hcl := cnt_le l m
      go_wp2_with fail
      refine (HCT.out w2 HB2.out).mono ?_
      rintro e w4 ⟨rfl, hb4⟩
      skip
      have HBW := Lib.hid (HB2.out.trans (hb4.mono HB2.out.size))
      clear hb4
      generalize cnt l m = C at *
      obtain ⟨b, ob, rfl, _, _, _, k1, k2, _⟩ := (HGR.out.below HBW.out).get i hi
      rw [Q1.out] at k1 k2
      go_wp2
      go_ret
      exact ⟨rfl, HBW.out⟩

set_option maxRecDepth 100000 in
set_option maxHeartbeats 2000000 in
theorem alike_lack (w0 : World) (jb : Nat) (G : Nat → Prop) (l : List Gr) (a : Option Addr) (c : Nat) (n m : Int) (t : ByteArray) (w : World) (hg : Hg w) (h : St w0 jb G l a c w) (ht : t.size ≤ maxLen) (n0 : -9223372036854775808 ≤ n) (n1 : n ≤ 9223372036854775807) (g : Gr) (hh : hit l t = some g) (hk : lack n g.rts ≠ 0) :
    Calls Tryd.prog 16 #[.pointer (some ⟨jb, 0, none⟩), .slice a l.length c, .string t, .int .i64 n, .int .i64 m] w fun e w' => e = .returned (.bool true) ∧ Below w.heap.size w w' := by
  have hlen : l.length ≤ 9223372036854775807 := by
    obtain ⟨a', c', e, h1, h2, _⟩ := h.grs.1.len
    unfold maxLen at h2; omega
  have hok := h.okl
  obtain ⟨i, hi, q1, q2, q0, qa⟩ := hok.first hh
  have HF2 := Lib.hid (lfind_hit a c l t i w h.grs hi (by rw [q1]; exact q2) q0)
  have Q1 := Lib.hid q1
  have i0 : (0 : Int) ≤ (i : Int) := by omega
  have i1 : (i : Int) < (l.length : Int) := by omega
  clear q1 q0 qa hok q2
  obtain ⟨F, hbk, _⟩ := id h
  have HFN := Lib.hid (find_some jb F l t g w hbk ht hh)
  have HCK := Lib.hid (fun W (hb : Below w.heap.size w W) => check_lack jb F l t n g W (hbk.below hb) ht hh n0 n1 hk)
  have HCT := Lib.hid (fun W (hb : Below w.heap.size w W) => count_any jb F l m W (hbk.below hb))
  have HGR := Lib.hid h.grs
  have HG := Lib.hid hg
  have hl0 : (bits .andNot .i64 n g.rts != 0) = true := bne_iff_ne.2 hk
  clear h hbk hh ht hg hk
  go_enter Tryd.func16, Tryd.ntmps16
  go_wp2_with fail
  refine HF2.out.mono ?_
  rintro e w0' ⟨rfl, rfl⟩
  go_wp2_with fail
  refine HFN.out.mono ?_
  rintro e w1 ⟨rfl, hb1⟩
  have HB1 := Lib.hid hb1
  clear hb1
  go_wp2_with fail
  refine (HCK.out w1 HB1.out).mono ?_
  rintro e w2 ⟨pb, rfl, hf2, hb2⟩
  have HB2 := Lib.hid (HB1.out.trans (hb2.mono HB1.out.size))
  have HI := Lib.hid hf2
  clear hb2 hf2
  go_wp2_with fail
  go_loop [17, 18] (fun x i => ∃ k : Nat, k ≤ l.length ∧ i = .int .i64 k ∧ x = .int .i64 (cnt (l.take k) m)) (fun _ i => l.length - (intOf i).toNat)
  case atStart => exact ⟨0, Nat.zero_le _, rfl, rfl⟩
  case round =>
    obtain ⟨k, hk, rfl, rfl⟩ := hrel
    by_cases hlt : k < l.length
    · obtain ⟨b, o, rfl, h1, h2, c0, c1, c2, _⟩ := (HGR.out.below HB2.out).get k hlt
      have hn := cnt_take l k hlt m
      have hcl := cnt_le (l.take k) m
      rw [List.length_take] at hcl
      clear h1 c0 c2
      have j0 : (0 : Int) ≤ (k : Int) := by omega
      have j1 : (k : Int) < (l.length : Int) := by omega
      generalize hG : l[k] = G at c1 hn
      clear hG
      obtain ⟨s', u', r'⟩ := G
      simp only at c1 hn
      generalize cnt (l.take k) m = C at *
      by_cases he : u' = m
      · have hd : (u' == m) = true := beq_iff_eq.2 he
        rw [if_pos hd] at hn
        have HN := Lib.hid hn
        clear he hn
        go_wp2
        go_round
        case rel => exact ⟨k + 1, by omega, by go_num, by rw [HN.out]; go_num⟩
        case measure => simp [intOf]; omega
      · have hd : (u' == m) = false := beq_eq_false_iff_ne.2 he
        rw [if_neg (by rw [hd]; decide)] at hn
        have HN := Lib.hid hn
        clear he hn
        go_wp2
        go_round
        case rel => exact ⟨k + 1, by omega, by go_num, by rw [HN.out]; rfl⟩
        case measure => simp [intOf]; omega
    · obtain rfl : k = l.length := by omega
      rw [List.take_length]
      have hcl := cnt_le l m
      go_wp2_with fail
      refine (HCT.out w2 HB2.out).mono ?_
      rintro e w4 ⟨rfl, hb4⟩
      have HI4 := Lib.hid (HI.out.below hb4 HI.out.lt)
      have HBW := Lib.hid (HB2.out.trans (hb4.mono HB2.out.size))
      clear hb4
      generalize cnt l m = C at *
      obtain ⟨b, ob, rfl, _, _, _, k1, k2, _⟩ := (HGR.out.below HBW.out).get i hi
      rw [Q1.out] at k1 k2
      unfold eF
      go_wp2_with fail
      refine (told_F pb 280 280 (lack n g.rts) _ sRights sRights _ (HG.out.below HBW.out HG.out.lt) (HI4.out) rfl rfl rfl (by rw [ByteArray.toList_eq]; decide)).mono ?_
      rintro e w5 ⟨rfl, hb5⟩
      have HB5 := Lib.hid hb5
      clear hb5
      go_wp2
      go_ret
      exact ⟨rfl, HBW.out.trans (HB5.out.mono HBW.out.size)⟩

theorem alike_any (w0 : World) (jb : Nat) (G : Nat → Prop) (l : List Gr) (a : Option Addr) (c : Nat) (n m : Int) (t : ByteArray) (w : World) (hg : Hg w) (h : St w0 jb G l a c w) (ht : t.size ≤ maxLen) (n0 : -9223372036854775808 ≤ n) (n1 : n ≤ 9223372036854775807) :
    Calls Tryd.prog 16 #[.pointer (some ⟨jb, 0, none⟩), .slice a l.length c, .string t, .int .i64 n, .int .i64 m] w fun e w' => e = .returned (.bool true) ∧ Below w.heap.size w w' := by
  cases hh : hit l t with
  | none => exact alike_none w0 jb G l a c n m t w hg h ht n0 n1 hh
  | some g =>
    by_cases hk : lack n g.rts = 0
    · exact alike_ok w0 jb G l a c n m t w hg h ht n0 n1 g hh hk
    · exact alike_lack w0 jb G l a c n m t w hg h ht n0 n1 g hh hk
end Go.Proofs.YtbhkbdmjikgpgaaDoor
