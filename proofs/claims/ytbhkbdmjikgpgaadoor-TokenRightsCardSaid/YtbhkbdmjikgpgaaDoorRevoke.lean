/-
  Revoke and Copy of a book by contract: the closure, slices.IndexFunc and slices.DeleteFunc at tokens; the conditions: the book's cells, and how many tokens there are.
  Printed by a program of this repository (wip/tok5.py).
-/
import Derived.Test.YtbhkbdmjikgpgaaDoorCheck
import Derived.Shelf.Abstract
namespace Go.Proofs.YtbhkbdmjikgpgaaDoor
open Go.RowKit Go.Extern.Stop Go.Stop Go.Extern

theorem Tryd.enterCl : ∀ args w, (callFunc 24 args).run Tryd.prog w = .ok (.enter 24 args) w := enters_of Tryd.func24 (by kernel_rfl) rfl
set_option maxHeartbeats 1000000 in
theorem same_yes (tb : Nat) (s t : ByteArray) (u r : Int) (w : World) (hc : w.cell? ⟨tb, 0, none⟩ = some (.string t)) (h : s = t) :
    Calls Tryd.prog 24 #[.agg #[.string s, .int .i64 u, .int .i64 r], .pointer (some ⟨tb, 0, none⟩)] w fun e w' => e = .returned (.bool true) ∧ Below w.heap.size w w' := by
  subst h
  have hlt := World.block_lt_of_cell? _ _ hc
  go_enter Tryd.func24, Tryd.ntmps24
  go_wp2
  go_ret
  exact ⟨by first | rfl | simp, (Below.refl _ _).alloc (Nat.le_refl _) _⟩
set_option maxHeartbeats 1000000 in
theorem same_no (tb : Nat) (s t : ByteArray) (u r : Int) (w : World) (hc : w.cell? ⟨tb, 0, none⟩ = some (.string t)) (h : s ≠ t) :
    Calls Tryd.prog 24 #[.agg #[.string s, .int .i64 u, .int .i64 r], .pointer (some ⟨tb, 0, none⟩)] w fun e w' => e = .returned (.bool false) ∧ Below w.heap.size w w' := by
  have hlt := World.block_lt_of_cell? _ _ hc
  have hd : s.toList ≠ t.toList := fun e => h (by rw [ByteArray.toList_eq, ByteArray.toList_eq] at e; exact ByteArray.ext (Array.toList_inj.1 e))
  clear h
  go_enter Tryd.func24, Tryd.ntmps24
  go_wp2
  go_ret
  exact ⟨by first | rfl | simpa using hd, (Below.refl _ _).alloc (Nat.le_refl _) _⟩

set_option maxHeartbeats 1000000 in
theorem index_hit (tb : Nat) (a : Option Addr) (c : Nat) (l : List Gr) (t : ByteArray) (i : Nat) (w : World) (hc : w.cell? ⟨tb, 0, none⟩ = some (.string t)) (hl : Grs w (.slice a l.length c) l) (hi : i < l.length) (h1 : l[i].tok = t) (h0 : ∀ (j : Nat) (hj : j < i), (l[j]'(by omega)).tok ≠ t) :
    Calls Tryd.prog 29 #[.slice a l.length c, .func (.func 24) #[] #[.pointer (some ⟨tb, 0, none⟩)]] w fun e w' => e = .returned (.int .i64 i) ∧ Below w.heap.size w w' := by
  have hlt := World.block_lt_of_cell? _ _ hc
  have eg := Tryd.enterCl
  have hlen : l.length ≤ 9223372036854775807 := by
    obtain ⟨a', c', e, h1, h2, _⟩ := hl.1.len
    unfold maxLen at h2; omega
  have HL := Lib.hid hl
  have H1 := Lib.hid h1
  have H0 := Lib.hid h0
  have HC := Lib.hid hc
  clear hl h1 h0 hc
  go_enter Tryd.func29, Tryd.ntmps29
  go_wp2
  go_loopw [8] (fun iv wr => ∃ k : Nat, k ≤ i ∧ iv = .int .i64 k ∧ Below w.heap.size w wr) (fun iv _ => l.length - (intOf iv).toNat)
  case atStart => exact ⟨0, Nat.zero_le _, rfl, Below.refl _ _⟩
  case round =>
    obtain ⟨k, hk, rfl, hb⟩ := hrel
    obtain ⟨b, o, rfl, h1, h2, c0, c1, c2, _⟩ := (HL.out.below hb).get k (by omega)
    have i0 : (0 : Int) ≤ (k : Int) := by omega
    have i1 : (k : Int) < (l.length : Int) := by omega
    have hcw := (hb.cell (p := ⟨tb, 0, none⟩) hlt).trans HC.out
    have HB := Lib.hid hb
    clear hb h1
    by_cases he : k = i
    · subst he
      have hy := same_yes tb _ t l[k].who l[k].rts wr hcw H1.out
      generalize hG : l[k] = G at c0 c1 c2 hy
      clear hG
      obtain ⟨s, u, r⟩ := G
      simp only at c0 c1 c2 hy
      have HY := Lib.hid hy
      clear hy hcw
      go_wp2_with (go_at_fn 24; refine HY.out.mono ?_; rintro e w1 ⟨rfl, hb1⟩)
      go_ret
      exact ⟨rfl, HB.out.trans (Below.mono (by assumption) HB.out.size)⟩
    · have hy := same_no tb _ t l[k].who l[k].rts wr hcw (H0.out k (by omega))
      generalize hG : l[k] = G at c0 c1 c2 hy
      clear hG
      obtain ⟨s, u, r⟩ := G
      simp only at c0 c1 c2 hy
      have HY := Lib.hid hy
      clear hy hcw
      go_wp2_with (go_at_fn 24; refine HY.out.mono ?_; rintro e w1 ⟨rfl, hb1⟩)
      go_roundw
      case rel => exact ⟨k + 1, by omega, by go_num, HB.out.trans (Below.mono (by assumption) HB.out.size)⟩
      case measure => simp [intOf]; omega

/-- All but the tokens of a text. -/
def less (l : List Gr) (t : ByteArray) : List Gr := l.filter fun g => decide (g.tok ≠ t)
theorem less_take (l : List Gr) (k : Nat) (h : k < l.length) (t : ByteArray) : less (l.take (k + 1)) t = if l[k].tok = t then less (l.take k) t else less (l.take k) t ++ [l[k]] := by
  unfold less
  rw [List.take_succ_eq_append_getElem h, List.filter_append]
  by_cases e : l[k].tok = t <;> simp [e]
theorem less_le (l : List Gr) (t : ByteArray) : (less l t).length ≤ l.length := List.length_filter_le _ _
theorem grFlat_set (l : List Gr) (i : Nat) (g : Gr) (hi : i < l.length) : grFlat (l.set i g) = (((grFlat l).set (i * 3) (.string g.tok)).set (i * 3 + 1) (.int .i64 g.who)).set (i * 3 + 2) (.int .i64 g.rts) := by
  induction l generalizing i with
  | nil => simp at hi
  | cons x r ih =>
    cases i with
    | zero => simp [grFlat, grCells]
    | succ i =>
      have := ih i (by simpa using hi)
      have e1 : (i + 1) * 3 = i * 3 + 1 + 1 + 1 := by omega
      unfold grFlat at *
      simp only [List.set_cons_succ, List.flatMap_cons, grCells, List.cons_append, List.nil_append, this, e1]
/-- A token's three cells are written. -/
theorem grs_stored {w : World} {base g o c : Nat} {l : List Gr} (h : Mid w base 58 3 (.slice (some ⟨g, o, none⟩) l.length c) l.length (grFlat l)) (i : Nat) (hi : i < l.length) (x : Gr) :
    Mid (((w.setCell ⟨g, o + i * 3, none⟩ (.string x.tok)).setCell ⟨g, o + i * 3 + 1, none⟩ (.int .i64 x.who)).setCell ⟨g, o + i * 3 + 2, none⟩ (.int .i64 x.rts)) base 58 3 (.slice (some ⟨g, o, none⟩) l.length c) l.length (grFlat (l.set i x)) := by
  rw [grFlat_set l i x hi, Nat.add_assoc, Nat.add_assoc]
  exact ((h.stored _ _).stored _ _).stored _ _

/-- The loop of DeleteFunc. -/
def DelRel (w : World) (base g o c : Nat) (l : List Gr) (t : ByteArray) (iv jv : Value) (wr : World) : Prop :=
  ∃ (i j : Nat) (ys : List Gr), iv = .int .i64 i ∧ jv = .int .i64 j ∧ i < j ∧ j ≤ l.length ∧ ys.length = l.length ∧ Mid wr base 58 3 (.slice (some ⟨g, o, none⟩) l.length c) l.length (grFlat ys) ∧
    ys.take i = less (l.take j) t ∧ (∀ k, j ≤ k → ys[k]? = l[k]?) ∧ Keeps w wr (fun k => k = g)
theorem Tryd.elemGS : Tryd.prog.underlying 28 = some (.slice (Tryd.prog.elem 28)) := by kernel_rfl
theorem Tryd.sizeGS (w' : World) : (sizeOf (Tryd.prog.elem 28)).run Tryd.prog w' = .ok 3 w' := by kernel_rfl
theorem Tryd.zeroG (w' : World) : (zeroValue 58).run Tryd.prog w' = .ok (.agg #[.string ⟨#[]⟩, .int .i64 0, .int .i64 0]) w' := by kernel_rfl
theorem zeroG_one (n : Nat) : ∀ u ∈ (Builtin.zeroCells (Value.cells (.agg #[.string ⟨#[]⟩, .int .i64 0, .int .i64 0])) n).toList, u.oneCell' = true := by
  intro u hu
  simp only [Builtin.zeroCells, Array.toList_map, List.mem_map] at hu
  obtain ⟨i, _, rfl⟩ := hu
  have e : (Value.cells (.agg #[.string ⟨#[]⟩, .int .i64 0, .int .i64 0])) = #[.string ⟨#[]⟩, .int .i64 0, .int .i64 0] := rfl
  rw [e]
  have h3 : i % 3 = 0 ∨ i % 3 = 1 ∨ i % 3 = 2 := by omega
  rcases h3 with h | h | h <;> simp [h] <;> rfl

set_option maxRecDepth 100000 in
set_option maxHeartbeats 2000000 in
theorem del_any (tb g o c base : Nat) (l : List Gr) (t : ByteArray) (i0 : Nat) (w : World) (hc : w.cell? ⟨tb, 0, none⟩ = some (.string t)) (htg : tb ≠ g) (hm : Mid w base 58 3 (.slice (some ⟨g, o, none⟩) l.length c) l.length (grFlat l)) (hs : ∀ x, x ∈ l → x.tok.size ≤ maxLen)
    (hi : i0 < l.length) (h1 : l[i0].tok = t) (h0 : ∀ (j : Nat) (hj : j < i0), (l[j]'(by omega)).tok ≠ t) :
    Calls Tryd.prog 23 #[.slice (some ⟨g, o, none⟩) l.length c, .func (.func 24) #[] #[.pointer (some ⟨tb, 0, none⟩)]] w fun e w' => e = .returned (.slice (some ⟨g, o, none⟩) (less l t).length c) ∧ Mid w' base 58 3 (.slice (some ⟨g, o, none⟩) (less l t).length c) (less l t).length (grFlat (less l t)) ∧ Keeps w w' (fun k => k = g) := by
  have hlt := World.block_lt_of_cell? _ _ hc
  have hlg : g < w.heap.size := (hm.lt g rfl).2
  have eg := Tryd.enterCl
  have hcap : l.length ≤ c ∧ c ≤ 9223372036854775807 := by
    obtain ⟨a', c', e, h1, h2, _⟩ := (Sl.ofMid hm).len
    cases e
    unfold maxLen at h2; omega
  have hle := less_le l t
  have hlen : l.length ≤ 9223372036854775807 := by omega
  have HL := Lib.hid (show Grs w (.slice (some ⟨g, o, none⟩) l.length c) l from ⟨Sl.ofMid hm, hs⟩)
  have hfirst : less (l.take i0) t = l.take i0 := by
    unfold less
    refine List.filter_eq_self.2 fun x hx => ?_
    obtain ⟨j, hj, rfl⟩ := List.mem_iff_getElem.1 hx
    rw [List.length_take] at hj
    rw [List.getElem_take]
    exact decide_eq_true (h0 j (by omega))
  have hfirst2 : less (l.take (i0 + 1)) t = l.take i0 := by rw [less_take l i0 hi, if_pos h1, hfirst]
  have HF := Lib.hid hfirst2
  have H1 := Lib.hid h1
  have H0 := Lib.hid h0
  have HC := Lib.hid hc
  have HM := Lib.hid hm
  have hne0 : ((i0 : Int) == -1) = false := beq_eq_false_iff_ne.2 (by omega)
  clear h1 h0 hc hm hs hfirst hfirst2
  go_enter Tryd.func23, Tryd.ntmps23
  go_wp2_with fail
  refine (index_hit tb _ c l t i0 w HC.out HL.out hi H1.out H0.out).mono ?_
  rintro e w1 ⟨rfl, hb1⟩
  have HB1 := Lib.hid hb1
  clear hb1
  go_wp2_with fail
  go_loopw [5, 6] (fun iv jv wr => DelRel w1 base g o c l t iv jv wr) (fun _ jv _ => l.length - (intOf jv).toNat)
  case atStart => exact ⟨i0, i0 + 1, l, rfl, by go_num, by omega, by omega, rfl, HM.out.below HB1.out fun k hk => (HM.out.lt k hk).2, HF.out.symm, fun _ _ => rfl, Keeps.refl _ _⟩
  case round =>
    obtain ⟨i, j, ys, rfl, rfl, hij, hj, hyl, hmy, hyt, hyd, hk⟩ := hrel
    have HMY := Lib.hid hmy
    have HYT := Lib.hid hyt
    have HYD := Lib.hid hyd
    have HK := Lib.hid hk
    have HYL := Lib.hid hyl
    have htw : tb < w1.heap.size := by have := HB1.out.size; omega
    have hcw := (hk.cell (a := ⟨tb, 0, none⟩) htw htg).trans ((HB1.out.cell (p := ⟨tb, 0, none⟩) hlt).trans HC.out)
    have hglt : g < wr.heap.size := (hmy.lt g rfl).2
    clear hmy hyt hyd hk
    have hyl' := HYL.out
    by_cases hlj : j < l.length
    · have hG : ys[j]? = some l[j] := by rw [HYD.out j (Nat.le_refl _)]; exact List.getElem?_eq_getElem hlj
      have hGy : ys[j]'(by omega) = l[j] := Option.some.inj ((List.getElem?_eq_getElem _).symm.trans hG)
      have hc : ∀ (k : Nat) (u : Value), (grCells l[j])[k]? = some u → wr.cell? ⟨g, o + (j * 3 + k), none⟩ = some u := fun k u h => HMY.out.cell (j * 3 + k) u (grFlat_at ys j (by omega) k u (by rw [hGy]; exact h))
      have c0 := hc 0 _ rfl
      have c1 := hc 1 _ rfl
      have c2 := hc 2 _ rfl
      simp only [← Nat.add_assoc, Nat.add_zero] at c0 c1 c2
      have hd : ∀ (k : Nat) (u : Value), (grCells (ys[i]'(by omega)))[k]? = some u → wr.cell? ⟨g, o + (i * 3 + k), none⟩ = some u := fun k u h => HMY.out.cell (i * 3 + k) u (grFlat_at ys i (by omega) k u h)
      have d0 := hd 0 _ rfl
      have d1 := hd 1 _ rfl
      have d2 := hd 2 _ rfl
      simp only [← Nat.add_assoc, Nat.add_zero] at d0 d1 d2
      have hlt' := less_take l j hlj t
      have HLT := Lib.hid hlt'
      have i0' : (0 : Int) ≤ (j : Int) := by omega
      have i1' : (j : Int) < (l.length : Int) := by omega
      have i2' : (0 : Int) ≤ (i : Int) := by omega
      have i3' : (i : Int) < (l.length : Int) := by omega
      clear hc hd hlt' hG hGy hyl'
      generalize ys[i]'(by have := HYL.out; omega) = D at d0 d1 d2
      have htk : l.take (j + 1) = l.take j ++ [l[j]] := List.take_succ_eq_append_getElem hlj
      have hgetj : l[j]? = some l[j] := List.getElem?_eq_getElem hlj
      have HGJ := Lib.hid hgetj
      have HTK := Lib.hid htk
      clear htk hgetj
      generalize l[j] = G at *
      obtain ⟨s, u, r⟩ := G
      obtain ⟨s', u', r'⟩ := D
      simp only at c0 c1 c2 d0 d1 d2 HLT
      have hcw2 : (wr.alloc (.cells #[.string s, .int .i64 u, .int .i64 r] 58)).cell? ⟨tb, 0, none⟩ = some (.string t) := (World.cell?_alloc_lt _ _ ⟨tb, 0, none⟩ (World.block_lt_of_cell? _ _ hcw)).trans hcw
      by_cases he : s = t
      · have HY := Lib.hid (same_yes tb s t u r _ hcw2 he)
        have HN : less (l.take (j + 1)) t = less (l.take j) t := by rw [HLT.out, if_pos he]
        have HN2 := Lib.hid HN
        clear hcw2 hcw HLT he HN d0 d1 d2
        go_wp2_with (go_at_fn 24; refine HY.out.mono ?_; rintro e w2 ⟨rfl, hb2⟩; have HB2 := Lib.hid hb2; clear hb2)
        go_roundw
        case rel =>
          have hb2 := HB2.out
          have hz2 := hb2.size
          simp only [World.size_alloc] at hz2
          exact ⟨i, j + 1, ys, rfl, by go_num, by omega, by omega, HYL.out, (HMY.out.alloc _).below hb2 (fun k hk => by cases hk; simp; omega), by rw [HN2.out]; exact HYT.out, fun k hk => HYD.out k (by omega), (HK.out.trans (Keeps.alloc wr _ (fun _ => False)) (fun _ _ h => h.elim)).trans (Keeps.of_below hb2 (S := fun _ => False) fun b h1 h2 => by omega) (fun _ _ h => h.elim)⟩
        case measure => simp [intOf]; omega
      · have HY := Lib.hid (same_no tb s t u r _ hcw2 he)
        have HN : less (l.take (j + 1)) t = less (l.take j) t ++ [⟨s, u, r⟩] := by rw [HLT.out, if_neg he]
        have HN2 := Lib.hid HN
        clear hcw2 hcw HLT he HN
        have D0 := Lib.hid d0
        have D1 := Lib.hid d1
        have D2 := Lib.hid d2
        clear d0 d1 d2
        go_wp2_with (go_at_fn 24; refine HY.out.mono ?_; rintro e w2 ⟨rfl, hb2⟩; (have n0 : w2.cell? ⟨wr.heap.size, 0, none⟩ = some (.string s) := (hb2.cell (p := ⟨wr.heap.size, 0, none⟩) (by simp)).trans (by simp)); (have n1 : w2.cell? ⟨wr.heap.size, 1, none⟩ = some (.int .i64 u) := (hb2.cell (p := ⟨wr.heap.size, 1, none⟩) (by simp)).trans (by simp)); (have n2 : w2.cell? ⟨wr.heap.size, 2, none⟩ = some (.int .i64 r) := (hb2.cell (p := ⟨wr.heap.size, 2, none⟩) (by simp)).trans (by simp)); (have d0 : w2.cell? ⟨g, o + i * 3, none⟩ = some (.string s') := (hb2.cell (p := ⟨g, o + i * 3, none⟩) (by simp; omega)).trans ((World.cell?_alloc_lt _ _ ⟨g, o + i * 3, none⟩ hglt).trans D0.out)); (have d1 : w2.cell? ⟨g, o + i * 3 + 1, none⟩ = some (.int .i64 u') := (hb2.cell (p := ⟨g, o + i * 3 + 1, none⟩) (by simp; omega)).trans ((World.cell?_alloc_lt _ _ ⟨g, o + i * 3 + 1, none⟩ hglt).trans D1.out)); (have d2 : w2.cell? ⟨g, o + i * 3 + 2, none⟩ = some (.int .i64 r') := (hb2.cell (p := ⟨g, o + i * 3 + 2, none⟩) (by simp; omega)).trans ((World.cell?_alloc_lt _ _ ⟨g, o + i * 3 + 2, none⟩ hglt).trans D2.out)); (have hm2 := (HMY.out.alloc (.cells #[.string s, .int .i64 u, .int .i64 r] 58)).below hb2 (fun k hk => by cases hk; simp; omega)); (have f0 := hm2.frozen (o + i * 3)); (have f1 := hm2.frozen (o + i * 3 + 1)); (have f2 := hm2.frozen (o + i * 3 + 2)); have HM2 := Lib.hid hm2; have HB2 := Lib.hid hb2; clear hb2 hm2)
        go_roundw
        case rel =>
          have hz2 := HB2.out.size
          simp only [World.size_alloc] at hz2
          have hil : i < ys.length := by have := HYL.out; omega
          have hm3 := HM2.out
          rw [← HYL.out] at hm3
          have hm4 := grs_stored hm3 i hil ⟨s, u, r⟩
          rw [HYL.out] at hm4
          have hki : (less (l.take j) t).length = i := by rw [← HYT.out, List.length_take]; omega
          refine ⟨i + 1, j + 1, ys.set i ⟨s, u, r⟩, by go_num, by go_num, by omega, by omega, by rw [List.length_set]; exact HYL.out, hm4, ?_, fun k hk => ?_, ?_⟩
          · rw [HN2.out, List.take_set, List.take_succ_eq_append_getElem hil, HYT.out]
            rw [List.set_append_right _ _ (by omega), hki, Nat.sub_self]
            rfl
          · rw [List.getElem?_set_ne (by omega)]; exact HYD.out k (by omega)
          · refine (((((HK.out.trans (Keeps.alloc wr _ (fun _ => False)) (fun _ _ h => h.elim)).trans (Keeps.of_below HB2.out (S := fun _ => False) fun b h1 h2 => by omega) (fun _ _ h => h.elim)).trans (Keeps.setCell _ _ _ (S := fun k => k = g) rfl) (fun _ _ h => h)).trans (Keeps.setCell _ _ _ (S := fun k => k = g) rfl) (fun _ _ h => h)).trans (Keeps.setCell _ _ _ (S := fun k => k = g) rfl) (fun _ _ h => h))
        case measure => simp [intOf]; omega
    · obtain rfl : j = l.length := by omega
      have hyt := HYT.out
      rw [List.take_length] at hyt
      have hki : (less l t).length = i := by rw [← hyt, List.length_take]; omega
      have hil : i < l.length := hij
      -- what is left of the row is made zero
      have hdrop := HMY.out.drop i (by omega)
      obtain ⟨wz, hrun, hkz, hstay⟩ := run_clear_mid (P := Tryd.prog) 28 (.agg #[.string ⟨#[]⟩, .int .i64 0, .int .i64 0]) Tryd.underlying28 Tryd.zeroG rfl (zeroG_one _) hdrop (by omega)
      have htk : Mid wr base 58 3 (.slice (some ⟨g, o, none⟩) i c) i (grFlat (less l t)) := by
        rcases HMY.out.2 with ⟨e, _⟩ | ⟨g', o', c', cur, e, hb, hg, hn, hm, hcs, ht⟩
        · cases e
        · cases e
          refine ⟨by rw [grFlat_len, hki], .inr ⟨g, o, c, cur, rfl, hb, hg, by omega, hm, hcs, ?_⟩⟩
          have h2 : (grFlat ys).take (i * 3) = grFlat (less l t) := by
            rw [← hyt]
            conv => lhs; rw [← List.take_append_drop i ys]
            rw [grFlat_append, List.take_left' (by rw [grFlat_len, List.length_take]; omega)]
          rw [← h2, ← ht, List.take_take, Nat.min_eq_left (by omega)]
      have HST := Lib.hid (hstay o i c _ htk (Nat.le_refl _))
      have HKZ := Lib.hid hkz
      have HKI := Lib.hid hki
      have hci : ¬ c = i := by omega
      have hc0 : ¬ c = 0 := by omega
      have hi2 : (0 : Int) ≤ (i : Int) := by omega
      have hi3 : (i : Int) ≤ (l.length : Int) := by omega
      have hi4 : (i : Int) ≤ (c : Int) := by omega
      clear hstay htk hkz hki hyt hdrop hyl'
      go_wp2
      go_ret
      refine ⟨by rw [HKI.out]; rfl, by rw [HKI.out]; exact HST.out, ?_⟩
      exact ((Keeps.of_below HB1.out (S := fun k => k = g) fun b h1 h2 => by omega).trans HK.out (fun _ _ h => h)).trans HKZ.out (fun _ _ h => h)

theorem hit_none_iff (l : List Gr) (t : ByteArray) : hit l t = none ↔ ∀ g, g ∈ l → g.tok ≠ t := by
  have h : ∀ (o : Option Gr), l.foldl (fun o g => if g.tok = t then some g else o) o = none ↔ o = none ∧ ∀ g, g ∈ l → g.tok ≠ t := by
    induction l with
    | nil => intro o; simp
    | cons x r ih =>
      intro o
      rw [List.foldl_cons, ih]
      by_cases hx : x.tok = t <;> simp [hx]
  have := h none
  unfold hit
  rw [this]
  simp
theorem hit_first (l : List Gr) (t : ByteArray) (h : hit l t ≠ none) : ∃ (i : Nat) (hi : i < l.length), l[i].tok = t ∧ ∀ (j : Nat) (hj : j < i), (l[j]'(by omega)).tok ≠ t := by
  have he : ∃ g, g ∈ l ∧ g.tok = t := by
    refine Classical.byContradiction fun hn => h ((hit_none_iff l t).2 fun g hg e => hn ⟨g, hg, e⟩)
  obtain ⟨g, hg, e⟩ := he
  have hlt : l.findIdx (fun g => decide (g.tok = t)) < l.length := List.findIdx_lt_length_of_exists ⟨g, hg, by simpa using e⟩
  refine ⟨_, hlt, by have := List.findIdx_getElem (w := hlt); simpa using this, fun j hj => by have := List.not_of_lt_findIdx hj; simpa using this⟩

set_option maxHeartbeats 1000000 in
theorem revoke_none (jb : Nat) (F : Nat → Prop) (l : List Gr) (t : ByteArray) (u : Int) (w : World) (h : Bk w jb F l) (ht : t.size ≤ maxLen) (hh : hit l t = none) :
    Calls Tryd.prog 15 #[.pointer (some ⟨jb, 0, none⟩), .string t, .int .i64 u] w fun e w' => e = .returned (eE 280) ∧ Below w.heap.size w w' := by
  have HF := Lib.hid (find_none jb F l t _ (h.below ((Below.refl _ _).alloc (Nat.le_refl _) (.cells #[.string t] 9))) ht hh)
  clear h hh ht
  unfold eE
  go_enter Tryd.func15, Tryd.ntmps15
  go_wp2_with fail
  refine HF.out.mono ?_
  rintro e w1 ⟨rfl, hb⟩
  have HB := Lib.hid hb; clear hb
  go_wp2
  go_ret
  exact ⟨rfl, ((Below.refl _ _).alloc (Nat.le_refl _) _).trans (HB.out.mono (by simp))⟩
set_option maxHeartbeats 1000000 in
theorem revoke_other (jb : Nat) (F : Nat → Prop) (l : List Gr) (t : ByteArray) (u : Int) (g : Gr) (w : World) (h : Bk w jb F l) (ht : t.size ≤ maxLen) (hh : hit l t = some g) (hu : g.who ≠ u) :
    Calls Tryd.prog 15 #[.pointer (some ⟨jb, 0, none⟩), .string t, .int .i64 u] w fun e w' => e = .returned (eE 280) ∧ Below w.heap.size w w' := by
  have HF := Lib.hid (find_some jb F l t g _ (h.below ((Below.refl _ _).alloc (Nat.le_refl _) (.cells #[.string t] 9))) ht hh)
  have hne : (g.who != u) = true := bne_iff_ne.2 hu
  clear h hh ht hu
  unfold eE
  go_enter Tryd.func15, Tryd.ntmps15
  go_wp2_with fail
  refine HF.out.mono ?_
  rintro e w1 ⟨rfl, hb⟩
  have HB := Lib.hid hb; clear hb
  go_wp2
  go_ret
  exact ⟨rfl, ((Below.refl _ _).alloc (Nat.le_refl _) _).trans (HB.out.mono (by simp))⟩
set_option maxRecDepth 100000 in
set_option maxHeartbeats 1000000 in
theorem revoke_yes (jb : Nat) (F : Nat → Prop) (l : List Gr) (t : ByteArray) (u : Int) (g : Gr) (w : World) (h : Bk w jb F l) (ht : t.size ≤ maxLen) (hh : hit l t = some g) (hu : g.who = u) :
    Calls Tryd.prog 15 #[.pointer (some ⟨jb, 0, none⟩), .string t, .int .i64 u] w (BkR w jb F (less l t) (.returned .nilIface)) := by
  have HF := Lib.hid (find_some jb F l t g _ (h.below ((Below.refl _ _).alloc (Nat.le_refl _) (.cells #[.string t] 9))) ht hh)
  have hne : (g.who != u) = false := by rw [hu]; simp
  obtain ⟨i, hi, q1, q0⟩ := hit_first l t (by rw [hh]; simp)
  obtain ⟨a, c, k1, k2, k3, k4, k5, k6⟩ := h
  rcases k2.form with ⟨_, e0, _⟩ | ⟨gb, o, cap, e, _, hgl, hnc, _⟩
  · omega
  obtain ⟨rfl, rfl⟩ : a = some ⟨gb, o, none⟩ ∧ c = cap := by cases e; exact ⟨rfl, rfl⟩
  have hgj : F gb ∧ gb ≠ jb := k4 gb rfl
  have hjlt : jb < w.heap.size := lt_of_block k1
  have K1 := Lib.hid k1
  have K2 := Lib.hid k2
  have K3 := Lib.hid k3
  have K5 := Lib.hid k5
  have K6 := Lib.hid k6
  have Q1 := Lib.hid q1
  have Q0 := Lib.hid q0
  have HGJ := Lib.hid hgj
  clear hh ht hu e k1 k2 k3 k4 k5 k6 q1 q0 hgj
  go_enter Tryd.func15, Tryd.ntmps15
  go_wp2_with fail
  refine HF.out.mono ?_
  rintro e w1 ⟨rfl, hb⟩
  have hb0 : Below w.heap.size w w1 := ((Below.refl _ _).alloc (Nat.le_refl _) _).trans (hb.mono (by simp))
  have j1 : w1.heap[jb]? = some (.cells #[.slice (some ⟨gb, o, none⟩) l.length c] 30 (0, 0)) := (hb0.block jb hjlt).trans K1.out
  have jc := cell_of_block (j := 0) j1 rfl
  have ct : w1.cell? ⟨w.heap.size, 0, none⟩ = some (.string t) := (hb.cell (p := ⟨w.heap.size, 0, none⟩) (by simp)).trans (by simp)
  have HDEL := Lib.hid (del_any w.heap.size gb o c 0 l t i w1 ct (by omega) (K2.out.below hb0 fun k hk => (K2.out.lt k hk).2) K6.out hi Q1.out Q0.out)
  have J1 := Lib.hid j1
  have HB0 := Lib.hid hb0
  have HZ1 := Lib.hid hb.size
  clear hb hb0 j1
  go_wp2_with fail
  refine HDEL.out.mono ?_
  rintro e w2 ⟨rfl, hm2, hk2⟩
  have j2 := (hk2.block jb (lt_of_block J1.out) (fun e => HGJ.out.2 e.symm)).trans J1.out
  have jc2 := cell_of_block (j := 0) j2 rfl
  have jf2 := free_of_block (j := 0) j2
  have J2 := Lib.hid j2
  have HM2 := Lib.hid hm2
  have HK2 := Lib.hid hk2
  clear hm2 hk2 j2 jc
  go_wp2
  go_ret
  refine ⟨rfl, F, ⟨some ⟨gb, o, none⟩, c, one_setCell J2.out, HM2.out.setCell _ (fun e => by cases e; exact HGJ.out.2 rfl), K3.out, fun k hk => by cases hk; exact HGJ.out, fun k hk => ?_, fun x hx => K6.out x (List.mem_filter.1 hx).1⟩, fun k hk => .inl hk, ?_⟩
  · have := K5.out k hk; have := HB0.out.size; have := HK2.out.size; simp; omega
  · exact ((Keeps.of_below HB0.out (S := F) fun b h1 h2 => by omega).trans HK2.out (fun b _ h => by rw [h]; exact HGJ.out.1)).trans (Keeps.setCell _ _ _ (S := F) K3.out) (fun _ _ h => h)

/-- What Copy answers: a book of its own that reads alike. -/
def CopyR (w : World) (l : List Gr) (e : Ending) (w' : World) : Prop :=
  ∃ (cb : Nat) (F : Nat → Prop), e = .returned (.pointer (some ⟨cb, 0, none⟩)) ∧ Bk w' cb F l ∧ (∀ k, F k → w.heap.size ≤ k) ∧ Below w.heap.size w w'
end Go.Proofs.YtbhkbdmjikgpgaaDoor
