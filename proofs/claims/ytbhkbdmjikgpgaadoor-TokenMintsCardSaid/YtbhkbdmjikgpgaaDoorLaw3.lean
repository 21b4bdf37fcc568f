/-
  The walk of TokenMints: it answers true; the conditions: what errors.errorType holds; lengths of texts; how long the script is.
  Printed by a program of this repository (wip/tok14.py).
-/
import Derived.Test.YtbhkbdmjikgpgaaDoorLaw2
namespace Go.Proofs.YtbhkbdmjikgpgaaDoor
open Go.RowKit Go.Extern.Stop Go.Stop Go.Extern

theorem hit_less (l : List Gr) (t : ByteArray) : hit (less l t) t = none := (hit_none_iff _ _).2 fun _ hg => of_decide_eq_true (List.mem_filter.1 hg).2
/-- An act's cells, wherever memory behind them is written. -/
def XAt (b : Nat) (d u r : Int) (t : ByteArray) (w : World) : Prop := w.cell? ⟨b, 0, none⟩ = some (.int .i64 d) ∧ w.cell? ⟨b, 1, none⟩ = some (.int .i64 u) ∧ w.cell? ⟨b, 2, none⟩ = some (.int .i64 r) ∧ w.cell? ⟨b, 3, none⟩ = some (.string t)
theorem XAt.below {b B : Nat} {d u r : Int} {t : ByteArray} {w w' : World} (h : XAt b d u r t w) (hb : Below B w w') (hB : b < B) : XAt b d u r t w' :=
  ⟨(hb.cell (p := ⟨b, 0, none⟩) hB).trans h.1, (hb.cell (p := ⟨b, 1, none⟩) hB).trans h.2.1, (hb.cell (p := ⟨b, 2, none⟩) hB).trans h.2.2.1, (hb.cell (p := ⟨b, 3, none⟩) hB).trans h.2.2.2⟩


set_option maxRecDepth 100000 in
set_option maxHeartbeats 8000000 in
theorem tokenMints_slices (a1 : Option Addr) (c1 : Nat) (xs : List Ac) (d u r : Int) (t : ByteArray) (m : Int) (w : World) (hg : Hg w) (hx : Acts w (.slice a1 xs.length c1) xs) (ht : t.size ≤ maxLen) (hm : I64 m) (hs1 : xs.length * 40 ≤ 140737488351232) :
    Calls Tryd.prog 7 #[.slice a1 xs.length c1, .agg #[.int .i64 d, .int .i64 u, .int .i64 r, .string t], .int .i64 m] w (Yes w) := by
  have hb0 : Below w.heap.size w (w.alloc (.cells #[.int .i64 d, .int .i64 u, .int .i64 r, .string t] 35)) := (Below.refl _ _).alloc (Nat.le_refl _) _
  have HB0 := Lib.hid hb0
  have HX0 := Lib.hid (show XAt w.heap.size d u r t (w.alloc (.cells #[.int .i64 d, .int .i64 u, .int .i64 r, .string t] 35)) from ⟨by simp, by simp, by simp, by simp⟩)
  have HAW := Lib.hid (awake_any _ (hg.alloc (.cells #[.int .i64 d, .int .i64 u, .int .i64 r, .string t] 35)))
  have HX := Lib.hid (show Acts (w.alloc (.cells #[.int .i64 d, .int .i64 u, .int .i64 r, .string t] 35)) (.slice a1 xs.length c1) xs from ⟨hx.1.below hb0, hx.2⟩)
  have HT := Lib.hid ht
  have HG := Lib.hid (hg.alloc (.cells #[.int .i64 d, .int .i64 u, .int .i64 r, .string t] 35))
  obtain ⟨m0, m1⟩ := hm
  clear hx ht hg hb0
  go_enter Tryd.func7, Tryd.ntmps7
  go_wp2_with fail
  refine HAW.out.mono ?_
  rintro e w1 ⟨rfl, hb1⟩
  have HS0 := Lib.hid (St.new hb1)
  clear hb1
  go_wp2_with fail
  go_loopw [8, 9] (fun lv iv wr => ActRel (w.alloc (.cells #[.int .i64 d, .int .i64 u, .int .i64 r, .string t] 35)) w1.heap.size xs.length lv iv wr) (fun _ iv _ => xs.length - (intOf iv).toNat)
  case atStart => exact ⟨0, _, [], none, 0, Nat.zero_le _, rfl, rfl, HS0.out, by simp⟩
  case round =>
    obtain ⟨k, G, l, a, c, hk, rfl, rfl, hst, hl⟩ := hrel
    by_cases hlt : k < xs.length
    · obtain ⟨b, o, rfl, k0, k1, k2, k3, hok⟩ := HX.out.get hst.world k hlt
      have i0 : (0 : Int) ≤ (k : Int) := by omega
      have i1 : (k : Int) < (xs.length : Int) := by omega
      have HOK := Lib.hid hok
      clear hok
      generalize xs[k] = X at *
      obtain ⟨d', u', r', t'⟩ := X
      simp only at k0 k1 k2 k3
      have HDO := Lib.hid (does_any (w.alloc (.cells #[.int .i64 d, .int .i64 u, .int .i64 r, .string t] 35)) w1.heap.size G l a c d' u' r' t' wr (HG.out.below hst.world HG.out.lt) hst HOK.out.2.2.2 (by omega))
      have HSL := Lib.hid (step_len l d' u' r' t')
      clear hst
      go_wp2_with fail
      refine HDO.out.mono ?_
      rintro e w5 ⟨a5, c5, G5, rfl, hs5, _, _⟩
      have HS5 := Lib.hid hs5
      clear hs5
      go_wp2
      go_roundw
      case rel => exact ⟨k + 1, G5, _, a5, c5, by omega, by go_num, rfl, HS5.out, by have := HSL.out; omega⟩
      case measure => simp [intOf]; omega
    · have HST := Lib.hid hst
      have HWR := Lib.hid hst.world
      obtain ⟨F, hbk, hFb, _⟩ := id hst
      have HBK := Lib.hid hbk
      have HFB := Lib.hid hFb
      obtain ⟨_, y1, y2, y3⟩ := HX0.out.below hst.world (by simp)
      have hll : l.length ≤ 9223372036854775807 := by omega
      clear hst hbk hFb
      by_cases hv : t.size = 8 ∧ 0 ≤ u ∧ 0 ≤ r ∧ r ≤ 15
      · have HV := Lib.hid hv
        obtain ⟨_, v1, v2, v3⟩ := id hv
        clear hv
        cases hh : hit l t with
        | none =>
          have HH := Lib.hid hh
          clear hh
          by_cases ho : m = u
          · have HO := Lib.hid ho
            have HNEG := Lib.hid (show ¬ m < 0 by omega)
            clear ho
            go_wp2_with fail
            refine (mint_new w1.heap.size F l t u r wr HBK.out HV.out.1 HV.out.2.1 HV.out.2.2.1 HV.out.2.2.2 HH.out (by omega)).mono ?_
            rintro e w2 ⟨rfl, F2, hbk2, hF2, hk2⟩
            have hb2 := HWR.out.trans (hk2.below (B := (w.alloc (.cells #[.int .i64 d, .int .i64 u, .int .i64 r, .string t] 35)).heap.size) HWR.out.size fun b h => HFB.out b h)
            have HF2 := Lib.hid (show ∀ k, F2 k → (w.alloc (.cells #[.int .i64 d, .int .i64 u, .int .i64 r, .string t] 35)).heap.size ≤ k from fun k h => by
              rcases hF2 k h with h | h
              · exact HFB.out k h
              · have := HWR.out.size; omega)
            have HB2 := Lib.hid hb2
            have HBK2 := Lib.hid hbk2
            clear y1 y2 y3 hb2 hbk2 hF2 hk2
            obtain ⟨_, y1, y2, y3⟩ := HX0.out.below HB2.out (by simp)
            have hh2 : hit (l ++ [⟨t, u, r⟩]) t = some ⟨t, u, r⟩ := by rw [hit_snoc, if_pos rfl]
            have HH2 := Lib.hid hh2
            clear hh2
            go_wp2_with fail
            refine (find_some w1.heap.size F2 _ t ⟨t, u, r⟩ w2 HBK2.out HT.out HH2.out).mono ?_
            rintro e w3 ⟨rfl, hb3⟩
            have HB3 := Lib.hid (HB2.out.trans (hb3.mono HB2.out.size))
            have HBK3 := Lib.hid (HBK2.out.below hb3)
            clear y1 y2 y3 hb3
            obtain ⟨_, y1, y2, y3⟩ := HX0.out.below HB3.out (by simp)
            
            have hob : (m != u) = false := by rw [HO.out]; simp
            obtain ⟨w4, e4⟩ : ∃ w4 : World, w4 = w3 := ⟨_, rfl⟩
            subst e4
            have HB4 := HB3
            have HBK4 := HBK3
            
            go_wp2_with fail
            refine (mint_dup w1.heap.size F2 _ t u 1 ⟨t, u, r⟩ w4 HBK4.out HV.out.1 HV.out.2.1 (by omega) (by omega) HH2.out).mono ?_
            rintro e w5 ⟨pb, rfl, _, hb5⟩
            have HB5 := Lib.hid (HB4.out.trans (hb5.mono HB4.out.size))
            have HBK5 := Lib.hid (HBK4.out.below hb5)
            clear y1 y2 y3 hb5
            obtain ⟨_, y1, y2, y3⟩ := HX0.out.below HB5.out (by simp)
            unfold eF
            go_wp2_with fail
            refine (revoke_yes w1.heap.size F2 _ t u ⟨t, u, r⟩ w5 HBK5.out HT.out HH2.out rfl).mono ?_
            rintro e w6 ⟨rfl, F6, hbk6, hF6, hk6⟩
            have hb6 := HB5.out.trans (hk6.below (B := (w.alloc (.cells #[.int .i64 d, .int .i64 u, .int .i64 r, .string t] 35)).heap.size) HB5.out.size fun b h => HF2.out b h)
            have HB6 := Lib.hid hb6
            have HBK6 := Lib.hid hbk6
            have HF6 := Lib.hid (show ∀ k, F6 k → (w.alloc (.cells #[.int .i64 d, .int .i64 u, .int .i64 r, .string t] 35)).heap.size ≤ k from fun k h => by
              rcases hF6 k h with h | h
              · exact HF2.out k h
              · have := HB5.out.size; omega)
            clear y1 y2 y3 hb6 hbk6 hF6 hk6
            obtain ⟨_, y1, y2, y3⟩ := HX0.out.below HB6.out (by simp)
            go_wp2_with fail
            refine (find_none w1.heap.size F6 _ t w6 HBK6.out HT.out (hit_less _ _)).mono ?_
            rintro e w7 ⟨rfl, hb7⟩
            have HB7 := Lib.hid (HB6.out.trans (hb7.mono HB6.out.size))
            have HBK7 := Lib.hid (HBK6.out.below hb7)
            clear y1 y2 y3 hb7
            obtain ⟨_, y1, y2, y3⟩ := HX0.out.below HB7.out (by simp)
            
            have hm0 := HNEG.out
            have hll := less_le (l ++ [⟨t, u, r⟩]) t
            rw [List.length_append] at hll
            go_wp2_with fail
            refine (mint_new w1.heap.size F6 _ t m 2 w7 HBK7.out HV.out.1 (by omega) (by omega) (by omega) (hit_less _ _) (by simp only [List.length_cons, List.length_nil] at hll; omega)).mono ?_
            rintro e w8 ⟨rfl, F8, _, _, hk8⟩
            have HB8 := Lib.hid (HB7.out.trans (hk8.below (B := (w.alloc (.cells #[.int .i64 d, .int .i64 u, .int .i64 r, .string t] 35)).heap.size) HB7.out.size fun b h => HF6.out b h))
            clear y1 y2 y3 hk8
            go_wp2
            go_ret
            exact ⟨rfl, HB0.out.trans (HB8.out.mono HB0.out.size)⟩
          · have HO := Lib.hid ho
            clear ho
            by_cases hneg : m < 0
            · have HNEG := Lib.hid hneg
              clear hneg
              go_wp2_with fail
              refine (mint_new w1.heap.size F l t u r wr HBK.out HV.out.1 HV.out.2.1 HV.out.2.2.1 HV.out.2.2.2 HH.out (by omega)).mono ?_
              rintro e w2 ⟨rfl, F2, hbk2, hF2, hk2⟩
              have hb2 := HWR.out.trans (hk2.below (B := (w.alloc (.cells #[.int .i64 d, .int .i64 u, .int .i64 r, .string t] 35)).heap.size) HWR.out.size fun b h => HFB.out b h)
              have HF2 := Lib.hid (show ∀ k, F2 k → (w.alloc (.cells #[.int .i64 d, .int .i64 u, .int .i64 r, .string t] 35)).heap.size ≤ k from fun k h => by
                rcases hF2 k h with h | h
                · exact HFB.out k h
                · have := HWR.out.size; omega)
              have HB2 := Lib.hid hb2
              have HBK2 := Lib.hid hbk2
              clear y1 y2 y3 hb2 hbk2 hF2 hk2
              obtain ⟨_, y1, y2, y3⟩ := HX0.out.below HB2.out (by simp)
              have hh2 : hit (l ++ [⟨t, u, r⟩]) t = some ⟨t, u, r⟩ := by rw [hit_snoc, if_pos rfl]
              have HH2 := Lib.hid hh2
              clear hh2
              go_wp2_with fail
              refine (find_some w1.heap.size F2 _ t ⟨t, u, r⟩ w2 HBK2.out HT.out HH2.out).mono ?_
              rintro e w3 ⟨rfl, hb3⟩
              have HB3 := Lib.hid (HB2.out.trans (hb3.mono HB2.out.size))
              have HBK3 := Lib.hid (HBK2.out.below hb3)
              clear y1 y2 y3 hb3
              obtain ⟨_, y1, y2, y3⟩ := HX0.out.below HB3.out (by simp)
              
              have hob : (m != u) = true := bne_iff_ne.2 HO.out
              go_wp2_with fail
              refine (revoke_other w1.heap.size F2 _ t m ⟨t, u, r⟩ w3 HBK3.out HT.out HH2.out (fun e => HO.out e.symm)).mono ?_
              rintro e w4 ⟨rfl, hb4⟩
              have HB4 := Lib.hid (HB3.out.trans (hb4.mono HB3.out.size))
              have HBK4 := Lib.hid (HBK3.out.below hb4)
              clear y1 y2 y3 hb4
              obtain ⟨_, y1, y2, y3⟩ := HX0.out.below HB4.out (by simp)
              go_wp2_with fail
              refine (isE_same 280 280 w4 rfl).mono ?_
              rintro e w4' ⟨rfl, hw4⟩
              replace hw4 := hw4.symm
              subst hw4
              
              go_wp2_with fail
              refine (mint_dup w1.heap.size F2 _ t u 1 ⟨t, u, r⟩ w4 HBK4.out HV.out.1 HV.out.2.1 (by omega) (by omega) HH2.out).mono ?_
              rintro e w5 ⟨pb, rfl, _, hb5⟩
              have HB5 := Lib.hid (HB4.out.trans (hb5.mono HB4.out.size))
              have HBK5 := Lib.hid (HBK4.out.below hb5)
              clear y1 y2 y3 hb5
              obtain ⟨_, y1, y2, y3⟩ := HX0.out.below HB5.out (by simp)
              unfold eF
              go_wp2_with fail
              refine (revoke_yes w1.heap.size F2 _ t u ⟨t, u, r⟩ w5 HBK5.out HT.out HH2.out rfl).mono ?_
              rintro e w6 ⟨rfl, F6, hbk6, hF6, hk6⟩
              have hb6 := HB5.out.trans (hk6.below (B := (w.alloc (.cells #[.int .i64 d, .int .i64 u, .int .i64 r, .string t] 35)).heap.size) HB5.out.size fun b h => HF2.out b h)
              have HB6 := Lib.hid hb6
              have HBK6 := Lib.hid hbk6
              have HF6 := Lib.hid (show ∀ k, F6 k → (w.alloc (.cells #[.int .i64 d, .int .i64 u, .int .i64 r, .string t] 35)).heap.size ≤ k from fun k h => by
                rcases hF6 k h with h | h
                · exact HF2.out k h
                · have := HB5.out.size; omega)
              clear y1 y2 y3 hb6 hbk6 hF6 hk6
              obtain ⟨_, y1, y2, y3⟩ := HX0.out.below HB6.out (by simp)
              go_wp2_with fail
              refine (find_none w1.heap.size F6 _ t w6 HBK6.out HT.out (hit_less _ _)).mono ?_
              rintro e w7 ⟨rfl, hb7⟩
              have HB7 := Lib.hid (HB6.out.trans (hb7.mono HB6.out.size))
              have HBK7 := Lib.hid (HBK6.out.below hb7)
              clear y1 y2 y3 hb7
              obtain ⟨_, y1, y2, y3⟩ := HX0.out.below HB7.out (by simp)
              
              have hm0 := HNEG.out
              go_wp2
              go_ret
              exact ⟨rfl, HB0.out.trans (HB7.out.mono HB0.out.size)⟩
            · have HNEG := Lib.hid hneg
              clear hneg
              go_wp2_with fail
              refine (mint_new w1.heap.size F l t u r wr HBK.out HV.out.1 HV.out.2.1 HV.out.2.2.1 HV.out.2.2.2 HH.out (by omega)).mono ?_
              rintro e w2 ⟨rfl, F2, hbk2, hF2, hk2⟩
              have hb2 := HWR.out.trans (hk2.below (B := (w.alloc (.cells #[.int .i64 d, .int .i64 u, .int .i64 r, .string t] 35)).heap.size) HWR.out.size fun b h => HFB.out b h)
              have HF2 := Lib.hid (show ∀ k, F2 k → (w.alloc (.cells #[.int .i64 d, .int .i64 u, .int .i64 r, .string t] 35)).heap.size ≤ k from fun k h => by
                rcases hF2 k h with h | h
                · exact HFB.out k h
                · have := HWR.out.size; omega)
              have HB2 := Lib.hid hb2
              have HBK2 := Lib.hid hbk2
              clear y1 y2 y3 hb2 hbk2 hF2 hk2
              obtain ⟨_, y1, y2, y3⟩ := HX0.out.below HB2.out (by simp)
              have hh2 : hit (l ++ [⟨t, u, r⟩]) t = some ⟨t, u, r⟩ := by rw [hit_snoc, if_pos rfl]
              have HH2 := Lib.hid hh2
              clear hh2
              go_wp2_with fail
              refine (find_some w1.heap.size F2 _ t ⟨t, u, r⟩ w2 HBK2.out HT.out HH2.out).mono ?_
              rintro e w3 ⟨rfl, hb3⟩
              have HB3 := Lib.hid (HB2.out.trans (hb3.mono HB2.out.size))
              have HBK3 := Lib.hid (HBK2.out.below hb3)
              clear y1 y2 y3 hb3
              obtain ⟨_, y1, y2, y3⟩ := HX0.out.below HB3.out (by simp)
              
              have hob : (m != u) = true := bne_iff_ne.2 HO.out
              go_wp2_with fail
              refine (revoke_other w1.heap.size F2 _ t m ⟨t, u, r⟩ w3 HBK3.out HT.out HH2.out (fun e => HO.out e.symm)).mono ?_
              rintro e w4 ⟨rfl, hb4⟩
              have HB4 := Lib.hid (HB3.out.trans (hb4.mono HB3.out.size))
              have HBK4 := Lib.hid (HBK3.out.below hb4)
              clear y1 y2 y3 hb4
              obtain ⟨_, y1, y2, y3⟩ := HX0.out.below HB4.out (by simp)
              go_wp2_with fail
              refine (isE_same 280 280 w4 rfl).mono ?_
              rintro e w4' ⟨rfl, hw4⟩
              replace hw4 := hw4.symm
              subst hw4
              
              go_wp2_with fail
              refine (mint_dup w1.heap.size F2 _ t u 1 ⟨t, u, r⟩ w4 HBK4.out HV.out.1 HV.out.2.1 (by omega) (by omega) HH2.out).mono ?_
              rintro e w5 ⟨pb, rfl, _, hb5⟩
              have HB5 := Lib.hid (HB4.out.trans (hb5.mono HB4.out.size))
              have HBK5 := Lib.hid (HBK4.out.below hb5)
              clear y1 y2 y3 hb5
              obtain ⟨_, y1, y2, y3⟩ := HX0.out.below HB5.out (by simp)
              unfold eF
              go_wp2_with fail
              refine (revoke_yes w1.heap.size F2 _ t u ⟨t, u, r⟩ w5 HBK5.out HT.out HH2.out rfl).mono ?_
              rintro e w6 ⟨rfl, F6, hbk6, hF6, hk6⟩
              have hb6 := HB5.out.trans (hk6.below (B := (w.alloc (.cells #[.int .i64 d, .int .i64 u, .int .i64 r, .string t] 35)).heap.size) HB5.out.size fun b h => HF2.out b h)
              have HB6 := Lib.hid hb6
              have HBK6 := Lib.hid hbk6
              have HF6 := Lib.hid (show ∀ k, F6 k → (w.alloc (.cells #[.int .i64 d, .int .i64 u, .int .i64 r, .string t] 35)).heap.size ≤ k from fun k h => by
                rcases hF6 k h with h | h
                · exact HF2.out k h
                · have := HB5.out.size; omega)
              clear y1 y2 y3 hb6 hbk6 hF6 hk6
              obtain ⟨_, y1, y2, y3⟩ := HX0.out.below HB6.out (by simp)
              go_wp2_with fail
              refine (find_none w1.heap.size F6 _ t w6 HBK6.out HT.out (hit_less _ _)).mono ?_
              rintro e w7 ⟨rfl, hb7⟩
              have HB7 := Lib.hid (HB6.out.trans (hb7.mono HB6.out.size))
              have HBK7 := Lib.hid (HBK6.out.below hb7)
              clear y1 y2 y3 hb7
              obtain ⟨_, y1, y2, y3⟩ := HX0.out.below HB7.out (by simp)
              
              have hm0 := HNEG.out
              have hll := less_le (l ++ [⟨t, u, r⟩]) t
              rw [List.length_append] at hll
              go_wp2_with fail
              refine (mint_new w1.heap.size F6 _ t m 2 w7 HBK7.out HV.out.1 (by omega) (by omega) (by omega) (hit_less _ _) (by simp only [List.length_cons, List.length_nil] at hll; omega)).mono ?_
              rintro e w8 ⟨rfl, F8, _, _, hk8⟩
              have HB8 := Lib.hid (HB7.out.trans (hk8.below (B := (w.alloc (.cells #[.int .i64 d, .int .i64 u, .int .i64 r, .string t] 35)).heap.size) HB7.out.size fun b h => HF6.out b h))
              clear y1 y2 y3 hk8
              go_wp2
              go_ret
              exact ⟨rfl, HB0.out.trans (HB8.out.mono HB0.out.size)⟩
        | some g =>
          have HH := Lib.hid hh
          clear hh
          go_wp2_with fail
          refine (mint_dup w1.heap.size F l t u r g wr HBK.out HV.out.1 HV.out.2.1 HV.out.2.2.1 HV.out.2.2.2 HH.out).mono ?_
          rintro e w2 ⟨pb, rfl, _, hbf⟩
          clear y1 y2 y3
          unfold eF
          go_wp2
          go_ret
          exact ⟨rfl, HB0.out.trans ((HST.out.below (by first | exact hbf | exact Below.refl _ _)).world.mono HB0.out.size)⟩
      · have HV := Lib.hid (show t.size ≠ 8 ∨ u < 0 ∨ r < 0 ∨ 15 < r by omega)
        have HTM := Lib.hid (show t.size ≤ 9223372036854775807 by have := HT.out; unfold maxLen at this; omega)
        clear hv
        go_wp2_with fail
        refine (mint_arg w1.heap.size t u r wr HTM.out HV.out).mono ?_
        rintro e w2 ⟨rfl, rfl⟩
        clear y1 y2 y3
        unfold eE
        go_wp2
        go_ret
        exact ⟨rfl, HB0.out.trans ((HST.out.below (by first | exact hbf | exact Below.refl _ _)).world.mono HB0.out.size)⟩

theorem tokenMints_any (v : Value) (xs : List Ac) (x : Ac) (m : Int) (w : World) (hg : Hg w) (hx : Acts w v xs) (hok : AcOk x) (hm : I64 m) (hs1 : xs.length * 40 ≤ 140737488351232) :
    Calls Tryd.prog 7 #[v, .agg #[.int .i64 x.d, .int .i64 x.u, .int .i64 x.r, .string x.t], .int .i64 m] w (Yes w) := by
  obtain ⟨a1, c1, rfl, _⟩ := Sl.len hx.1
  exact tokenMints_slices a1 c1 xs x.d x.u x.r x.t m w hg hx hok.2.2.2 hm hs1
end Go.Proofs.YtbhkbdmjikgpgaaDoor
