/-
  The walk of FrameEnds: it answers true for all pieces up to a bound, and old memory stays; the conditions: what errors.errorType holds, and how long the pieces are.
  Printed by a program of this repository (wip/frame6.py).
-/
import Derived.Test.YtamkappanknklaaDoorStep
import Derived.Deep.RegionWith
namespace Go.Proofs.YtamkappanknklaaDoor
open Go.RowKit Go.Extern.Stop Go.Stop Go.Extern

set_option maxRecDepth 100000 in
set_option maxHeartbeats 2000000 in
theorem ends_slices (a1 a2 : Option Addr) (c1 c2 : Nat) (xss yss : List (List Int)) (w : World) (hg : Hg w) (h1 : RowsR w (.slice a1 xss.length c1) xss) (h2 : RowsR w (.slice a2 yss.length c2) yss) (hx : ∀ xs, xs ∈ xss → Byt xs) (_hy : ∀ xs, xs ∈ yss → Byt xs)
    (hl1 : xss.flatten.length + xss.length ≤ 1048576) (hl2 : yss.flatten.length + yss.length ≤ 1048576) : Calls Tryd.prog 7 #[.slice a1 xss.length c1, .slice a2 yss.length c2] w (Yes w) := by
  have H1 := Lib.hid h1
  have H2 := Lib.hid h2
  have HX := Lib.hid hx
  clear h1 h2 hx
  go_enter Tryd.func7, Tryd.ntmps7
  go_wp2_with fail
  refine (awake_any _ hg).mono ?_
  rintro e w1 ⟨rfl, hb1⟩
  have HF := Lib.hid (Fed.new w w1 hb1)
  clear hb1
  go_wp2_with fail
  go_loopw [6] (fun i wr => ∃ k : Nat, k ≤ xss.length ∧ i = .int .i64 k ∧ Fed w w1.heap.size (xss.take k).flatten wr) (fun i _ => xss.length - (intOf i).toNat)
  case atStart => exact ⟨0, Nat.zero_le _, rfl, HF.out⟩
  case round =>
    obtain ⟨k, hk, rfl, hf⟩ := hrel
    by_cases hlt : k < xss.length
    · obtain ⟨g1, o1, x1, xs, rfl, e1, _, b1, hm, hnx, hle⟩ := H1.out.next hf.below k hlt
      have HN := Lib.hid hnx
      have HFF := Lib.hid (hf.step b1 (HX.out xs hm) (by omega))
      have i0 : (0 : Int) ≤ (k : Int) := by omega
      have i1 : (k : Int) < (xss.length : Int) := by omega
      clear hf b1 hnx
      go_wp2_with fail
      refine HFF.out.mono ?_
      rintro e w2 ⟨zss, oa, oc, ev, rfl, _, _, hf2, _⟩
      rw [← HN.out] at hf2
      have HF2 := Lib.hid hf2
      clear hf2
      go_wp2
      go_roundw
      case rel => exact ⟨k + 1, by omega, by go_num, HF2.out⟩
      case measure => simp [intOf]; omega
    · obtain rfl : k = xss.length := by omega
      rw [List.take_length] at hf
      have HF2 := Lib.hid hf
      clear hf
      generalize hd : (split xss.flatten).2.2 = d
      cases d with
      | false =>
        have HD := Lib.hid hd
        have HDD := Lib.hid (hd ▸ HF2.out.dead)
        clear hd
        go_wp2_with fail
        refine HDD.out.mono ?_
        rintro e w' ⟨rfl, rfl⟩
        go_wp2_with fail
        refine (HF2.out.step (bs := []) ⟨rfl, .inl ⟨none, 0, rfl, rfl, Nat.zero_le _, fun _ => rfl⟩⟩ Byt.nil (by rw [List.length_nil]; omega)).mono ?_
        rintro e w2 ⟨zss, oa, oc, ev, rfl, _, _, hf2, hev⟩
        rw [List.append_nil, HD.out] at hev
        obtain rfl : ev = .nilIface := by
          rcases hev with ⟨_, h⟩ | ⟨_, h, _⟩ | ⟨h, _⟩
          · exact h
          · cases h
          · cases h
        have HF3 := Lib.hid hf2
        clear hf2 hev
        go_wp2
        go_ret
        exact ⟨rfl, HF3.out.below⟩
      | true =>
        have HD := Lib.hid hd
        have HDD := Lib.hid (hd ▸ HF2.out.dead)
        have hr := (split_rest _ xss.flatten (Nat.le_refl _)).1 hd
        obtain ⟨F, hj, _, hbw⟩ := HF2.out
        rw [hd, hr] at hj
        have HJ := Lib.hid hj
        have HW := Lib.hid hbw
        clear hd hr hj hbw HD
        go_wp2_with fail
        refine HDD.out.mono ?_
        rintro e w' ⟨rfl, rfl⟩
        clear HDD HF2
        go_wp2_with fail
        go_loopw [9] (fun i wr => ∃ k : Nat, k ≤ yss.length ∧ i = .int .i64 k ∧ ∃ m, wr = w'.drewN m) (fun i _ => yss.length - (intOf i).toNat)
        case atStart => exact ⟨0, Nat.zero_le _, rfl, 0, rfl⟩
        case round =>
          obtain ⟨k, hk, rfl, m, rfl⟩ := hrel
          by_cases hlt : k < yss.length
          · obtain ⟨g2, o2, x2, ys, rfl, e2, _, _, _, _, _⟩ := H2.out.next (wr := w'.drewN m) (HW.out.trans ⟨rfl, rfl, rfl, Nat.le_refl _, fun _ _ => rfl⟩) k hlt
            have i0 : (0 : Int) ≤ (k : Int) := by omega
            have i1 : (k : Int) < (yss.length : Int) := by omega
            have HJM := Lib.hid (fun q => HJ.out.drewq q)
            have HIS := Lib.hid (fun q => isE_same 300 300 (w'.drewN q) (by decide))
            unfold eE at HIS
            go_wp2_with fail
            refine (feed_dead w1.heap.size F [] x2 _ (HJM.out m)).mono ?_
            rintro e w3 ⟨rfl, rfl⟩
            unfold eE
            go_wp2_with fail
            refine (HIS.out _).mono ?_
            rintro e w4 ⟨rfl, rfl⟩
            go_wp2_with fail
            refine (dead_any _ _ _ _ _ (HJM.out _)).mono ?_
            rintro e w5 ⟨rfl, rfl⟩
            go_wp2_with fail
            refine (left_any _ _ _ _ _ (HJM.out _)).mono ?_
            rintro e w6 ⟨rfl, rfl⟩
            go_wp2
            go_roundw
            case rel => exact ⟨k + 1, by omega, by go_num, _, rfl⟩
            case measure => simp [intOf]; omega
          · go_wp2
            go_ret
            exact ⟨rfl, HW.out.trans ⟨rfl, rfl, rfl, Nat.le_refl _, fun _ _ => rfl⟩⟩
theorem ends_any (v1 v2 : Value) (xss yss : List (List Int)) (w : World) (hg : Hg w) (h1 : RowsR w v1 xss) (h2 : RowsR w v2 yss) (hx : ∀ xs, xs ∈ xss → Byt xs) (hy : ∀ xs, xs ∈ yss → Byt xs)
    (hl : xss.flatten.length + xss.length + (yss.flatten.length + yss.length) ≤ 1048576) : Calls Tryd.prog 7 #[v1, v2] w (Yes w) := by
  have k1 := h1
  have k2 := h2
  obtain ⟨vs, s1, _⟩ := h1
  obtain ⟨ws, s2, _⟩ := h2
  obtain ⟨a1, c1, e1, _⟩ := Sl.len s1
  obtain ⟨a2, c2, e2, _⟩ := Sl.len s2
  rw [e1] at k1 ⊢
  rw [e2] at k2 ⊢
  exact ends_slices a1 a2 c1 c2 xss yss w hg k1 k2 hx hy (by omega) (by omega)
end Go.Proofs.YtamkappanknklaaDoor
