/-
  The walk of FrameBodies: it answers true for all pieces up to a bound, and old memory stays; the conditions: what errors.errorType holds, and how long the pieces are.
  Printed by a program of this repository (wip/frame7.py).
-/
import Derived.Test.YtamkappanknklaaDoorStep
import Derived.Deep.RegionWith
import Derived.IntWalk
namespace Go.Proofs.YtamkappanknklaaDoor
open Go.RowKit Go.Extern.Stop Go.Stop Go.Extern

theorem framed_take_next {zss : List (List Int)} {q : Nat} {zs : List Int} (h : zss[q]? = some zs) : framed (zss.take (q + 1)) = framed (zss.take q) + (4 + zs.length) := by
  rw [List.take_add_one, h, framed_append]
  simp [framed]
theorem framed_take_le (zss : List (List Int)) (q : Nat) : framed (zss.take q) ≤ framed zss := by
  have h := framed_append (zss.take q) (zss.drop q)
  rw [List.take_append_drop] at h
  omega
set_option maxRecDepth 100000 in
set_option maxHeartbeats 2000000 in
theorem bodies_slices (a1 : Option Addr) (c1 : Nat) (xss : List (List Int)) (w : World) (hg : Hg w) (h1 : RowsR w (.slice a1 xss.length c1) xss) (hx : ∀ xs, xs ∈ xss → Byt xs)
    (hl1 : xss.flatten.length + xss.length ≤ 1048576) : Calls Tryd.prog 5 #[.slice a1 xss.length c1] w (Yes w) := by
  have H1 := Lib.hid h1
  have HX := Lib.hid hx
  clear h1 hx
  go_enter Tryd.func5, Tryd.ntmps5
  go_wp2_with fail
  refine (awake_any _ hg).mono ?_
  rintro e w1 ⟨rfl, hb1⟩
  have HF := Lib.hid (Fed.new w w1 hb1)
  clear hb1
  go_wp2_with fail
  go_loopw [4, 5, 6] (fun inn out i wr => ∃ k : Nat, k ≤ xss.length ∧ i = .int .i64 k ∧ inn = .int .i64 (xss.take k).flatten.length ∧ out = .int .i64 (framed (split (xss.take k).flatten).1) ∧ (split (xss.take k).flatten).2.2 = false ∧ Fed w w1.heap.size (xss.take k).flatten wr) (fun _ _ i _ => xss.length - (intOf i).toNat)
  case atStart => exact ⟨0, Nat.zero_le _, rfl, rfl, by simp [split_nil, framed], by simp [split_nil], HF.out⟩
  case round =>
    obtain ⟨k, hk, rfl, rfl, rfl, hlive, hf⟩ := hrel
    by_cases hlt : k < xss.length
    · obtain ⟨g1, o1, x1, xs, rfl, e1, _, b1, hm, hnx, hle⟩ := H1.out.next hf.below k hlt
      have HFF := Lib.hid (hf.step b1 (HX.out xs hm) (by omega))
      have i0 : (0 : Int) ≤ (k : Int) := by omega
      have i1 : (k : Int) < (xss.length : Int) := by omega
      obtain ⟨xa, xc, rfl, _⟩ := Sl.len b1
      have hlt1 := (H1.out).below hf.below
      have HB1 := Lib.hid hf.below
      have HE1 := Lib.hid e1
      have HN := Lib.hid hnx
      have hs0 := split_sizes _ (xss.take k).flatten (Nat.le_refl _)
      have HFL := Lib.hid (hs0.2.1 hlive)
      clear hf b1 hnx hs0
      go_wp2_with fail
      generalize htot : (xss.take k).flatten = tot at *
      refine HFF.out.mono ?_
      rintro e w2 ⟨zss, oa, oc, ev, rfl, hsp, hr, hf2, hev⟩
      have e2 : w2.cell? ⟨g1, o1 + k, none⟩ = some (.slice xa xs.length xc) := by
        obtain ⟨g, o, x, ys, he, hc, _, _⟩ := (H1.out.below hf2.below).get k hlt
        cases he
        obtain ⟨g', o', x', ys', he', hc', hq', _⟩ := H1.out.get k hlt
        cases he'
        have hlt2 : g1 < w.heap.size := World.block_lt_of_cell? _ _ hc'
        have k1 := (hf2.below.cell (p := ⟨g1, o1 + k, none⟩) hlt2).trans hc'
        have k2 := (HB1.out.cell (p := ⟨g1, o1 + k, none⟩) hlt2).trans hc'
        rw [HE1.out] at k2
        rw [k1, ← k2]
      have htl : (tot ++ xs).length ≤ 1048576 := by rw [List.length_append]; omega
      have hsz := split_sizes _ (tot ++ xs) (Nat.le_refl _)
      have hfa : framed (split (tot ++ xs)).1 = framed (split tot).1 + framed zss := by rw [hsp, framed_append]
      have hfb : framed (split (tot ++ xs)).1 ≤ (tot ++ xs).length := by
        cases hd : (split (tot ++ xs)).2.2 with
        | false => have := hsz.2.1 hd; omega
        | true => have := hsz.2.2 hd; omega
      have HSP := Lib.hid hsp
      have HR := Lib.hid hr
      have HF2 := Lib.hid hf2
      have HEV := Lib.hid hev
      have HSZ := Lib.hid hsz
      have hzl : zss.length ≤ 1048576 := by
        have := framed_ge _ (tot ++ xs) (Nat.le_refl _)
        have h2 := congrArg List.length hsp
        rw [List.length_append] at h2
        omega
      have HFA := Lib.hid hfa
      have hB1 : framed (split (tot ++ xs)).1 ≤ 1048576 := Nat.le_trans hfb htl
      have hB2 : (split (tot ++ xs)).2.1.length ≤ 1048576 := Nat.le_trans (rest_le _) htl
      have hB3 : tot.length ≤ 1048576 := by omega
      have hB4 : xs.length ≤ 1048576 := by omega
      have hB5 : framed (split tot).1 + framed zss ≤ 1048576 := by omega
      have HFB := Lib.hid hfb
      clear hsp hr hf2 hev hsz hfa
      go_wp2_with fail
      go_loopw [5, 9] (fun out kk wr => ∃ q : Nat, q ≤ zss.length ∧ kk = .int .i64 q ∧ out = .int .i64 ((framed (split tot).1 + framed (zss.take q) : Nat) : Int) ∧ ∃ m, wr = w2.drewN m) (fun _ kk _ => zss.length - (intOf kk).toNat)
      case atStart => exact ⟨0, Nat.zero_le _, rfl, by simp [framed], 0, rfl⟩
      case round =>
        obtain ⟨q, hq, rfl, rfl, m, rfl⟩ := hrel
        by_cases hltq : q < zss.length
        · obtain ⟨g2, o2, x2, zs, rfl, e3, hz, b3⟩ := (HR.out.drewq m).get q hltq
          obtain ⟨za, zc, rfl, _⟩ := Sl.len b3
          have hin2 := HSZ.out.1 zs (by rw [HSP.out]; exact List.mem_append_right _ (List.mem_of_getElem? hz))
          have j0 : (0 : Int) ≤ (q : Int) := by omega
          have j1 : (q : Int) < (zss.length : Int) := by omega
          have j2 : ¬ (zs.length : Int) < 1 := by omega
          have j3 : ¬ 65536 < (zs.length : Int) := by omega
          have hft := framed_take_next hz
          have hft2 := framed_take_le zss (q + 1)
          have HZ := Lib.hid hft
          clear b3 hz
          go_wp2
          go_roundw
          case rel => exact ⟨q + 1, by omega, by go_num, by rw [HZ.out]; go_num, m, rfl⟩
          case measure => simp [intOf]; omega
        · obtain rfl : q = zss.length := by omega
          rw [List.take_length]
          rw [← HFA.out]
          cases hd : (split (tot ++ xs)).2.2 with
          | false =>
            obtain rfl : ev = .nilIface := by
              rcases HEV.out with ⟨_, h⟩ | ⟨_, h, _⟩ | ⟨_, h, _⟩
              · exact h
              · rw [hd] at h; cases h
              · rw [hd] at h; cases h
            have hne : (((tot.length : Int) + xs.length) != ((framed (split (tot ++ xs)).1 : Int) + ((split (tot ++ xs)).2.1.length : Int))) = false := by
              have hq2 := HSZ.out.2.1 hd
              rw [List.length_append] at hq2
              simp; omega
            have HD := Lib.hid hd
            clear hd
            go_wp2_with fail
            refine ((HF2.out.drewN m).left).mono ?_
            rintro e w3 ⟨rfl, rfl⟩
            go_wp2
            go_roundw
            case rel => exact ⟨k + 1, by omega, by go_num, by rw [HN.out]; simp, by rw [HN.out], by rw [HN.out]; exact HD.out, by rw [HN.out]; exact HF2.out.drewN m⟩
            case measure => simp [intOf]; omega
          | true =>
            obtain ⟨fb, rfl⟩ : ∃ fb, ev = eF fb := by
              rcases HEV.out with ⟨h, _⟩ | ⟨_, _, fb, h, _⟩ | ⟨h, _⟩
              · rw [hd] at h; cases h
              · exact ⟨fb, h⟩
              · rw [hlive] at h; cases h
            have hq2 : (4 : Int) ≤ (tot.length : Int) + xs.length - (framed (split (tot ++ xs)).1 : Int) := by
              have hq2 := HSZ.out.2.2 hd
              rw [List.length_append] at hq2
              omega
            have HDD := Lib.hid (hd ▸ (HF2.out.drewN m).dead)
            clear hd
            unfold eF
            go_wp2_with fail
            refine HDD.out.mono ?_
            rintro e w3 ⟨rfl, rfl⟩
            go_wp2
            go_ret
            exact ⟨rfl, (HF2.out.drewN m).below⟩
    · obtain rfl : k = xss.length := by omega
      rw [List.take_length] at hf hlive ⊢
      have HDD := Lib.hid (hlive ▸ hf.dead)
      have HW := Lib.hid hf.below
      clear hf hlive
      go_wp2_with fail
      refine HDD.out.mono ?_
      rintro e w3 ⟨rfl, rfl⟩
      go_wp2
      go_ret
      exact ⟨rfl, HW.out⟩
theorem bodies_any (v1 : Value) (xss : List (List Int)) (w : World) (hg : Hg w) (h1 : RowsR w v1 xss) (hx : ∀ xs, xs ∈ xss → Byt xs) (hl : xss.flatten.length + xss.length ≤ 1048576) : Calls Tryd.prog 5 #[v1] w (Yes w) := by
  have k1 := h1
  obtain ⟨vs, s1, _⟩ := h1
  obtain ⟨a1, c1, e1, _⟩ := Sl.len s1
  rw [e1] at k1 ⊢
  exact bodies_slices a1 c1 xss w hg k1 hx hl
end Go.Proofs.YtamkappanknklaaDoor
