/-
  actuaryref26.Split by contract: what it answers of a stream up to a bound; the condition: what the slice reads as.
  Printed by a program of this repository (wip/frame10.py).
-/
import Derived.Test.YtamkappanknklaaDoorStep
import Derived.Deep.RegionWith
import Derived.IntWalk
import Derived.OwnWalk
namespace Go.Proofs.YtamkappanknklaaDoor
open Go.RowKit Go.Extern.Stop Go.Stop Go.Extern

/-- The first bytes as a number. -/
def pre (xs : List Int) : Nat → Int
  | 0 => 0
  | j + 1 => pre xs j * 256 + xs.getD j 0
theorem pre_four (xs : List Int) : pre xs 4 = be xs := by simp only [pre, be]; omega
theorem pre_bound {xs : List Int} (h : Byt xs) (j : Nat) (hj : j ≤ 4) : 0 ≤ pre xs j ∧ pre xs j ≤ 4294967295 := by
  have h0 := h.get 0
  have h1 := h.get 1
  have h2 := h.get 2
  have h3 := h.get 3
  obtain rfl | rfl | rfl | rfl | rfl : j = 0 ∨ j = 1 ∨ j = 2 ∨ j = 3 ∨ j = 4 := by omega
  all_goals simp only [pre]; omega
/-- The loop of Split. -/
def RefRel (w : World) (xs : List Int) (ov atv : Value) (wr : World) : Prop :=
  ∃ (n : Nat) (os : List (List Int)) (oa : Option Addr) (oc : Nat) (vs : List Value), n ≤ xs.length ∧ atv = .int .i64 n ∧ ov = .slice oa os.length oc ∧ split xs = (os ++ (split (xs.drop n)).1, (split (xs.drop n)).2) ∧
    Mid wr w.heap.size 23 1 (.slice oa os.length oc) os.length vs ∧ (∀ (i : Nat) (x : Value), vs[i]? = some x → ∃ ys, os[i]? = some ys ∧ Bytes w x ys ∧ x.oneCell' = true) ∧ Below w.heap.size w wr
/-- What it answers. -/
def RefR (w : World) (xs : List Int) (e : Ending) (w' : World) : Prop :=
  ∃ (oa : Option Addr) (oc : Nat), e = .returned (.tuple #[.slice oa (split xs).1.length oc, .bool (split xs).2.2, .int .i64 (split xs).2.1.length]) ∧ RowsR w' (.slice oa (split xs).1.length oc) (split xs).1 ∧ Below w.heap.size w w'
theorem ref_end {w wr : World} {os : List (List Int)} {oa : Option Addr} {oc : Nat} {vs : List Value} (h1 : Mid wr w.heap.size 23 1 (.slice oa os.length oc) os.length vs) (h2 : ∀ (i : Nat) (x : Value), vs[i]? = some x → ∃ ys, os[i]? = some ys ∧ Bytes w x ys ∧ x.oneCell' = true) (h3 : Below w.heap.size w wr)
    (xs r : List Int) (d : Bool) (hs : split xs = (os, r, d)) : RefR w xs (.returned (.tuple #[.slice oa os.length oc, .bool d, .int .i64 r.length])) wr := by
  unfold RefR
  rw [hs]
  exact ⟨oa, oc, rfl, ⟨vs, Sl.ofMid h1, fun i x hx => by obtain ⟨ys, e, hb, _⟩ := h2 i x hx; exact ⟨ys, e, Sl.below hb h3⟩⟩, h3⟩
theorem ref_push {w wr w3 : World} {os : List (List Int)} {oa a3 : Option Addr} {oc c3 : Nat} {vs : List Value} {x : Value} {ys : List Int} {ob : Obj} (h1 : Mid wr w.heap.size 23 1 (.slice oa os.length oc) os.length vs) (h2 : ∀ (i : Nat) (x : Value), vs[i]? = some x → ∃ ys, os[i]? = some ys ∧ Bytes w x ys ∧ x.oneCell' = true) (h3 : Below w.heap.size w wr)
    (hx : Bytes w x ys) (hx1 : x.oneCell' = true) (hm : Mid w3 w.heap.size 23 1 (.slice a3 (os.length + 1) c3) (os.length + 1) (vs ++ [x])) (hg : (wr.alloc ob).grownBy w3 (Value.slice oa os.length oc).ownBlock)
    (xs : List Int) (n n2 : Nat) (hn2 : n2 ≤ xs.length) (hs : split xs = (os ++ (split (xs.drop n)).1, (split (xs.drop n)).2)) (hs2 : split (xs.drop n) = (ys :: (split (xs.drop n2)).1, (split (xs.drop n2)).2)) : RefRel w xs (.slice a3 (os.length + 1) c3) (.int .i64 n2) w3 := by
  have hl : vs.length = os.length := by simpa using h1.1
  refine ⟨n2, os ++ [ys], a3, c3, vs ++ [x], hn2, rfl, by simp, by rw [hs, hs2]; simp, by simpa using hm, fun i y hy => ?_, (h3.alloc h3.size ob).grown hg (by have := h3.size; simp; omega) fun k hk => (h1.lt k hk).1⟩
  rcases Nat.lt_or_ge i vs.length with hi | hi
  · rw [List.getElem?_append_left hi] at hy
    obtain ⟨zs, e, hb, h1⟩ := h2 i y hy
    exact ⟨zs, by rw [List.getElem?_append_left (by omega)]; exact e, hb, h1⟩
  · have hi0 : i = vs.length := by
      have := (List.getElem?_eq_some_iff.1 hy).1
      simp at this; omega
    subst hi0
    simp at hy
    subst hy
    exact ⟨ys, by rw [List.getElem?_append_right (by omega)]; simp [hl], hx, hx1⟩
theorem bytes_mid {w : World} {b o c : Nat} {xs : List Int} (hm : c ≤ maxLen) (hc : xs.length ≤ c) (hb : b < w.heap.size) (h : ∀ j x, xs[j]? = some x → w.cell? ⟨b, o + j, none⟩ = some (.int .u8 x)) (lo n : Nat) (hn : lo + n ≤ xs.length) : Bytes w (.slice (some ⟨b, o + lo, none⟩) n (c - lo)) ((xs.drop lo).take n) := by
  have hl : ((xs.drop lo).take n).length = n := by rw [List.length_take, List.length_drop]; omega
  unfold Bytes
  rw [hl]
  refine ⟨by simp; omega, .inr ⟨b, o + lo, c - lo, rfl, by omega, by omega, hb, fun j u hj => ?_⟩⟩
  rw [List.map_take, List.map_drop, List.getElem?_take] at hj
  split at hj
  · rw [List.getElem?_drop, List.getElem?_map] at hj
    obtain ⟨x, hx, rfl⟩ := Option.map_eq_some_iff.1 hj
    rw [Nat.add_assoc]
    exact h _ x hx
  · cases hj

set_option maxRecDepth 100000 in
set_option maxHeartbeats 2000000 in
theorem ref_split (a : Option Addr) (c : Nat) (xs : List Int) (w : World) (h : Bytes w (.slice a xs.length c) xs) (hx : Byt xs) (hl : xs.length ≤ 8388608) : Calls Tryd.prog 16 #[.slice a xs.length c] w (RefR w xs) := by
  obtain ⟨i1, hi1, hy0, hy1, hy2⟩ := info_parts Tryd.infoBB
  have HB := Lib.hid h
  have HX := Lib.hid hx
  clear h hx
  go_enter Tryd.func16, Tryd.ntmps16
  go_wp2_with fail
  go_loopw [5, 6] (fun ov atv wr => RefRel w xs ov atv wr) (fun _ atv _ => xs.length - (intOf atv).toNat)
  case atStart => exact ⟨0, [], none, 0, [], Nat.zero_le _, rfl, rfl, by simp, Mid.nil _ _ _ _, fun i x h => (by simp at h), Below.refl _ _⟩
  case round =>
    obtain ⟨n, os, oa, oc, vs, hn, rfl, rfl, hs, hm, hv, hbw⟩ := hrel
    have HS := Lib.hid hs
    have HM := Lib.hid hm
    have HV := Lib.hid hv
    have HW := Lib.hid hbw
    have hosl : os.length ≤ 8388608 := by
      have e1 := framed_ge _ xs (Nat.le_refl _)
      have e2 := congrArg (fun x => x.1.length) hs
      simp only [List.length_append] at e2
      omega
    clear hs hm hv hbw
    have hdl : (xs.drop n).length = xs.length - n := List.length_drop ..
    by_cases h4 : xs.length - n < 4
    · have t4 : ¬ (4 : Int) ≤ (xs.length : Int) - (n : Int) := by omega
      have hfin : split xs = (os, xs.drop n, false) := by rw [HS.out, split_short (by omega)]; simp
      have hend := ref_end HM.out HV.out HW.out xs _ _ hfin
      rw [hdl] at hend
      have HEND := Lib.hid hend
      have hnl : ((xs.length - n : Nat) : Int) = (xs.length : Int) - (n : Int) := by omega
      rw [hnl] at HEND
      clear hfin hend hnl hdl
      go_wp2
      go_ret3
      exact HEND.out
    · have t4 : (4 : Int) ≤ (xs.length : Int) - (n : Int) := by omega
      obtain ⟨b, ob, cb, e, hlc, hcm, hbl, hcl⟩ := Bytes.plain HB.out (by omega)
      obtain ⟨rfl, rfl⟩ : a = some ⟨b, ob, none⟩ ∧ c = cb := by cases e; exact ⟨rfl, rfl⟩
      clear e
      have hcap : c ≤ 9223372036854775807 := by unfold maxLen at hcm; omega
      have HCL := Lib.hid hcl
      clear hcl
      have hxd := HX.out.drop n
      have HXD := Lib.hid hxd
      clear hxd
      go_wp2_with fail
      go_loopw [7, 8] (fun nv kv wq => ∃ j : Nat, j ≤ 4 ∧ kv = .int .i64 j ∧ nv = .int .i64 (pre (xs.drop n) j) ∧ ∃ m, wq = wr.drewN m) (fun _ kv _ => 4 - (intOf kv).toNat)
      case atStart => exact ⟨0, by omega, rfl, rfl, 0, rfl⟩
      case round =>
        obtain ⟨j, hj, rfl, rfl, m, rfl⟩ := hrel
        have hpb := pre_bound HXD.out j hj
        by_cases hj4 : j < 4
        · have hget : xs[n + j]? = some (xs[n + j]'(by omega)) := List.getElem?_eq_getElem _
          have hcell := (HW.out.cell (p := ⟨b, ob + (n + j), none⟩) hbl).trans (HCL.out _ _ hget)
          have hbd := HX.out _ (List.mem_of_getElem? hget)
          have hgd : (xs.drop n).getD j 0 = xs[n + j]'(by omega) := by rw [List.getD_eq_getElem?_getD, List.getElem?_drop, hget]; rfl
          have HPRE := Lib.hid (show pre (xs.drop n) (j + 1) = pre (xs.drop n) j * 256 + xs[n + j]'(by omega) by rw [← hgd]; rfl)
          clear hget hgd
          generalize xs[n + j]'(by omega) = xv at *
          generalize pre (xs.drop n) j = pv at *
          have t0 : (j : Int) < 4 := by omega
          have t1 : (n : Int) + (j : Int) < (xs.length : Int) := by omega
          have t2 : (0 : Int) ≤ (n : Int) + (j : Int) := by omega
          go_wp2
          go_roundw
          case rel => exact ⟨j + 1, by omega, by go_num, by rw [HPRE.out], m, rfl⟩
          case measure => simp [intOf]; omega
        · obtain rfl : j = 4 := by omega
          have hbe := pre_four (xs.drop n)
          have HBE := Lib.hid hbe
          clear hbe
          by_cases hbad : badLen (be (xs.drop n))
          · have hfin : split xs = (os, [], true) := by rw [HS.out, split_bad (by omega) hbad]; simp
            have HEND := Lib.hid (ref_end (HM.out.same (w' := wr.drewN m) fun _ _ => rfl) HV.out (HW.out.trans ⟨rfl, rfl, rfl, Nat.le_refl _, fun _ _ => rfl⟩) xs _ _ hfin)
            have ht : pre (xs.drop n) 4 < 1 ∨ (¬ pre (xs.drop n) 4 < 1 ∧ 65536 < pre (xs.drop n) 4) := by rw [HBE.out]; unfold badLen at hbad; omega
            clear hfin hbad
            generalize pre (xs.drop n) 4 = pv at *
            rcases ht with t0 | ⟨t0, t1⟩
            all_goals
              go_wp2
              go_ret3
              exact HEND.out
          · obtain ⟨bn, hbn⟩ : ∃ bn : Nat, pre (xs.drop n) 4 = bn := Int.eq_ofNat_of_zero_le hpb.1
            have hb1 : 1 ≤ bn ∧ bn ≤ 65536 := by unfold badLen at hbad; rw [← HBE.out] at hbad; omega
            have hbt : (be (xs.drop n)).toNat = bn := by rw [← HBE.out, hbn]; simp
            have HBN := Lib.hid hbn
            rw [hbn]
            clear hpb hbn
            have t0 : ¬ (bn : Int) < 1 := by omega
            have t1 : ¬ 65536 < (bn : Int) := by omega
            by_cases hw : xs.length - n - 4 < bn
            · have t2 : (xs.length : Int) - (n : Int) - 4 < (bn : Int) := by omega
              have hfin : split xs = (os, xs.drop n, false) := by rw [HS.out, split_wait (by omega) hbad (by omega)]; simp
              have hend := ref_end (HM.out.same (w' := wr.drewN m) fun _ _ => rfl) HV.out (HW.out.trans ⟨rfl, rfl, rfl, Nat.le_refl _, fun _ _ => rfl⟩) xs _ _ hfin
              rw [hdl] at hend
              have HEND := Lib.hid hend
              have hnl : ((xs.length - n : Nat) : Int) = (xs.length : Int) - (n : Int) := by omega
              rw [hnl] at HEND
              clear hfin hend hnl hdl hbt hbad
              go_wp2
              go_ret3
              exact HEND.out
            · have t2 : ¬ (xs.length : Int) - (n : Int) - 4 < (bn : Int) := by omega
              have hs2 : split (xs.drop n) = (((xs.drop n).drop 4).take bn :: (split (xs.drop (n + 4 + bn))).1, (split (xs.drop (n + 4 + bn))).2) := by
                have := split_body (xs := xs.drop n) (by omega) hbad (by omega)
                rw [hbt] at this
                rw [this]
                simp only [List.drop_drop, Nat.add_assoc]
              rw [List.drop_drop] at hs2
              have HS2 := Lib.hid hs2
              have HBM := Lib.hid (bytes_mid hcm hlc hbl HCL.out (n + 4) bn (by omega))
              have HMM := Lib.hid ((HM.out.same (w' := wr.drewN m) fun _ _ => rfl).alloc (.cells #[.slice (some ⟨b, ob + (n + 4), none⟩) bn (c - (n + 4))] 23))
              have HSS := Lib.hid (Sl.src (P := Tryd.prog) Tryd.underlying22 (Sl.one (wr.drewN m) 23 (.slice (some ⟨b, ob + (n + 4), none⟩) bn (c - (n + 4)))) (fun u hu => (by simp at hu; subst hu; rfl)))
              have hwz : w.heap.size ≤ ((wr.drewN m).alloc (.cells #[.slice (some ⟨b, ob + (n + 4), none⟩) bn (c - (n + 4))] 23)).heap.size := (by have := HW.out.size; simp; omega)
              have HWD := Lib.hid (HW.out.trans (c := wr.drewN m) ⟨rfl, rfl, rfl, Nat.le_refl _, fun _ _ => rfl⟩)
              clear hs2 hbt hdl
              go_wp2_with (at_builtin; refine wpList_append_mid (v := .slice oa os.length oc) rfl _ _ 22 22 rfl i1 (.slice none 0 0) 24 Tryd.underlying22 hi1 hy0 hy1 hy2 rfl rfl HMM.out _ rfl 1 _ HSS.out (by unfold maxLen; omega) (by omega) hwz ?_; intro a5 c5 w5 k1 k2 k3; have HPUSH := Lib.hid (ref_push (HM.out.same (w' := wr.drewN m) fun _ _ => rfl) HV.out HWD.out HBM.out rfl k1 k2 xs n (n + 4 + bn) (by omega) HS.out HS2.out); clear k1 k2 k3)
              go_wp2
              go_roundw
              case rel =>
                have e : ((n : Int) + 4 + (bn : Int)) = ((n + 4 + bn : Nat) : Int) := by omega
                first | (rw [e]; exact HPUSH.out) | (simp only [e]; exact HPUSH.out)
              case measure => simp [intOf]; omega
end Go.Proofs.YtamkappanknklaaDoor
