/-
  The walk of FrameCuts: it answers true for every stream up to a bound and every cut, and old memory stays; the conditions: what errors.errorType holds, and how long the stream is.
  Printed by a program of this repository (wip/frame5.py).
-/
import Derived.Test.YtamkappanknklaaDoorAwake
import Derived.Deep.RegionWith
namespace Go.Proofs.YtamkappanknklaaDoor
open Go.RowKit Go.Extern.Stop Go.Stop Go.Extern

/-- Behind an append of rows onto rows. -/
theorem RowsR.append {w w' : World} {H H2 : Nat} {v v2 v' : Value} {xss yss : List (List Int)} {vs ws : List Value} (h : RowsV w H v xss vs) (k : RowsV w H2 v2 yss ws) (hf : ∀ x, x ∈ ws → ∀ b, x.ownBlock = some b → v.ownBlock ≠ some b)
    (hm : Mid w' H 23 1 v' (xss.length + yss.length) (vs ++ ws)) (hg : w.grownBy w' v.ownBlock) : RowsR w' v' (xss ++ yss) := by
  have hl : vs.length = xss.length := by simpa using h.1.1
  refine ⟨vs ++ ws, by simpa using Sl.ofMid hm, fun i x hx => ?_⟩
  rcases Nat.lt_or_ge i vs.length with hi | hi
  · rw [List.getElem?_append_left hi] at hx
    obtain ⟨xs, e, hb, _, _, hfx⟩ := h.2 i x hx
    exact ⟨xs, by rw [List.getElem?_append_left (by omega)]; exact e, Sl.same hb hg.size fun b hlt hb2 => hg.block b hlt fun e => (hfx b hb2).2 e.symm⟩
  · rw [List.getElem?_append_right hi] at hx
    obtain ⟨xs, e, hb, _, _, _⟩ := k.2 _ x hx
    exact ⟨xs, by rw [List.getElem?_append_right (by omega), ← hl]; exact e, Sl.same hb hg.size fun b hlt hb2 => hg.block b hlt fun e => hf x (List.mem_of_getElem? hx) b hb2 e.symm⟩
theorem RowsR.drewN {w : World} {v : Value} {xss : List (List Int)} (h : RowsR w v xss) (m : Nat) : RowsR (w.drewN m) v xss := by
  obtain ⟨vs, h1, h2⟩ := h
  exact ⟨vs, Sl.same h1 (Nat.le_refl _) fun _ _ _ => rfl, fun i x hx => by obtain ⟨xs, e, hx⟩ := h2 i x hx; exact ⟨xs, e, Sl.same hx (Nat.le_refl _) fun _ _ _ => rfl⟩⟩
theorem J.drewN {w : World} {jb : Nat} {F : Nat → Prop} {rest : List Int} {dead : Bool} (h : J w jb F rest dead) (m : Nat) : J (w.drewN m) jb F rest dead := h.keeps (Keeps.drewN w m (fun _ => False)) (fun _ _ h => h)
/-- What Feed's error is. -/
theorem feed_err {w : World} {d : Bool} {ev : Value} {n : Int} (h : (d = false ∧ ev = .nilIface) ∨ (d = true ∧ ∃ fb, ev = eF fb ∧ IsF w fb ⟨#[102, 114, 97, 109, 101]⟩ n 260)) : (d = false → ev = .nilIface) ∧ (d = true → ∃ fb, ev = eF fb) := by
  rcases h with ⟨rfl, h⟩ | ⟨rfl, fb, h, _⟩
  · exact ⟨fun _ => h, fun h => (by cases h)⟩
  · exact ⟨fun h => (by cases h), fun _ => ⟨fb, h⟩⟩


set_option maxRecDepth 100000 in
set_option maxHeartbeats 1000000 in
theorem cuts_Pi (b o c n : Nat) (k : Int) (xs ys zs : List Int) (os : List (List Int)) (w : World) (hg : Hg w) (hb : Bytes w (.slice (some ⟨b, o, none⟩) xs.length c) xs) (hlo : Bytes w (.slice (some ⟨b, o, none⟩) n c) ys) (hhi : Bytes w (.slice (some ⟨b, o + n, none⟩) (xs.length - n) (c - n)) zs) (hbx : Byt xs) (hby : Byt ys) (hbz : Byt zs)
    (hlx : xs.length ≤ 1048576) (hly : ys.length ≤ 1048576) (hlz : zs.length ≤ 1048576) (hol : os.length ≤ 1048576) (hx : split xs = (os, [], true)) (hx1 : split ys = (os, [], true)) (hnl : n ≤ xs.length) (hlc : xs.length ≤ c) (hcm : c ≤ 9223372036854775807) (hnc : n < c) (k0 : 0 ≤ k) (k1 : k ≤ 65535) (hmod : (k : Int) % ((xs.length : Int) + 1) = (n : Int)) :
    Calls Tryd.prog 4 #[.slice (some ⟨b, o, none⟩) xs.length c, .int .u16 k] w (Yes w) := by
  have HX := Lib.hid hx
  have HX1 := Lib.hid hx1
  have HBB := Lib.hid hb
  have HLO := Lib.hid hlo
  have HHI := Lib.hid hhi
  clear hx hx1 hb hlo hhi
  go_enter Tryd.func4, Tryd.ntmps4
  go_wp2_with fail
  refine (awake_any _ hg).mono ?_
  rintro e w1 ⟨rfl, hb1⟩
  have HW1 := Lib.hid hb1
  have HBB1 := Lib.hid (Sl.below HBB.out hb1)
  have hj0 := J.new w1 (fun q => q = w1.heap.size) rfl
  have hj1 : J ((w1.alloc (.cells #[.slice none 0 0, .bool false] 32)).alloc (.cells #[.slice none 0 0, .bool false] 32)) w1.heap.size (fun q => q = w1.heap.size) [] false := hj0.keeps (Keeps.alloc _ _ (fun _ => False)) (fun _ _ h => h)
  have hj2 := J.new (w1.alloc (.cells #[.slice none 0 0, .bool false] 32)) (fun q => q = w1.heap.size + 1) (by simp)
  rw [World.size_alloc] at hj2
  have HA := Lib.hid hj1
  have HB := Lib.hid hj2
  have HSZ1 := HW1.out.size
  clear hb1 hj0 hj1 hj2
  go_wp2_with fail
  refine (feed_live w1.heap.size _ [] xs _ _ HA.out (Sl.alloc (Sl.alloc HBB1.out _) _) hbx (by simp; omega)).mono ?_
  rintro e w2 hp
  unfold FeedPost at hp
  rw [List.nil_append, HX.out] at hp
  obtain ⟨oa, oc, ev, vs, F1, rfl, hr, hj, hF1, hn1, hn2, hk, he⟩ := hp
  have he := feed_err he
  have hz2 : w1.heap.size + 1 < w2.heap.size := by have := hk.size; simp at this; omega
  have hk1 : Keeps w1 w2 (fun q => False) := ((Keeps.alloc w1 _ _).trans (Keeps.alloc _ _ (fun _ => False)) (fun _ _ h => h)).trans hk (fun b hb h => by omega)
  have HA2 := Lib.hid (show J w2 w1.heap.size (fun q => F1 q ∧ q < w2.heap.size) _ _ from hj.mono (fun q h1 h2 => ⟨h2, h1⟩))
  have HFA := Lib.hid (show ∀ q, F1 q ∧ q < w2.heap.size → w1.heap.size ≤ q ∧ q ≠ w1.heap.size + 1 from fun q h => by rcases hF1 q h.1 with h | h; omega; simp at h; omega)
  have HB2 := Lib.hid (HB.out.keeps hk (fun q h1 h2 => by omega))
  have HR2 := Lib.hid hr
  have HRN := Lib.hid (show ∀ q, (Value.slice oa (os).length oc).ownBlock = some q → q ≠ w1.heap.size + 1 from fun q h => by have := (hr.1.lt q h).1; simp at this; omega)
  have HRM := Lib.hid (show ∀ x, x ∈ vs → ∀ q, x.ownBlock = some q → q ≠ w1.heap.size + 1 from fun x hx q h => by
    obtain ⟨i, hi⟩ := List.mem_iff_getElem?.1 hx
    obtain ⟨_, _, _, _, _, hf⟩ := hr.2 i x hi
    have := (hf q h).1; simp at this; omega)
  have HW2 := Lib.hid (HW1.out.trans ((hk1.below (Nat.le_refl _) (fun _ h => h.elim)).mono HW1.out.size))
  have HLO2 := Lib.hid (Sl.below HLO.out HW2.out)
  obtain ⟨fa1, rfl⟩ := he.2 rfl
  unfold eF
  clear hk hk1 hj hr hF1 hn1 hn2 he
  dsimp only
  go_wp2_with fail
  refine (feed_live (w1.heap.size + 1) _ [] ys _ _ HB2.out HLO2.out hby (by simp; omega)).mono ?_
  rintro e w3 hp
  unfold FeedPost at hp
  rw [List.nil_append, HX1.out] at hp
  obtain ⟨ya, yc, ev2, ws, F2, rfl, hr, hj, hF2, hn1, hn2, hk, he⟩ := hp
  have he := feed_err he
  have HB3 := Lib.hid hj
  have HFB := Lib.hid (show ∀ q, F2 q → q = w1.heap.size + 1 ∨ w2.heap.size ≤ q from hF2)
  have HA3 := Lib.hid (HA2.out.keeps hk (fun q h1 h2 => (HFA.out q h1).2 h2))
  have HR3 := Lib.hid (HR2.out.stay hk (fun q h1 h2 => HRN.out q h1 h2) (fun x hx q h1 h2 => HRM.out x hx q h1 h2))
  have HY3 := Lib.hid hr
  have HYN := Lib.hid hn1
  have HYM := Lib.hid hn2
  have HW3 := Lib.hid (HW2.out.trans (hk.below (B := w.heap.size) (by have := HW2.out.size; omega) (fun q h => by omega)))
  have HZ3 := Lib.hid hk.size
  obtain ⟨fa2, rfl⟩ := he.2 rfl
  unfold eF
  clear hk hj hr hF2 hn1 hn2 he
  dsimp only
  go_wp2_with fail
  refine (same_true oa ya oc yc os _ (RowsR.ofV HR3.out) (RowsR.ofV HY3.out) (by omega)).mono ?_
  rintro e w' ⟨rfl, m1, rfl⟩
  go_wp2_with fail
  refine (dead_any w1.heap.size _ [] true _ (HA3.out.drewN m1)).mono ?_
  rintro e w' ⟨rfl, rfl⟩
  go_wp2_with fail
  refine (dead_any (w1.heap.size + 1) F2 [] true _ (HB3.out.drewN m1)).mono ?_
  rintro e w' ⟨rfl, rfl⟩
  go_wp2
  go_ret
  exact ⟨rfl, HW3.out.trans ⟨rfl, rfl, rfl, Nat.le_refl _, fun _ _ => rfl⟩⟩

set_option maxRecDepth 100000 in
set_option maxHeartbeats 1000000 in
theorem cuts_Pii (b o c n : Nat) (k : Int) (xs ys zs : List Int) (o1 o2 : List (List Int)) (r1 r2 : List Int) (w : World) (hg : Hg w) (hb : Bytes w (.slice (some ⟨b, o, none⟩) xs.length c) xs) (hlo : Bytes w (.slice (some ⟨b, o, none⟩) n c) ys) (hhi : Bytes w (.slice (some ⟨b, o + n, none⟩) (xs.length - n) (c - n)) zs) (hbx : Byt xs) (hby : Byt ys) (hbz : Byt zs)
    (hlx : xs.length ≤ 1048576) (hly : ys.length ≤ 1048576) (hlz : zs.length ≤ 1048576) (hol : o1.length ≤ 1048576 ∧ o2.length ≤ 1048576) (hx : split xs = (o1 ++ o2, r2, false)) (hx1 : split ys = (o1, r1, false)) (hx2 : split (r1 ++ zs) = (o2, r2, false)) (hl1 : r1.length ≤ ys.length) (hnl : n ≤ xs.length) (hlc : xs.length ≤ c) (hcm : c ≤ 9223372036854775807) (hnc : n < c) (k0 : 0 ≤ k) (k1 : k ≤ 65535) (hmod : (k : Int) % ((xs.length : Int) + 1) = (n : Int)) :
    Calls Tryd.prog 4 #[.slice (some ⟨b, o, none⟩) xs.length c, .int .u16 k] w (Yes w) := by
  have HX := Lib.hid hx
  have HX1 := Lib.hid hx1
  have HBB := Lib.hid hb
  have HLO := Lib.hid hlo
  have HHI := Lib.hid hhi
  clear hx hx1 hb hlo hhi
  have HX2 := Lib.hid hx2
  clear hx2
  go_enter Tryd.func4, Tryd.ntmps4
  go_wp2_with fail
  refine (awake_any _ hg).mono ?_
  rintro e w1 ⟨rfl, hb1⟩
  have HW1 := Lib.hid hb1
  have HBB1 := Lib.hid (Sl.below HBB.out hb1)
  have hj0 := J.new w1 (fun q => q = w1.heap.size) rfl
  have hj1 : J ((w1.alloc (.cells #[.slice none 0 0, .bool false] 32)).alloc (.cells #[.slice none 0 0, .bool false] 32)) w1.heap.size (fun q => q = w1.heap.size) [] false := hj0.keeps (Keeps.alloc _ _ (fun _ => False)) (fun _ _ h => h)
  have hj2 := J.new (w1.alloc (.cells #[.slice none 0 0, .bool false] 32)) (fun q => q = w1.heap.size + 1) (by simp)
  rw [World.size_alloc] at hj2
  have HA := Lib.hid hj1
  have HB := Lib.hid hj2
  have HSZ1 := HW1.out.size
  clear hb1 hj0 hj1 hj2
  go_wp2_with fail
  refine (feed_live w1.heap.size _ [] xs _ _ HA.out (Sl.alloc (Sl.alloc HBB1.out _) _) hbx (by simp; omega)).mono ?_
  rintro e w2 hp
  unfold FeedPost at hp
  rw [List.nil_append, HX.out] at hp
  obtain ⟨oa, oc, ev, vs, F1, rfl, hr, hj, hF1, hn1, hn2, hk, he⟩ := hp
  have he := feed_err he
  have hz2 : w1.heap.size + 1 < w2.heap.size := by have := hk.size; simp at this; omega
  have hk1 : Keeps w1 w2 (fun q => False) := ((Keeps.alloc w1 _ _).trans (Keeps.alloc _ _ (fun _ => False)) (fun _ _ h => h)).trans hk (fun b hb h => by omega)
  have HA2 := Lib.hid (show J w2 w1.heap.size (fun q => F1 q ∧ q < w2.heap.size) _ _ from hj.mono (fun q h1 h2 => ⟨h2, h1⟩))
  have HFA := Lib.hid (show ∀ q, F1 q ∧ q < w2.heap.size → w1.heap.size ≤ q ∧ q ≠ w1.heap.size + 1 from fun q h => by rcases hF1 q h.1 with h | h; omega; simp at h; omega)
  have HB2 := Lib.hid (HB.out.keeps hk (fun q h1 h2 => by omega))
  have HR2 := Lib.hid hr
  have HRN := Lib.hid (show ∀ q, (Value.slice oa (o1 ++ o2).length oc).ownBlock = some q → q ≠ w1.heap.size + 1 from fun q h => by have := (hr.1.lt q h).1; simp at this; omega)
  have HRM := Lib.hid (show ∀ x, x ∈ vs → ∀ q, x.ownBlock = some q → q ≠ w1.heap.size + 1 from fun x hx q h => by
    obtain ⟨i, hi⟩ := List.mem_iff_getElem?.1 hx
    obtain ⟨_, _, _, _, _, hf⟩ := hr.2 i x hi
    have := (hf q h).1; simp at this; omega)
  have HW2 := Lib.hid (HW1.out.trans ((hk1.below (Nat.le_refl _) (fun _ h => h.elim)).mono HW1.out.size))
  have HLO2 := Lib.hid (Sl.below HLO.out HW2.out)
  obtain rfl := he.1 rfl
  have HRL := Lib.hid (show ∀ q, (Value.slice oa (o1 ++ o2).length oc).ownBlock = some q → q < w2.heap.size from fun q h => (hr.1.lt q h).2)
  have HRP := Lib.hid (show ∀ x, x ∈ vs → ∀ q, x.ownBlock = some q → q < w2.heap.size from fun x hx q h => by
    obtain ⟨i, hi⟩ := List.mem_iff_getElem?.1 hx
    obtain ⟨_, _, _, _, hl, _⟩ := hr.2 i x hi
    exact hl q h)
  clear hk hk1 hj hr hF1 hn1 hn2 he
  dsimp only
  go_wp2_with fail
  refine (feed_live (w1.heap.size + 1) _ [] ys _ _ HB2.out HLO2.out hby (by simp; omega)).mono ?_
  rintro e w3 hp
  unfold FeedPost at hp
  rw [List.nil_append, HX1.out] at hp
  obtain ⟨ya, yc, ev2, ws, F2, rfl, hr, hj, hF2, hn1, hn2, hk, he⟩ := hp
  have he := feed_err he
  have HB3 := Lib.hid hj
  have HFB := Lib.hid (show ∀ q, F2 q → q = w1.heap.size + 1 ∨ w2.heap.size ≤ q from hF2)
  have HA3 := Lib.hid (HA2.out.keeps hk (fun q h1 h2 => (HFA.out q h1).2 h2))
  have HR3 := Lib.hid (HR2.out.stay hk (fun q h1 h2 => HRN.out q h1 h2) (fun x hx q h1 h2 => HRM.out x hx q h1 h2))
  have HY3 := Lib.hid hr
  have HYN := Lib.hid hn1
  have HYM := Lib.hid hn2
  have HW3 := Lib.hid (HW2.out.trans (hk.below (B := w.heap.size) (by have := HW2.out.size; omega) (fun q h => by omega)))
  have HZ3 := Lib.hid hk.size
  obtain rfl := he.1 rfl
  clear hk hj hr hF2 hn1 hn2 he
  dsimp only
  go_wp2_with fail
  refine (feed_live (w1.heap.size + 1) _ r1 zs _ _ HB3.out (Sl.below HHI.out HW3.out) hbz (by omega)).mono ?_
  rintro e w4 hp
  unfold FeedPost at hp
  rw [HX2.out] at hp
  obtain ⟨za, zc, ev3, us, F3, rfl, hr, hj, hF3, hn1, hn2, hk, he⟩ := hp
  have he := feed_err he
  have HB4 := Lib.hid hj
  have HA4 := Lib.hid (HA3.out.keeps hk (fun q h1 h2 => by rcases HFB.out q h2 with h | h; exact (HFA.out q h1).2 h; have := h1.2; omega))
  have HR4 := Lib.hid (HR3.out.stay hk (fun q h1 h2 => by rcases HFB.out q h2 with h | h; exact HRN.out q h1 h; have := HRL.out q h1; omega) (fun x hx q h1 h2 => by rcases HFB.out q h2 with h | h; exact HRM.out x hx q h1 h; have := HRP.out x hx q h1; omega))
  have HY4 := Lib.hid (HY3.out.stay hk HYN.out HYM.out)
  have HZ4 := Lib.hid hr
  have HW4 := Lib.hid (HW3.out.trans (hk.below (B := w.heap.size) (by have := HW3.out.size; omega) (fun q h => by rcases HFB.out q h with h | h; omega; have := HW2.out.size; omega)))
  have HSRC := Lib.hid ((Sl.ofMid hr.1).src (P := Tryd.prog) Tryd.underlying22 (fun u hu => by
    obtain ⟨i, hi⟩ := List.mem_iff_getElem?.1 hu
    obtain ⟨_, _, _, h1, _⟩ := hr.2 i u hi
    exact h1))
  have hzn : ∀ x, x ∈ us → ∀ q, x.ownBlock = some q → (Value.slice ya o1.length yc).ownBlock ≠ some q := fun x hx q h1 h2 => by
    obtain ⟨i, hi⟩ := List.mem_iff_getElem?.1 hx
    obtain ⟨_, _, _, _, _, hf⟩ := hr.2 i x hi
    have h3 := (hf q h1).1; have h4 := (HY3.out.1.lt q h2).2; omega
  have HZN := Lib.hid hzn
  have HF3 := Lib.hid hF3
  have HZ34 := Lib.hid (show w2.heap.size ≤ w4.heap.size from Nat.le_trans HZ3.out hk.size)
  obtain rfl := he.1 rfl
  clear hk hj hr hF3 hn1 hn2 he hzn
  obtain ⟨i1, hi1, hy0, hy1, hy2⟩ := info_parts Tryd.infoBB
  dsimp only
  go_wp2_with (at_builtin; refine wpList_append_mid (v := .slice ya o1.length yc) rfl _ _ 22 22 rfl i1 (.slice none 0 0) 24 Tryd.underlying22 hi1 hy0 hy1 hy2 rfl rfl HY4.out.1 _ rfl o2.length _ HSRC.out (by unfold maxLen; omega) (by omega) HZ34.out ?_; intro a5 c5 w5 hm5 hg5 hb5; have HM5 := Lib.hid hm5; have HG5 := Lib.hid hg5; clear hm5 hg5 hb5)
  have hb45 : Below w.heap.size w4 w5 := (Below.refl _ _).grown HG5.out (by have := HW4.out.size; omega) (fun q hq => by have := (HY3.out.1.lt q hq).1; have := HW2.out.size; omega)
  have hr5 := RowsR.append HY4.out HZ4.out HZN.out HM5.out HG5.out
  rw [← List.length_append] at hr5 ⊢
  clear HM5
  have hra : RowsR w5 (.slice oa (o1 ++ o2).length oc) (o1 ++ o2) := RowsR.ofV (HR4.out.stay (Keeps.of_grown HG5.out (S := fun q => (Value.slice ya o1.length yc).ownBlock = some q) (fun q h => h)) (fun q h1 h2 => by have := HRL.out q h1; have := (HY3.out.1.lt q h2).1; omega) (fun x hx q h1 h2 => by have := HRP.out x hx q h1; have := (HY3.out.1.lt q h2).1; omega))
  have ha5 := HA4.out.keeps (Keeps.of_grown HG5.out (S := fun q => (Value.slice ya o1.length yc).ownBlock = some q) (fun q h => h)) (fun q h1 h2 => by have := h1.2; have := (HY3.out.1.lt q h2).1; omega)
  have hb5 := HB4.out.keeps (Keeps.of_grown HG5.out (S := fun q => (Value.slice ya o1.length yc).ownBlock = some q) (fun q h => h)) (fun q h1 h2 => by rcases HF3.out q h1 with h | h; exact HYN.out q h2 h; have := (HY3.out.1.lt q h2).2; omega)
  have HW5 := Lib.hid (HW4.out.trans hb45)
  have HRA := Lib.hid hra
  have HRB := Lib.hid hr5
  have HA5 := Lib.hid ha5
  have HB5 := Lib.hid hb5
  have hol3 : (o1 ++ o2).length ≤ 4294967296 := by rw [List.length_append]; omega
  clear hb45 hr5 hra ha5 hb5
  generalize o1 ++ o2 = oo at *
  have HSAME := Lib.hid (fun m => same_true oa a5 oc c5 oo (w5.drewN m) (HRA.out.drewN m) (HRB.out.drewN m) hol3)
  have HDA := Lib.hid (fun m => dead_any _ _ _ _ _ (HA5.out.drewN m))
  have HDB := Lib.hid (fun m => dead_any _ _ _ _ _ (HB5.out.drewN m))
  have HLA := Lib.hid (fun m => left_any _ _ _ _ _ (HA5.out.drewN m))
  have HLB := Lib.hid (fun m => left_any _ _ _ _ _ (HB5.out.drewN m))
  go_wp2_with fail
  go_quiet (first
    | (go_at_call 12; with_reducible exact Calls.quiet_of (HSAME.out _))
    | (go_at_call 14; first | with_reducible exact Calls.quiet_of_same (HDA.out _) | exact Calls.quiet_of_same (HDB.out _))
    | (go_at_call 13; first | with_reducible exact Calls.quiet_of_same (HLA.out _) | exact Calls.quiet_of_same (HLB.out _)))
  go_wp2
  go_ret
  exact ⟨rfl, HW5.out.trans ⟨rfl, rfl, rfl, Nat.le_refl _, fun _ _ => rfl⟩⟩

set_option maxRecDepth 100000 in
set_option maxHeartbeats 1000000 in
theorem cuts_Piii (b o c n : Nat) (k : Int) (xs ys zs : List Int) (o1 o2 : List (List Int)) (r1 r2 : List Int) (w : World) (hg : Hg w) (hb : Bytes w (.slice (some ⟨b, o, none⟩) xs.length c) xs) (hlo : Bytes w (.slice (some ⟨b, o, none⟩) n c) ys) (hhi : Bytes w (.slice (some ⟨b, o + n, none⟩) (xs.length - n) (c - n)) zs) (hbx : Byt xs) (hby : Byt ys) (hbz : Byt zs)
    (hlx : xs.length ≤ 1048576) (hly : ys.length ≤ 1048576) (hlz : zs.length ≤ 1048576) (hol : o1.length ≤ 1048576 ∧ o2.length ≤ 1048576) (hx : split xs = (o1 ++ o2, r2, true)) (hx1 : split ys = (o1, r1, false)) (hx2 : split (r1 ++ zs) = (o2, r2, true)) (hl1 : r1.length ≤ ys.length) (hnl : n ≤ xs.length) (hlc : xs.length ≤ c) (hcm : c ≤ 9223372036854775807) (hnc : n < c) (k0 : 0 ≤ k) (k1 : k ≤ 65535) (hmod : (k : Int) % ((xs.length : Int) + 1) = (n : Int)) :
    Calls Tryd.prog 4 #[.slice (some ⟨b, o, none⟩) xs.length c, .int .u16 k] w (Yes w) := by
  have HX := Lib.hid hx
  have HX1 := Lib.hid hx1
  have HBB := Lib.hid hb
  have HLO := Lib.hid hlo
  have HHI := Lib.hid hhi
  clear hx hx1 hb hlo hhi
  have HX2 := Lib.hid hx2
  clear hx2
  go_enter Tryd.func4, Tryd.ntmps4
  go_wp2_with fail
  refine (awake_any _ hg).mono ?_
  rintro e w1 ⟨rfl, hb1⟩
  have HW1 := Lib.hid hb1
  have HBB1 := Lib.hid (Sl.below HBB.out hb1)
  have hj0 := J.new w1 (fun q => q = w1.heap.size) rfl
  have hj1 : J ((w1.alloc (.cells #[.slice none 0 0, .bool false] 32)).alloc (.cells #[.slice none 0 0, .bool false] 32)) w1.heap.size (fun q => q = w1.heap.size) [] false := hj0.keeps (Keeps.alloc _ _ (fun _ => False)) (fun _ _ h => h)
  have hj2 := J.new (w1.alloc (.cells #[.slice none 0 0, .bool false] 32)) (fun q => q = w1.heap.size + 1) (by simp)
  rw [World.size_alloc] at hj2
  have HA := Lib.hid hj1
  have HB := Lib.hid hj2
  have HSZ1 := HW1.out.size
  clear hb1 hj0 hj1 hj2
  go_wp2_with fail
  refine (feed_live w1.heap.size _ [] xs _ _ HA.out (Sl.alloc (Sl.alloc HBB1.out _) _) hbx (by simp; omega)).mono ?_
  rintro e w2 hp
  unfold FeedPost at hp
  rw [List.nil_append, HX.out] at hp
  obtain ⟨oa, oc, ev, vs, F1, rfl, hr, hj, hF1, hn1, hn2, hk, he⟩ := hp
  have he := feed_err he
  have hz2 : w1.heap.size + 1 < w2.heap.size := by have := hk.size; simp at this; omega
  have hk1 : Keeps w1 w2 (fun q => False) := ((Keeps.alloc w1 _ _).trans (Keeps.alloc _ _ (fun _ => False)) (fun _ _ h => h)).trans hk (fun b hb h => by omega)
  have HA2 := Lib.hid (show J w2 w1.heap.size (fun q => F1 q ∧ q < w2.heap.size) _ _ from hj.mono (fun q h1 h2 => ⟨h2, h1⟩))
  have HFA := Lib.hid (show ∀ q, F1 q ∧ q < w2.heap.size → w1.heap.size ≤ q ∧ q ≠ w1.heap.size + 1 from fun q h => by rcases hF1 q h.1 with h | h; omega; simp at h; omega)
  have HB2 := Lib.hid (HB.out.keeps hk (fun q h1 h2 => by omega))
  have HR2 := Lib.hid hr
  have HRN := Lib.hid (show ∀ q, (Value.slice oa (o1 ++ o2).length oc).ownBlock = some q → q ≠ w1.heap.size + 1 from fun q h => by have := (hr.1.lt q h).1; simp at this; omega)
  have HRM := Lib.hid (show ∀ x, x ∈ vs → ∀ q, x.ownBlock = some q → q ≠ w1.heap.size + 1 from fun x hx q h => by
    obtain ⟨i, hi⟩ := List.mem_iff_getElem?.1 hx
    obtain ⟨_, _, _, _, _, hf⟩ := hr.2 i x hi
    have := (hf q h).1; simp at this; omega)
  have HW2 := Lib.hid (HW1.out.trans ((hk1.below (Nat.le_refl _) (fun _ h => h.elim)).mono HW1.out.size))
  have HLO2 := Lib.hid (Sl.below HLO.out HW2.out)
  obtain ⟨fa1, rfl⟩ := he.2 rfl
  unfold eF
  have HRL := Lib.hid (show ∀ q, (Value.slice oa (o1 ++ o2).length oc).ownBlock = some q → q < w2.heap.size from fun q h => (hr.1.lt q h).2)
  have HRP := Lib.hid (show ∀ x, x ∈ vs → ∀ q, x.ownBlock = some q → q < w2.heap.size from fun x hx q h => by
    obtain ⟨i, hi⟩ := List.mem_iff_getElem?.1 hx
    obtain ⟨_, _, _, _, hl, _⟩ := hr.2 i x hi
    exact hl q h)
  clear hk hk1 hj hr hF1 hn1 hn2 he
  dsimp only
  go_wp2_with fail
  refine (feed_live (w1.heap.size + 1) _ [] ys _ _ HB2.out HLO2.out hby (by simp; omega)).mono ?_
  rintro e w3 hp
  unfold FeedPost at hp
  rw [List.nil_append, HX1.out] at hp
  obtain ⟨ya, yc, ev2, ws, F2, rfl, hr, hj, hF2, hn1, hn2, hk, he⟩ := hp
  have he := feed_err he
  have HB3 := Lib.hid hj
  have HFB := Lib.hid (show ∀ q, F2 q → q = w1.heap.size + 1 ∨ w2.heap.size ≤ q from hF2)
  have HA3 := Lib.hid (HA2.out.keeps hk (fun q h1 h2 => (HFA.out q h1).2 h2))
  have HR3 := Lib.hid (HR2.out.stay hk (fun q h1 h2 => HRN.out q h1 h2) (fun x hx q h1 h2 => HRM.out x hx q h1 h2))
  have HY3 := Lib.hid hr
  have HYN := Lib.hid hn1
  have HYM := Lib.hid hn2
  have HW3 := Lib.hid (HW2.out.trans (hk.below (B := w.heap.size) (by have := HW2.out.size; omega) (fun q h => by omega)))
  have HZ3 := Lib.hid hk.size
  obtain rfl := he.1 rfl
  clear hk hj hr hF2 hn1 hn2 he
  dsimp only
  go_wp2_with fail
  refine (feed_live (w1.heap.size + 1) _ r1 zs _ _ HB3.out (Sl.below HHI.out HW3.out) hbz (by omega)).mono ?_
  rintro e w4 hp
  unfold FeedPost at hp
  rw [HX2.out] at hp
  obtain ⟨za, zc, ev3, us, F3, rfl, hr, hj, hF3, hn1, hn2, hk, he⟩ := hp
  have he := feed_err he
  have HB4 := Lib.hid hj
  have HA4 := Lib.hid (HA3.out.keeps hk (fun q h1 h2 => by rcases HFB.out q h2 with h | h; exact (HFA.out q h1).2 h; have := h1.2; omega))
  have HR4 := Lib.hid (HR3.out.stay hk (fun q h1 h2 => by rcases HFB.out q h2 with h | h; exact HRN.out q h1 h; have := HRL.out q h1; omega) (fun x hx q h1 h2 => by rcases HFB.out q h2 with h | h; exact HRM.out x hx q h1 h; have := HRP.out x hx q h1; omega))
  have HY4 := Lib.hid (HY3.out.stay hk HYN.out HYM.out)
  have HZ4 := Lib.hid hr
  have HW4 := Lib.hid (HW3.out.trans (hk.below (B := w.heap.size) (by have := HW3.out.size; omega) (fun q h => by rcases HFB.out q h with h | h; omega; have := HW2.out.size; omega)))
  have HSRC := Lib.hid ((Sl.ofMid hr.1).src (P := Tryd.prog) Tryd.underlying22 (fun u hu => by
    obtain ⟨i, hi⟩ := List.mem_iff_getElem?.1 hu
    obtain ⟨_, _, _, h1, _⟩ := hr.2 i u hi
    exact h1))
  have hzn : ∀ x, x ∈ us → ∀ q, x.ownBlock = some q → (Value.slice ya o1.length yc).ownBlock ≠ some q := fun x hx q h1 h2 => by
    obtain ⟨i, hi⟩ := List.mem_iff_getElem?.1 hx
    obtain ⟨_, _, _, _, _, hf⟩ := hr.2 i x hi
    have h3 := (hf q h1).1; have h4 := (HY3.out.1.lt q h2).2; omega
  have HZN := Lib.hid hzn
  have HF3 := Lib.hid hF3
  have HZ34 := Lib.hid (show w2.heap.size ≤ w4.heap.size from Nat.le_trans HZ3.out hk.size)
  obtain ⟨fa3, rfl⟩ := he.2 rfl
  unfold eF
  clear hk hj hr hF3 hn1 hn2 he hzn
  obtain ⟨i1, hi1, hy0, hy1, hy2⟩ := info_parts Tryd.infoBB
  dsimp only
  go_wp2_with (at_builtin; refine wpList_append_mid (v := .slice ya o1.length yc) rfl _ _ 22 22 rfl i1 (.slice none 0 0) 24 Tryd.underlying22 hi1 hy0 hy1 hy2 rfl rfl HY4.out.1 _ rfl o2.length _ HSRC.out (by unfold maxLen; omega) (by omega) HZ34.out ?_; intro a5 c5 w5 hm5 hg5 hb5; have HM5 := Lib.hid hm5; have HG5 := Lib.hid hg5; clear hm5 hg5 hb5)
  have hb45 : Below w.heap.size w4 w5 := (Below.refl _ _).grown HG5.out (by have := HW4.out.size; omega) (fun q hq => by have := (HY3.out.1.lt q hq).1; have := HW2.out.size; omega)
  have hr5 := RowsR.append HY4.out HZ4.out HZN.out HM5.out HG5.out
  rw [← List.length_append] at hr5 ⊢
  clear HM5
  have hra : RowsR w5 (.slice oa (o1 ++ o2).length oc) (o1 ++ o2) := RowsR.ofV (HR4.out.stay (Keeps.of_grown HG5.out (S := fun q => (Value.slice ya o1.length yc).ownBlock = some q) (fun q h => h)) (fun q h1 h2 => by have := HRL.out q h1; have := (HY3.out.1.lt q h2).1; omega) (fun x hx q h1 h2 => by have := HRP.out x hx q h1; have := (HY3.out.1.lt q h2).1; omega))
  have ha5 := HA4.out.keeps (Keeps.of_grown HG5.out (S := fun q => (Value.slice ya o1.length yc).ownBlock = some q) (fun q h => h)) (fun q h1 h2 => by have := h1.2; have := (HY3.out.1.lt q h2).1; omega)
  have hb5 := HB4.out.keeps (Keeps.of_grown HG5.out (S := fun q => (Value.slice ya o1.length yc).ownBlock = some q) (fun q h => h)) (fun q h1 h2 => by rcases HF3.out q h1 with h | h; exact HYN.out q h2 h; have := (HY3.out.1.lt q h2).2; omega)
  have HW5 := Lib.hid (HW4.out.trans hb45)
  have HRA := Lib.hid hra
  have HRB := Lib.hid hr5
  have HA5 := Lib.hid ha5
  have HB5 := Lib.hid hb5
  have hol3 : (o1 ++ o2).length ≤ 4294967296 := by rw [List.length_append]; omega
  clear hb45 hr5 hra ha5 hb5
  generalize o1 ++ o2 = oo at *
  have HSAME := Lib.hid (fun m => same_true oa a5 oc c5 oo (w5.drewN m) (HRA.out.drewN m) (HRB.out.drewN m) hol3)
  have HDA := Lib.hid (fun m => dead_any _ _ _ _ _ (HA5.out.drewN m))
  have HDB := Lib.hid (fun m => dead_any _ _ _ _ _ (HB5.out.drewN m))
  have HLA := Lib.hid (fun m => left_any _ _ _ _ _ (HA5.out.drewN m))
  have HLB := Lib.hid (fun m => left_any _ _ _ _ _ (HB5.out.drewN m))
  go_wp2_with fail
  go_quiet (first
    | (go_at_call 12; with_reducible exact Calls.quiet_of (HSAME.out _))
    | (go_at_call 14; first | with_reducible exact Calls.quiet_of_same (HDA.out _) | exact Calls.quiet_of_same (HDB.out _))
    | (go_at_call 13; first | with_reducible exact Calls.quiet_of_same (HLA.out _) | exact Calls.quiet_of_same (HLB.out _)))
  go_wp2
  go_ret
  exact ⟨rfl, HW5.out.trans ⟨rfl, rfl, rfl, Nat.le_refl _, fun _ _ => rfl⟩⟩

set_option maxRecDepth 100000 in
set_option maxHeartbeats 1000000 in
theorem cuts_Qi (b o n : Nat) (k : Int) (xs ys zs : List Int) (os : List (List Int)) (w : World) (hg : Hg w) (hb : Bytes w (.slice (some ⟨b, o, none⟩) n n) xs) (hlo : Bytes w (.slice (some ⟨b, o, none⟩) n n) ys) (hhi : Bytes w (.slice (some ⟨b, o, none⟩) 0 0) zs) (hbx : Byt xs) (hby : Byt ys) (hbz : Byt zs)
    (hlx : xs.length ≤ 1048576) (hly : ys.length ≤ 1048576) (hlz : zs.length ≤ 1048576) (hol : os.length ≤ 1048576) (hx : split xs = (os, [], true)) (hx1 : split ys = (os, [], true)) (hnl : n ≤ 1048576) (k0 : 0 ≤ k) (k1 : k ≤ 65535) (hmod : (k : Int) % ((n : Int) + 1) = (n : Int)) :
    Calls Tryd.prog 4 #[.slice (some ⟨b, o, none⟩) n n, .int .u16 k] w (Yes w) := by
  have HX := Lib.hid hx
  have HX1 := Lib.hid hx1
  have HBB := Lib.hid hb
  have HLO := Lib.hid hlo
  have HHI := Lib.hid hhi
  clear hx hx1 hb hlo hhi
  go_enter Tryd.func4, Tryd.ntmps4
  go_wp2_with fail
  refine (awake_any _ hg).mono ?_
  rintro e w1 ⟨rfl, hb1⟩
  have HW1 := Lib.hid hb1
  have HBB1 := Lib.hid (Sl.below HBB.out hb1)
  have hj0 := J.new w1 (fun q => q = w1.heap.size) rfl
  have hj1 : J ((w1.alloc (.cells #[.slice none 0 0, .bool false] 32)).alloc (.cells #[.slice none 0 0, .bool false] 32)) w1.heap.size (fun q => q = w1.heap.size) [] false := hj0.keeps (Keeps.alloc _ _ (fun _ => False)) (fun _ _ h => h)
  have hj2 := J.new (w1.alloc (.cells #[.slice none 0 0, .bool false] 32)) (fun q => q = w1.heap.size + 1) (by simp)
  rw [World.size_alloc] at hj2
  have HA := Lib.hid hj1
  have HB := Lib.hid hj2
  have HSZ1 := HW1.out.size
  clear hb1 hj0 hj1 hj2
  go_wp2_with fail
  refine (feed_live w1.heap.size _ [] xs _ _ HA.out (Sl.alloc (Sl.alloc HBB1.out _) _) hbx (by simp; omega)).mono ?_
  rintro e w2 hp
  unfold FeedPost at hp
  rw [List.nil_append, HX.out] at hp
  obtain ⟨oa, oc, ev, vs, F1, rfl, hr, hj, hF1, hn1, hn2, hk, he⟩ := hp
  have he := feed_err he
  have hz2 : w1.heap.size + 1 < w2.heap.size := by have := hk.size; simp at this; omega
  have hk1 : Keeps w1 w2 (fun q => False) := ((Keeps.alloc w1 _ _).trans (Keeps.alloc _ _ (fun _ => False)) (fun _ _ h => h)).trans hk (fun b hb h => by omega)
  have HA2 := Lib.hid (show J w2 w1.heap.size (fun q => F1 q ∧ q < w2.heap.size) _ _ from hj.mono (fun q h1 h2 => ⟨h2, h1⟩))
  have HFA := Lib.hid (show ∀ q, F1 q ∧ q < w2.heap.size → w1.heap.size ≤ q ∧ q ≠ w1.heap.size + 1 from fun q h => by rcases hF1 q h.1 with h | h; omega; simp at h; omega)
  have HB2 := Lib.hid (HB.out.keeps hk (fun q h1 h2 => by omega))
  have HR2 := Lib.hid hr
  have HRN := Lib.hid (show ∀ q, (Value.slice oa (os).length oc).ownBlock = some q → q ≠ w1.heap.size + 1 from fun q h => by have := (hr.1.lt q h).1; simp at this; omega)
  have HRM := Lib.hid (show ∀ x, x ∈ vs → ∀ q, x.ownBlock = some q → q ≠ w1.heap.size + 1 from fun x hx q h => by
    obtain ⟨i, hi⟩ := List.mem_iff_getElem?.1 hx
    obtain ⟨_, _, _, _, _, hf⟩ := hr.2 i x hi
    have := (hf q h).1; simp at this; omega)
  have HW2 := Lib.hid (HW1.out.trans ((hk1.below (Nat.le_refl _) (fun _ h => h.elim)).mono HW1.out.size))
  have HLO2 := Lib.hid (Sl.below HLO.out HW2.out)
  obtain ⟨fa1, rfl⟩ := he.2 rfl
  unfold eF
  clear hk hk1 hj hr hF1 hn1 hn2 he
  dsimp only
  go_wp2_with fail
  refine (feed_live (w1.heap.size + 1) _ [] ys _ _ HB2.out HLO2.out hby (by simp; omega)).mono ?_
  rintro e w3 hp
  unfold FeedPost at hp
  rw [List.nil_append, HX1.out] at hp
  obtain ⟨ya, yc, ev2, ws, F2, rfl, hr, hj, hF2, hn1, hn2, hk, he⟩ := hp
  have he := feed_err he
  have HB3 := Lib.hid hj
  have HFB := Lib.hid (show ∀ q, F2 q → q = w1.heap.size + 1 ∨ w2.heap.size ≤ q from hF2)
  have HA3 := Lib.hid (HA2.out.keeps hk (fun q h1 h2 => (HFA.out q h1).2 h2))
  have HR3 := Lib.hid (HR2.out.stay hk (fun q h1 h2 => HRN.out q h1 h2) (fun x hx q h1 h2 => HRM.out x hx q h1 h2))
  have HY3 := Lib.hid hr
  have HYN := Lib.hid hn1
  have HYM := Lib.hid hn2
  have HW3 := Lib.hid (HW2.out.trans (hk.below (B := w.heap.size) (by have := HW2.out.size; omega) (fun q h => by omega)))
  have HZ3 := Lib.hid hk.size
  obtain ⟨fa2, rfl⟩ := he.2 rfl
  unfold eF
  clear hk hj hr hF2 hn1 hn2 he
  dsimp only
  go_wp2_with fail
  refine (same_true oa ya oc yc os _ (RowsR.ofV HR3.out) (RowsR.ofV HY3.out) (by omega)).mono ?_
  rintro e w' ⟨rfl, m1, rfl⟩
  go_wp2_with fail
  refine (dead_any w1.heap.size _ [] true _ (HA3.out.drewN m1)).mono ?_
  rintro e w' ⟨rfl, rfl⟩
  go_wp2_with fail
  refine (dead_any (w1.heap.size + 1) F2 [] true _ (HB3.out.drewN m1)).mono ?_
  rintro e w' ⟨rfl, rfl⟩
  go_wp2
  go_ret
  exact ⟨rfl, HW3.out.trans ⟨rfl, rfl, rfl, Nat.le_refl _, fun _ _ => rfl⟩⟩

set_option maxRecDepth 100000 in
set_option maxHeartbeats 1000000 in
theorem cuts_Qii (b o n : Nat) (k : Int) (xs ys zs : List Int) (o1 o2 : List (List Int)) (r1 r2 : List Int) (w : World) (hg : Hg w) (hb : Bytes w (.slice (some ⟨b, o, none⟩) n n) xs) (hlo : Bytes w (.slice (some ⟨b, o, none⟩) n n) ys) (hhi : Bytes w (.slice (some ⟨b, o, none⟩) 0 0) zs) (hbx : Byt xs) (hby : Byt ys) (hbz : Byt zs)
    (hlx : xs.length ≤ 1048576) (hly : ys.length ≤ 1048576) (hlz : zs.length ≤ 1048576) (hol : o1.length ≤ 1048576 ∧ o2.length ≤ 1048576) (hx : split xs = (o1 ++ o2, r2, false)) (hx1 : split ys = (o1, r1, false)) (hx2 : split (r1 ++ zs) = (o2, r2, false)) (hl1 : r1.length ≤ ys.length) (hnl : n ≤ 1048576) (k0 : 0 ≤ k) (k1 : k ≤ 65535) (hmod : (k : Int) % ((n : Int) + 1) = (n : Int)) :
    Calls Tryd.prog 4 #[.slice (some ⟨b, o, none⟩) n n, .int .u16 k] w (Yes w) := by
  have HX := Lib.hid hx
  have HX1 := Lib.hid hx1
  have HBB := Lib.hid hb
  have HLO := Lib.hid hlo
  have HHI := Lib.hid hhi
  clear hx hx1 hb hlo hhi
  have HX2 := Lib.hid hx2
  clear hx2
  go_enter Tryd.func4, Tryd.ntmps4
  go_wp2_with fail
  refine (awake_any _ hg).mono ?_
  rintro e w1 ⟨rfl, hb1⟩
  have HW1 := Lib.hid hb1
  have HBB1 := Lib.hid (Sl.below HBB.out hb1)
  have hj0 := J.new w1 (fun q => q = w1.heap.size) rfl
  have hj1 : J ((w1.alloc (.cells #[.slice none 0 0, .bool false] 32)).alloc (.cells #[.slice none 0 0, .bool false] 32)) w1.heap.size (fun q => q = w1.heap.size) [] false := hj0.keeps (Keeps.alloc _ _ (fun _ => False)) (fun _ _ h => h)
  have hj2 := J.new (w1.alloc (.cells #[.slice none 0 0, .bool false] 32)) (fun q => q = w1.heap.size + 1) (by simp)
  rw [World.size_alloc] at hj2
  have HA := Lib.hid hj1
  have HB := Lib.hid hj2
  have HSZ1 := HW1.out.size
  clear hb1 hj0 hj1 hj2
  go_wp2_with fail
  refine (feed_live w1.heap.size _ [] xs _ _ HA.out (Sl.alloc (Sl.alloc HBB1.out _) _) hbx (by simp; omega)).mono ?_
  rintro e w2 hp
  unfold FeedPost at hp
  rw [List.nil_append, HX.out] at hp
  obtain ⟨oa, oc, ev, vs, F1, rfl, hr, hj, hF1, hn1, hn2, hk, he⟩ := hp
  have he := feed_err he
  have hz2 : w1.heap.size + 1 < w2.heap.size := by have := hk.size; simp at this; omega
  have hk1 : Keeps w1 w2 (fun q => False) := ((Keeps.alloc w1 _ _).trans (Keeps.alloc _ _ (fun _ => False)) (fun _ _ h => h)).trans hk (fun b hb h => by omega)
  have HA2 := Lib.hid (show J w2 w1.heap.size (fun q => F1 q ∧ q < w2.heap.size) _ _ from hj.mono (fun q h1 h2 => ⟨h2, h1⟩))
  have HFA := Lib.hid (show ∀ q, F1 q ∧ q < w2.heap.size → w1.heap.size ≤ q ∧ q ≠ w1.heap.size + 1 from fun q h => by rcases hF1 q h.1 with h | h; omega; simp at h; omega)
  have HB2 := Lib.hid (HB.out.keeps hk (fun q h1 h2 => by omega))
  have HR2 := Lib.hid hr
  have HRN := Lib.hid (show ∀ q, (Value.slice oa (o1 ++ o2).length oc).ownBlock = some q → q ≠ w1.heap.size + 1 from fun q h => by have := (hr.1.lt q h).1; simp at this; omega)
  have HRM := Lib.hid (show ∀ x, x ∈ vs → ∀ q, x.ownBlock = some q → q ≠ w1.heap.size + 1 from fun x hx q h => by
    obtain ⟨i, hi⟩ := List.mem_iff_getElem?.1 hx
    obtain ⟨_, _, _, _, _, hf⟩ := hr.2 i x hi
    have := (hf q h).1; simp at this; omega)
  have HW2 := Lib.hid (HW1.out.trans ((hk1.below (Nat.le_refl _) (fun _ h => h.elim)).mono HW1.out.size))
  have HLO2 := Lib.hid (Sl.below HLO.out HW2.out)
  obtain rfl := he.1 rfl
  have HRL := Lib.hid (show ∀ q, (Value.slice oa (o1 ++ o2).length oc).ownBlock = some q → q < w2.heap.size from fun q h => (hr.1.lt q h).2)
  have HRP := Lib.hid (show ∀ x, x ∈ vs → ∀ q, x.ownBlock = some q → q < w2.heap.size from fun x hx q h => by
    obtain ⟨i, hi⟩ := List.mem_iff_getElem?.1 hx
    obtain ⟨_, _, _, _, hl, _⟩ := hr.2 i x hi
    exact hl q h)
  clear hk hk1 hj hr hF1 hn1 hn2 he
  dsimp only
  go_wp2_with fail
  refine (feed_live (w1.heap.size + 1) _ [] ys _ _ HB2.out HLO2.out hby (by simp; omega)).mono ?_
  rintro e w3 hp
  unfold FeedPost at hp
  rw [List.nil_append, HX1.out] at hp
  obtain ⟨ya, yc, ev2, ws, F2, rfl, hr, hj, hF2, hn1, hn2, hk, he⟩ := hp
  have he := feed_err he
  have HB3 := Lib.hid hj
  have HFB := Lib.hid (show ∀ q, F2 q → q = w1.heap.size + 1 ∨ w2.heap.size ≤ q from hF2)
  have HA3 := Lib.hid (HA2.out.keeps hk (fun q h1 h2 => (HFA.out q h1).2 h2))
  have HR3 := Lib.hid (HR2.out.stay hk (fun q h1 h2 => HRN.out q h1 h2) (fun x hx q h1 h2 => HRM.out x hx q h1 h2))
  have HY3 := Lib.hid hr
  have HYN := Lib.hid hn1
  have HYM := Lib.hid hn2
  have HW3 := Lib.hid (HW2.out.trans (hk.below (B := w.heap.size) (by have := HW2.out.size; omega) (fun q h => by omega)))
  have HZ3 := Lib.hid hk.size
  obtain rfl := he.1 rfl
  clear hk hj hr hF2 hn1 hn2 he
  dsimp only
  go_wp2_with fail
  refine (feed_live (w1.heap.size + 1) _ r1 zs _ _ HB3.out (Sl.below HHI.out HW3.out) hbz (by omega)).mono ?_
  rintro e w4 hp
  unfold FeedPost at hp
  rw [HX2.out] at hp
  obtain ⟨za, zc, ev3, us, F3, rfl, hr, hj, hF3, hn1, hn2, hk, he⟩ := hp
  have he := feed_err he
  have HB4 := Lib.hid hj
  have HA4 := Lib.hid (HA3.out.keeps hk (fun q h1 h2 => by rcases HFB.out q h2 with h | h; exact (HFA.out q h1).2 h; have := h1.2; omega))
  have HR4 := Lib.hid (HR3.out.stay hk (fun q h1 h2 => by rcases HFB.out q h2 with h | h; exact HRN.out q h1 h; have := HRL.out q h1; omega) (fun x hx q h1 h2 => by rcases HFB.out q h2 with h | h; exact HRM.out x hx q h1 h; have := HRP.out x hx q h1; omega))
  have HY4 := Lib.hid (HY3.out.stay hk HYN.out HYM.out)
  have HZ4 := Lib.hid hr
  have HW4 := Lib.hid (HW3.out.trans (hk.below (B := w.heap.size) (by have := HW3.out.size; omega) (fun q h => by rcases HFB.out q h with h | h; omega; have := HW2.out.size; omega)))
  have HSRC := Lib.hid ((Sl.ofMid hr.1).src (P := Tryd.prog) Tryd.underlying22 (fun u hu => by
    obtain ⟨i, hi⟩ := List.mem_iff_getElem?.1 hu
    obtain ⟨_, _, _, h1, _⟩ := hr.2 i u hi
    exact h1))
  have hzn : ∀ x, x ∈ us → ∀ q, x.ownBlock = some q → (Value.slice ya o1.length yc).ownBlock ≠ some q := fun x hx q h1 h2 => by
    obtain ⟨i, hi⟩ := List.mem_iff_getElem?.1 hx
    obtain ⟨_, _, _, _, _, hf⟩ := hr.2 i x hi
    have h3 := (hf q h1).1; have h4 := (HY3.out.1.lt q h2).2; omega
  have HZN := Lib.hid hzn
  have HF3 := Lib.hid hF3
  have HZ34 := Lib.hid (show w2.heap.size ≤ w4.heap.size from Nat.le_trans HZ3.out hk.size)
  obtain rfl := he.1 rfl
  clear hk hj hr hF3 hn1 hn2 he hzn
  obtain ⟨i1, hi1, hy0, hy1, hy2⟩ := info_parts Tryd.infoBB
  dsimp only
  go_wp2_with (at_builtin; refine wpList_append_mid (v := .slice ya o1.length yc) rfl _ _ 22 22 rfl i1 (.slice none 0 0) 24 Tryd.underlying22 hi1 hy0 hy1 hy2 rfl rfl HY4.out.1 _ rfl o2.length _ HSRC.out (by unfold maxLen; omega) (by omega) HZ34.out ?_; intro a5 c5 w5 hm5 hg5 hb5; have HM5 := Lib.hid hm5; have HG5 := Lib.hid hg5; clear hm5 hg5 hb5)
  have hb45 : Below w.heap.size w4 w5 := (Below.refl _ _).grown HG5.out (by have := HW4.out.size; omega) (fun q hq => by have := (HY3.out.1.lt q hq).1; have := HW2.out.size; omega)
  have hr5 := RowsR.append HY4.out HZ4.out HZN.out HM5.out HG5.out
  rw [← List.length_append] at hr5 ⊢
  clear HM5
  have hra : RowsR w5 (.slice oa (o1 ++ o2).length oc) (o1 ++ o2) := RowsR.ofV (HR4.out.stay (Keeps.of_grown HG5.out (S := fun q => (Value.slice ya o1.length yc).ownBlock = some q) (fun q h => h)) (fun q h1 h2 => by have := HRL.out q h1; have := (HY3.out.1.lt q h2).1; omega) (fun x hx q h1 h2 => by have := HRP.out x hx q h1; have := (HY3.out.1.lt q h2).1; omega))
  have ha5 := HA4.out.keeps (Keeps.of_grown HG5.out (S := fun q => (Value.slice ya o1.length yc).ownBlock = some q) (fun q h => h)) (fun q h1 h2 => by have := h1.2; have := (HY3.out.1.lt q h2).1; omega)
  have hb5 := HB4.out.keeps (Keeps.of_grown HG5.out (S := fun q => (Value.slice ya o1.length yc).ownBlock = some q) (fun q h => h)) (fun q h1 h2 => by rcases HF3.out q h1 with h | h; exact HYN.out q h2 h; have := (HY3.out.1.lt q h2).2; omega)
  have HW5 := Lib.hid (HW4.out.trans hb45)
  have HRA := Lib.hid hra
  have HRB := Lib.hid hr5
  have HA5 := Lib.hid ha5
  have HB5 := Lib.hid hb5
  have hol3 : (o1 ++ o2).length ≤ 4294967296 := by rw [List.length_append]; omega
  clear hb45 hr5 hra ha5 hb5
  generalize o1 ++ o2 = oo at *
  have HSAME := Lib.hid (fun m => same_true oa a5 oc c5 oo (w5.drewN m) (HRA.out.drewN m) (HRB.out.drewN m) hol3)
  have HDA := Lib.hid (fun m => dead_any _ _ _ _ _ (HA5.out.drewN m))
  have HDB := Lib.hid (fun m => dead_any _ _ _ _ _ (HB5.out.drewN m))
  have HLA := Lib.hid (fun m => left_any _ _ _ _ _ (HA5.out.drewN m))
  have HLB := Lib.hid (fun m => left_any _ _ _ _ _ (HB5.out.drewN m))
  go_wp2_with fail
  go_quiet (first
    | (go_at_call 12; with_reducible exact Calls.quiet_of (HSAME.out _))
    | (go_at_call 14; first | with_reducible exact Calls.quiet_of_same (HDA.out _) | exact Calls.quiet_of_same (HDB.out _))
    | (go_at_call 13; first | with_reducible exact Calls.quiet_of_same (HLA.out _) | exact Calls.quiet_of_same (HLB.out _)))
  go_wp2
  go_ret
  exact ⟨rfl, HW5.out.trans ⟨rfl, rfl, rfl, Nat.le_refl _, fun _ _ => rfl⟩⟩

set_option maxRecDepth 100000 in
set_option maxHeartbeats 1000000 in
theorem cuts_Qiii (b o n : Nat) (k : Int) (xs ys zs : List Int) (o1 o2 : List (List Int)) (r1 r2 : List Int) (w : World) (hg : Hg w) (hb : Bytes w (.slice (some ⟨b, o, none⟩) n n) xs) (hlo : Bytes w (.slice (some ⟨b, o, none⟩) n n) ys) (hhi : Bytes w (.slice (some ⟨b, o, none⟩) 0 0) zs) (hbx : Byt xs) (hby : Byt ys) (hbz : Byt zs)
    (hlx : xs.length ≤ 1048576) (hly : ys.length ≤ 1048576) (hlz : zs.length ≤ 1048576) (hol : o1.length ≤ 1048576 ∧ o2.length ≤ 1048576) (hx : split xs = (o1 ++ o2, r2, true)) (hx1 : split ys = (o1, r1, false)) (hx2 : split (r1 ++ zs) = (o2, r2, true)) (hl1 : r1.length ≤ ys.length) (hnl : n ≤ 1048576) (k0 : 0 ≤ k) (k1 : k ≤ 65535) (hmod : (k : Int) % ((n : Int) + 1) = (n : Int)) :
    Calls Tryd.prog 4 #[.slice (some ⟨b, o, none⟩) n n, .int .u16 k] w (Yes w) := by
  have HX := Lib.hid hx
  have HX1 := Lib.hid hx1
  have HBB := Lib.hid hb
  have HLO := Lib.hid hlo
  have HHI := Lib.hid hhi
  clear hx hx1 hb hlo hhi
  have HX2 := Lib.hid hx2
  clear hx2
  go_enter Tryd.func4, Tryd.ntmps4
  go_wp2_with fail
  refine (awake_any _ hg).mono ?_
  rintro e w1 ⟨rfl, hb1⟩
  have HW1 := Lib.hid hb1
  have HBB1 := Lib.hid (Sl.below HBB.out hb1)
  have hj0 := J.new w1 (fun q => q = w1.heap.size) rfl
  have hj1 : J ((w1.alloc (.cells #[.slice none 0 0, .bool false] 32)).alloc (.cells #[.slice none 0 0, .bool false] 32)) w1.heap.size (fun q => q = w1.heap.size) [] false := hj0.keeps (Keeps.alloc _ _ (fun _ => False)) (fun _ _ h => h)
  have hj2 := J.new (w1.alloc (.cells #[.slice none 0 0, .bool false] 32)) (fun q => q = w1.heap.size + 1) (by simp)
  rw [World.size_alloc] at hj2
  have HA := Lib.hid hj1
  have HB := Lib.hid hj2
  have HSZ1 := HW1.out.size
  clear hb1 hj0 hj1 hj2
  go_wp2_with fail
  refine (feed_live w1.heap.size _ [] xs _ _ HA.out (Sl.alloc (Sl.alloc HBB1.out _) _) hbx (by simp; omega)).mono ?_
  rintro e w2 hp
  unfold FeedPost at hp
  rw [List.nil_append, HX.out] at hp
  obtain ⟨oa, oc, ev, vs, F1, rfl, hr, hj, hF1, hn1, hn2, hk, he⟩ := hp
  have he := feed_err he
  have hz2 : w1.heap.size + 1 < w2.heap.size := by have := hk.size; simp at this; omega
  have hk1 : Keeps w1 w2 (fun q => False) := ((Keeps.alloc w1 _ _).trans (Keeps.alloc _ _ (fun _ => False)) (fun _ _ h => h)).trans hk (fun b hb h => by omega)
  have HA2 := Lib.hid (show J w2 w1.heap.size (fun q => F1 q ∧ q < w2.heap.size) _ _ from hj.mono (fun q h1 h2 => ⟨h2, h1⟩))
  have HFA := Lib.hid (show ∀ q, F1 q ∧ q < w2.heap.size → w1.heap.size ≤ q ∧ q ≠ w1.heap.size + 1 from fun q h => by rcases hF1 q h.1 with h | h; omega; simp at h; omega)
  have HB2 := Lib.hid (HB.out.keeps hk (fun q h1 h2 => by omega))
  have HR2 := Lib.hid hr
  have HRN := Lib.hid (show ∀ q, (Value.slice oa (o1 ++ o2).length oc).ownBlock = some q → q ≠ w1.heap.size + 1 from fun q h => by have := (hr.1.lt q h).1; simp at this; omega)
  have HRM := Lib.hid (show ∀ x, x ∈ vs → ∀ q, x.ownBlock = some q → q ≠ w1.heap.size + 1 from fun x hx q h => by
    obtain ⟨i, hi⟩ := List.mem_iff_getElem?.1 hx
    obtain ⟨_, _, _, _, _, hf⟩ := hr.2 i x hi
    have := (hf q h).1; simp at this; omega)
  have HW2 := Lib.hid (HW1.out.trans ((hk1.below (Nat.le_refl _) (fun _ h => h.elim)).mono HW1.out.size))
  have HLO2 := Lib.hid (Sl.below HLO.out HW2.out)
  obtain ⟨fa1, rfl⟩ := he.2 rfl
  unfold eF
  have HRL := Lib.hid (show ∀ q, (Value.slice oa (o1 ++ o2).length oc).ownBlock = some q → q < w2.heap.size from fun q h => (hr.1.lt q h).2)
  have HRP := Lib.hid (show ∀ x, x ∈ vs → ∀ q, x.ownBlock = some q → q < w2.heap.size from fun x hx q h => by
    obtain ⟨i, hi⟩ := List.mem_iff_getElem?.1 hx
    obtain ⟨_, _, _, _, hl, _⟩ := hr.2 i x hi
    exact hl q h)
  clear hk hk1 hj hr hF1 hn1 hn2 he
  dsimp only
  go_wp2_with fail
  refine (feed_live (w1.heap.size + 1) _ [] ys _ _ HB2.out HLO2.out hby (by simp; omega)).mono ?_
  rintro e w3 hp
  unfold FeedPost at hp
  rw [List.nil_append, HX1.out] at hp
  obtain ⟨ya, yc, ev2, ws, F2, rfl, hr, hj, hF2, hn1, hn2, hk, he⟩ := hp
  have he := feed_err he
  have HB3 := Lib.hid hj
  have HFB := Lib.hid (show ∀ q, F2 q → q = w1.heap.size + 1 ∨ w2.heap.size ≤ q from hF2)
  have HA3 := Lib.hid (HA2.out.keeps hk (fun q h1 h2 => (HFA.out q h1).2 h2))
  have HR3 := Lib.hid (HR2.out.stay hk (fun q h1 h2 => HRN.out q h1 h2) (fun x hx q h1 h2 => HRM.out x hx q h1 h2))
  have HY3 := Lib.hid hr
  have HYN := Lib.hid hn1
  have HYM := Lib.hid hn2
  have HW3 := Lib.hid (HW2.out.trans (hk.below (B := w.heap.size) (by have := HW2.out.size; omega) (fun q h => by omega)))
  have HZ3 := Lib.hid hk.size
  obtain rfl := he.1 rfl
  clear hk hj hr hF2 hn1 hn2 he
  dsimp only
  go_wp2_with fail
  refine (feed_live (w1.heap.size + 1) _ r1 zs _ _ HB3.out (Sl.below HHI.out HW3.out) hbz (by omega)).mono ?_
  rintro e w4 hp
  unfold FeedPost at hp
  rw [HX2.out] at hp
  obtain ⟨za, zc, ev3, us, F3, rfl, hr, hj, hF3, hn1, hn2, hk, he⟩ := hp
  have he := feed_err he
  have HB4 := Lib.hid hj
  have HA4 := Lib.hid (HA3.out.keeps hk (fun q h1 h2 => by rcases HFB.out q h2 with h | h; exact (HFA.out q h1).2 h; have := h1.2; omega))
  have HR4 := Lib.hid (HR3.out.stay hk (fun q h1 h2 => by rcases HFB.out q h2 with h | h; exact HRN.out q h1 h; have := HRL.out q h1; omega) (fun x hx q h1 h2 => by rcases HFB.out q h2 with h | h; exact HRM.out x hx q h1 h; have := HRP.out x hx q h1; omega))
  have HY4 := Lib.hid (HY3.out.stay hk HYN.out HYM.out)
  have HZ4 := Lib.hid hr
  have HW4 := Lib.hid (HW3.out.trans (hk.below (B := w.heap.size) (by have := HW3.out.size; omega) (fun q h => by rcases HFB.out q h with h | h; omega; have := HW2.out.size; omega)))
  have HSRC := Lib.hid ((Sl.ofMid hr.1).src (P := Tryd.prog) Tryd.underlying22 (fun u hu => by
    obtain ⟨i, hi⟩ := List.mem_iff_getElem?.1 hu
    obtain ⟨_, _, _, h1, _⟩ := hr.2 i u hi
    exact h1))
  have hzn : ∀ x, x ∈ us → ∀ q, x.ownBlock = some q → (Value.slice ya o1.length yc).ownBlock ≠ some q := fun x hx q h1 h2 => by
    obtain ⟨i, hi⟩ := List.mem_iff_getElem?.1 hx
    obtain ⟨_, _, _, _, _, hf⟩ := hr.2 i x hi
    have h3 := (hf q h1).1; have h4 := (HY3.out.1.lt q h2).2; omega
  have HZN := Lib.hid hzn
  have HF3 := Lib.hid hF3
  have HZ34 := Lib.hid (show w2.heap.size ≤ w4.heap.size from Nat.le_trans HZ3.out hk.size)
  obtain ⟨fa3, rfl⟩ := he.2 rfl
  unfold eF
  clear hk hj hr hF3 hn1 hn2 he hzn
  obtain ⟨i1, hi1, hy0, hy1, hy2⟩ := info_parts Tryd.infoBB
  dsimp only
  go_wp2_with (at_builtin; refine wpList_append_mid (v := .slice ya o1.length yc) rfl _ _ 22 22 rfl i1 (.slice none 0 0) 24 Tryd.underlying22 hi1 hy0 hy1 hy2 rfl rfl HY4.out.1 _ rfl o2.length _ HSRC.out (by unfold maxLen; omega) (by omega) HZ34.out ?_; intro a5 c5 w5 hm5 hg5 hb5; have HM5 := Lib.hid hm5; have HG5 := Lib.hid hg5; clear hm5 hg5 hb5)
  have hb45 : Below w.heap.size w4 w5 := (Below.refl _ _).grown HG5.out (by have := HW4.out.size; omega) (fun q hq => by have := (HY3.out.1.lt q hq).1; have := HW2.out.size; omega)
  have hr5 := RowsR.append HY4.out HZ4.out HZN.out HM5.out HG5.out
  rw [← List.length_append] at hr5 ⊢
  clear HM5
  have hra : RowsR w5 (.slice oa (o1 ++ o2).length oc) (o1 ++ o2) := RowsR.ofV (HR4.out.stay (Keeps.of_grown HG5.out (S := fun q => (Value.slice ya o1.length yc).ownBlock = some q) (fun q h => h)) (fun q h1 h2 => by have := HRL.out q h1; have := (HY3.out.1.lt q h2).1; omega) (fun x hx q h1 h2 => by have := HRP.out x hx q h1; have := (HY3.out.1.lt q h2).1; omega))
  have ha5 := HA4.out.keeps (Keeps.of_grown HG5.out (S := fun q => (Value.slice ya o1.length yc).ownBlock = some q) (fun q h => h)) (fun q h1 h2 => by have := h1.2; have := (HY3.out.1.lt q h2).1; omega)
  have hb5 := HB4.out.keeps (Keeps.of_grown HG5.out (S := fun q => (Value.slice ya o1.length yc).ownBlock = some q) (fun q h => h)) (fun q h1 h2 => by rcases HF3.out q h1 with h | h; exact HYN.out q h2 h; have := (HY3.out.1.lt q h2).2; omega)
  have HW5 := Lib.hid (HW4.out.trans hb45)
  have HRA := Lib.hid hra
  have HRB := Lib.hid hr5
  have HA5 := Lib.hid ha5
  have HB5 := Lib.hid hb5
  have hol3 : (o1 ++ o2).length ≤ 4294967296 := by rw [List.length_append]; omega
  clear hb45 hr5 hra ha5 hb5
  generalize o1 ++ o2 = oo at *
  have HSAME := Lib.hid (fun m => same_true oa a5 oc c5 oo (w5.drewN m) (HRA.out.drewN m) (HRB.out.drewN m) hol3)
  have HDA := Lib.hid (fun m => dead_any _ _ _ _ _ (HA5.out.drewN m))
  have HDB := Lib.hid (fun m => dead_any _ _ _ _ _ (HB5.out.drewN m))
  have HLA := Lib.hid (fun m => left_any _ _ _ _ _ (HA5.out.drewN m))
  have HLB := Lib.hid (fun m => left_any _ _ _ _ _ (HB5.out.drewN m))
  go_wp2_with fail
  go_quiet (first
    | (go_at_call 12; with_reducible exact Calls.quiet_of (HSAME.out _))
    | (go_at_call 14; first | with_reducible exact Calls.quiet_of_same (HDA.out _) | exact Calls.quiet_of_same (HDB.out _))
    | (go_at_call 13; first | with_reducible exact Calls.quiet_of_same (HLA.out _) | exact Calls.quiet_of_same (HLB.out _)))
  go_wp2
  go_ret
  exact ⟨rfl, HW5.out.trans ⟨rfl, rfl, rfl, Nat.le_refl _, fun _ _ => rfl⟩⟩

set_option maxRecDepth 100000 in
set_option maxHeartbeats 1000000 in
theorem cuts_Yi (ad : Addr) (c : Nat) (k : Int) (xs ys zs : List Int) (os : List (List Int)) (w : World) (hg : Hg w) (hb : Bytes w (.slice (some ad) 0 c) xs) (hlo : Bytes w (.slice (some ad) 0 c) ys) (hhi : Bytes w (.slice (some ad) 0 c) zs) (hbx : Byt xs) (hby : Byt ys) (hbz : Byt zs)
    (hlx : xs.length ≤ 1048576) (hly : ys.length ≤ 1048576) (hlz : zs.length ≤ 1048576) (hol : os.length ≤ 1048576) (hx : split xs = (os, [], true)) (hx1 : split ys = (os, [], true)) (hcm : c ≤ 9223372036854775807) (k0 : 0 ≤ k) (k1 : k ≤ 65535) (hmod : (k : Int) % ((0 : Int) + 1) = 0) :
    Calls Tryd.prog 4 #[.slice (some ad) 0 c, .int .u16 k] w (Yes w) := by
  have HX := Lib.hid hx
  have HX1 := Lib.hid hx1
  have HBB := Lib.hid hb
  have HLO := Lib.hid hlo
  have HHI := Lib.hid hhi
  clear hx hx1 hb hlo hhi
  go_enter Tryd.func4, Tryd.ntmps4
  go_wp2_with fail
  refine (awake_any _ hg).mono ?_
  rintro e w1 ⟨rfl, hb1⟩
  have HW1 := Lib.hid hb1
  have HBB1 := Lib.hid (Sl.below HBB.out hb1)
  have hj0 := J.new w1 (fun q => q = w1.heap.size) rfl
  have hj1 : J ((w1.alloc (.cells #[.slice none 0 0, .bool false] 32)).alloc (.cells #[.slice none 0 0, .bool false] 32)) w1.heap.size (fun q => q = w1.heap.size) [] false := hj0.keeps (Keeps.alloc _ _ (fun _ => False)) (fun _ _ h => h)
  have hj2 := J.new (w1.alloc (.cells #[.slice none 0 0, .bool false] 32)) (fun q => q = w1.heap.size + 1) (by simp)
  rw [World.size_alloc] at hj2
  have HA := Lib.hid hj1
  have HB := Lib.hid hj2
  have HSZ1 := HW1.out.size
  clear hb1 hj0 hj1 hj2
  go_wp2_with fail
  refine (feed_live w1.heap.size _ [] xs _ _ HA.out (Sl.alloc (Sl.alloc HBB1.out _) _) hbx (by simp; omega)).mono ?_
  rintro e w2 hp
  unfold FeedPost at hp
  rw [List.nil_append, HX.out] at hp
  obtain ⟨oa, oc, ev, vs, F1, rfl, hr, hj, hF1, hn1, hn2, hk, he⟩ := hp
  have he := feed_err he
  have hz2 : w1.heap.size + 1 < w2.heap.size := by have := hk.size; simp at this; omega
  have hk1 : Keeps w1 w2 (fun q => False) := ((Keeps.alloc w1 _ _).trans (Keeps.alloc _ _ (fun _ => False)) (fun _ _ h => h)).trans hk (fun b hb h => by omega)
  have HA2 := Lib.hid (show J w2 w1.heap.size (fun q => F1 q ∧ q < w2.heap.size) _ _ from hj.mono (fun q h1 h2 => ⟨h2, h1⟩))
  have HFA := Lib.hid (show ∀ q, F1 q ∧ q < w2.heap.size → w1.heap.size ≤ q ∧ q ≠ w1.heap.size + 1 from fun q h => by rcases hF1 q h.1 with h | h; omega; simp at h; omega)
  have HB2 := Lib.hid (HB.out.keeps hk (fun q h1 h2 => by omega))
  have HR2 := Lib.hid hr
  have HRN := Lib.hid (show ∀ q, (Value.slice oa (os).length oc).ownBlock = some q → q ≠ w1.heap.size + 1 from fun q h => by have := (hr.1.lt q h).1; simp at this; omega)
  have HRM := Lib.hid (show ∀ x, x ∈ vs → ∀ q, x.ownBlock = some q → q ≠ w1.heap.size + 1 from fun x hx q h => by
    obtain ⟨i, hi⟩ := List.mem_iff_getElem?.1 hx
    obtain ⟨_, _, _, _, _, hf⟩ := hr.2 i x hi
    have := (hf q h).1; simp at this; omega)
  have HW2 := Lib.hid (HW1.out.trans ((hk1.below (Nat.le_refl _) (fun _ h => h.elim)).mono HW1.out.size))
  have HLO2 := Lib.hid (Sl.below HLO.out HW2.out)
  obtain ⟨fa1, rfl⟩ := he.2 rfl
  unfold eF
  clear hk hk1 hj hr hF1 hn1 hn2 he
  dsimp only
  go_wp2_with fail
  refine (feed_live (w1.heap.size + 1) _ [] ys _ _ HB2.out HLO2.out hby (by simp; omega)).mono ?_
  rintro e w3 hp
  unfold FeedPost at hp
  rw [List.nil_append, HX1.out] at hp
  obtain ⟨ya, yc, ev2, ws, F2, rfl, hr, hj, hF2, hn1, hn2, hk, he⟩ := hp
  have he := feed_err he
  have HB3 := Lib.hid hj
  have HFB := Lib.hid (show ∀ q, F2 q → q = w1.heap.size + 1 ∨ w2.heap.size ≤ q from hF2)
  have HA3 := Lib.hid (HA2.out.keeps hk (fun q h1 h2 => (HFA.out q h1).2 h2))
  have HR3 := Lib.hid (HR2.out.stay hk (fun q h1 h2 => HRN.out q h1 h2) (fun x hx q h1 h2 => HRM.out x hx q h1 h2))
  have HY3 := Lib.hid hr
  have HYN := Lib.hid hn1
  have HYM := Lib.hid hn2
  have HW3 := Lib.hid (HW2.out.trans (hk.below (B := w.heap.size) (by have := HW2.out.size; omega) (fun q h => by omega)))
  have HZ3 := Lib.hid hk.size
  obtain ⟨fa2, rfl⟩ := he.2 rfl
  unfold eF
  clear hk hj hr hF2 hn1 hn2 he
  dsimp only
  go_wp2_with fail
  refine (same_true oa ya oc yc os _ (RowsR.ofV HR3.out) (RowsR.ofV HY3.out) (by omega)).mono ?_
  rintro e w' ⟨rfl, m1, rfl⟩
  go_wp2_with fail
  refine (dead_any w1.heap.size _ [] true _ (HA3.out.drewN m1)).mono ?_
  rintro e w' ⟨rfl, rfl⟩
  go_wp2_with fail
  refine (dead_any (w1.heap.size + 1) F2 [] true _ (HB3.out.drewN m1)).mono ?_
  rintro e w' ⟨rfl, rfl⟩
  go_wp2
  go_ret
  exact ⟨rfl, HW3.out.trans ⟨rfl, rfl, rfl, Nat.le_refl _, fun _ _ => rfl⟩⟩

set_option maxRecDepth 100000 in
set_option maxHeartbeats 1000000 in
theorem cuts_Yii (ad : Addr) (c : Nat) (k : Int) (xs ys zs : List Int) (o1 o2 : List (List Int)) (r1 r2 : List Int) (w : World) (hg : Hg w) (hb : Bytes w (.slice (some ad) 0 c) xs) (hlo : Bytes w (.slice (some ad) 0 c) ys) (hhi : Bytes w (.slice (some ad) 0 c) zs) (hbx : Byt xs) (hby : Byt ys) (hbz : Byt zs)
    (hlx : xs.length ≤ 1048576) (hly : ys.length ≤ 1048576) (hlz : zs.length ≤ 1048576) (hol : o1.length ≤ 1048576 ∧ o2.length ≤ 1048576) (hx : split xs = (o1 ++ o2, r2, false)) (hx1 : split ys = (o1, r1, false)) (hx2 : split (r1 ++ zs) = (o2, r2, false)) (hl1 : r1.length ≤ ys.length) (hcm : c ≤ 9223372036854775807) (k0 : 0 ≤ k) (k1 : k ≤ 65535) (hmod : (k : Int) % ((0 : Int) + 1) = 0) :
    Calls Tryd.prog 4 #[.slice (some ad) 0 c, .int .u16 k] w (Yes w) := by
  have HX := Lib.hid hx
  have HX1 := Lib.hid hx1
  have HBB := Lib.hid hb
  have HLO := Lib.hid hlo
  have HHI := Lib.hid hhi
  clear hx hx1 hb hlo hhi
  have HX2 := Lib.hid hx2
  clear hx2
  go_enter Tryd.func4, Tryd.ntmps4
  go_wp2_with fail
  refine (awake_any _ hg).mono ?_
  rintro e w1 ⟨rfl, hb1⟩
  have HW1 := Lib.hid hb1
  have HBB1 := Lib.hid (Sl.below HBB.out hb1)
  have hj0 := J.new w1 (fun q => q = w1.heap.size) rfl
  have hj1 : J ((w1.alloc (.cells #[.slice none 0 0, .bool false] 32)).alloc (.cells #[.slice none 0 0, .bool false] 32)) w1.heap.size (fun q => q = w1.heap.size) [] false := hj0.keeps (Keeps.alloc _ _ (fun _ => False)) (fun _ _ h => h)
  have hj2 := J.new (w1.alloc (.cells #[.slice none 0 0, .bool false] 32)) (fun q => q = w1.heap.size + 1) (by simp)
  rw [World.size_alloc] at hj2
  have HA := Lib.hid hj1
  have HB := Lib.hid hj2
  have HSZ1 := HW1.out.size
  clear hb1 hj0 hj1 hj2
  go_wp2_with fail
  refine (feed_live w1.heap.size _ [] xs _ _ HA.out (Sl.alloc (Sl.alloc HBB1.out _) _) hbx (by simp; omega)).mono ?_
  rintro e w2 hp
  unfold FeedPost at hp
  rw [List.nil_append, HX.out] at hp
  obtain ⟨oa, oc, ev, vs, F1, rfl, hr, hj, hF1, hn1, hn2, hk, he⟩ := hp
  have he := feed_err he
  have hz2 : w1.heap.size + 1 < w2.heap.size := by have := hk.size; simp at this; omega
  have hk1 : Keeps w1 w2 (fun q => False) := ((Keeps.alloc w1 _ _).trans (Keeps.alloc _ _ (fun _ => False)) (fun _ _ h => h)).trans hk (fun b hb h => by omega)
  have HA2 := Lib.hid (show J w2 w1.heap.size (fun q => F1 q ∧ q < w2.heap.size) _ _ from hj.mono (fun q h1 h2 => ⟨h2, h1⟩))
  have HFA := Lib.hid (show ∀ q, F1 q ∧ q < w2.heap.size → w1.heap.size ≤ q ∧ q ≠ w1.heap.size + 1 from fun q h => by rcases hF1 q h.1 with h | h; omega; simp at h; omega)
  have HB2 := Lib.hid (HB.out.keeps hk (fun q h1 h2 => by omega))
  have HR2 := Lib.hid hr
  have HRN := Lib.hid (show ∀ q, (Value.slice oa (o1 ++ o2).length oc).ownBlock = some q → q ≠ w1.heap.size + 1 from fun q h => by have := (hr.1.lt q h).1; simp at this; omega)
  have HRM := Lib.hid (show ∀ x, x ∈ vs → ∀ q, x.ownBlock = some q → q ≠ w1.heap.size + 1 from fun x hx q h => by
    obtain ⟨i, hi⟩ := List.mem_iff_getElem?.1 hx
    obtain ⟨_, _, _, _, _, hf⟩ := hr.2 i x hi
    have := (hf q h).1; simp at this; omega)
  have HW2 := Lib.hid (HW1.out.trans ((hk1.below (Nat.le_refl _) (fun _ h => h.elim)).mono HW1.out.size))
  have HLO2 := Lib.hid (Sl.below HLO.out HW2.out)
  obtain rfl := he.1 rfl
  have HRL := Lib.hid (show ∀ q, (Value.slice oa (o1 ++ o2).length oc).ownBlock = some q → q < w2.heap.size from fun q h => (hr.1.lt q h).2)
  have HRP := Lib.hid (show ∀ x, x ∈ vs → ∀ q, x.ownBlock = some q → q < w2.heap.size from fun x hx q h => by
    obtain ⟨i, hi⟩ := List.mem_iff_getElem?.1 hx
    obtain ⟨_, _, _, _, hl, _⟩ := hr.2 i x hi
    exact hl q h)
  clear hk hk1 hj hr hF1 hn1 hn2 he
  dsimp only
  go_wp2_with fail
  refine (feed_live (w1.heap.size + 1) _ [] ys _ _ HB2.out HLO2.out hby (by simp; omega)).mono ?_
  rintro e w3 hp
  unfold FeedPost at hp
  rw [List.nil_append, HX1.out] at hp
  obtain ⟨ya, yc, ev2, ws, F2, rfl, hr, hj, hF2, hn1, hn2, hk, he⟩ := hp
  have he := feed_err he
  have HB3 := Lib.hid hj
  have HFB := Lib.hid (show ∀ q, F2 q → q = w1.heap.size + 1 ∨ w2.heap.size ≤ q from hF2)
  have HA3 := Lib.hid (HA2.out.keeps hk (fun q h1 h2 => (HFA.out q h1).2 h2))
  have HR3 := Lib.hid (HR2.out.stay hk (fun q h1 h2 => HRN.out q h1 h2) (fun x hx q h1 h2 => HRM.out x hx q h1 h2))
  have HY3 := Lib.hid hr
  have HYN := Lib.hid hn1
  have HYM := Lib.hid hn2
  have HW3 := Lib.hid (HW2.out.trans (hk.below (B := w.heap.size) (by have := HW2.out.size; omega) (fun q h => by omega)))
  have HZ3 := Lib.hid hk.size
  obtain rfl := he.1 rfl
  clear hk hj hr hF2 hn1 hn2 he
  dsimp only
  go_wp2_with fail
  refine (feed_live (w1.heap.size + 1) _ r1 zs _ _ HB3.out (Sl.below HHI.out HW3.out) hbz (by omega)).mono ?_
  rintro e w4 hp
  unfold FeedPost at hp
  rw [HX2.out] at hp
  obtain ⟨za, zc, ev3, us, F3, rfl, hr, hj, hF3, hn1, hn2, hk, he⟩ := hp
  have he := feed_err he
  have HB4 := Lib.hid hj
  have HA4 := Lib.hid (HA3.out.keeps hk (fun q h1 h2 => by rcases HFB.out q h2 with h | h; exact (HFA.out q h1).2 h; have := h1.2; omega))
  have HR4 := Lib.hid (HR3.out.stay hk (fun q h1 h2 => by rcases HFB.out q h2 with h | h; exact HRN.out q h1 h; have := HRL.out q h1; omega) (fun x hx q h1 h2 => by rcases HFB.out q h2 with h | h; exact HRM.out x hx q h1 h; have := HRP.out x hx q h1; omega))
  have HY4 := Lib.hid (HY3.out.stay hk HYN.out HYM.out)
  have HZ4 := Lib.hid hr
  have HW4 := Lib.hid (HW3.out.trans (hk.below (B := w.heap.size) (by have := HW3.out.size; omega) (fun q h => by rcases HFB.out q h with h | h; omega; have := HW2.out.size; omega)))
  have HSRC := Lib.hid ((Sl.ofMid hr.1).src (P := Tryd.prog) Tryd.underlying22 (fun u hu => by
    obtain ⟨i, hi⟩ := List.mem_iff_getElem?.1 hu
    obtain ⟨_, _, _, h1, _⟩ := hr.2 i u hi
    exact h1))
  have hzn : ∀ x, x ∈ us → ∀ q, x.ownBlock = some q → (Value.slice ya o1.length yc).ownBlock ≠ some q := fun x hx q h1 h2 => by
    obtain ⟨i, hi⟩ := List.mem_iff_getElem?.1 hx
    obtain ⟨_, _, _, _, _, hf⟩ := hr.2 i x hi
    have h3 := (hf q h1).1; have h4 := (HY3.out.1.lt q h2).2; omega
  have HZN := Lib.hid hzn
  have HF3 := Lib.hid hF3
  have HZ34 := Lib.hid (show w2.heap.size ≤ w4.heap.size from Nat.le_trans HZ3.out hk.size)
  obtain rfl := he.1 rfl
  clear hk hj hr hF3 hn1 hn2 he hzn
  obtain ⟨i1, hi1, hy0, hy1, hy2⟩ := info_parts Tryd.infoBB
  dsimp only
  go_wp2_with (at_builtin; refine wpList_append_mid (v := .slice ya o1.length yc) rfl _ _ 22 22 rfl i1 (.slice none 0 0) 24 Tryd.underlying22 hi1 hy0 hy1 hy2 rfl rfl HY4.out.1 _ rfl o2.length _ HSRC.out (by unfold maxLen; omega) (by omega) HZ34.out ?_; intro a5 c5 w5 hm5 hg5 hb5; have HM5 := Lib.hid hm5; have HG5 := Lib.hid hg5; clear hm5 hg5 hb5)
  have hb45 : Below w.heap.size w4 w5 := (Below.refl _ _).grown HG5.out (by have := HW4.out.size; omega) (fun q hq => by have := (HY3.out.1.lt q hq).1; have := HW2.out.size; omega)
  have hr5 := RowsR.append HY4.out HZ4.out HZN.out HM5.out HG5.out
  rw [← List.length_append] at hr5 ⊢
  clear HM5
  have hra : RowsR w5 (.slice oa (o1 ++ o2).length oc) (o1 ++ o2) := RowsR.ofV (HR4.out.stay (Keeps.of_grown HG5.out (S := fun q => (Value.slice ya o1.length yc).ownBlock = some q) (fun q h => h)) (fun q h1 h2 => by have := HRL.out q h1; have := (HY3.out.1.lt q h2).1; omega) (fun x hx q h1 h2 => by have := HRP.out x hx q h1; have := (HY3.out.1.lt q h2).1; omega))
  have ha5 := HA4.out.keeps (Keeps.of_grown HG5.out (S := fun q => (Value.slice ya o1.length yc).ownBlock = some q) (fun q h => h)) (fun q h1 h2 => by have := h1.2; have := (HY3.out.1.lt q h2).1; omega)
  have hb5 := HB4.out.keeps (Keeps.of_grown HG5.out (S := fun q => (Value.slice ya o1.length yc).ownBlock = some q) (fun q h => h)) (fun q h1 h2 => by rcases HF3.out q h1 with h | h; exact HYN.out q h2 h; have := (HY3.out.1.lt q h2).2; omega)
  have HW5 := Lib.hid (HW4.out.trans hb45)
  have HRA := Lib.hid hra
  have HRB := Lib.hid hr5
  have HA5 := Lib.hid ha5
  have HB5 := Lib.hid hb5
  have hol3 : (o1 ++ o2).length ≤ 4294967296 := by rw [List.length_append]; omega
  clear hb45 hr5 hra ha5 hb5
  generalize o1 ++ o2 = oo at *
  have HSAME := Lib.hid (fun m => same_true oa a5 oc c5 oo (w5.drewN m) (HRA.out.drewN m) (HRB.out.drewN m) hol3)
  have HDA := Lib.hid (fun m => dead_any _ _ _ _ _ (HA5.out.drewN m))
  have HDB := Lib.hid (fun m => dead_any _ _ _ _ _ (HB5.out.drewN m))
  have HLA := Lib.hid (fun m => left_any _ _ _ _ _ (HA5.out.drewN m))
  have HLB := Lib.hid (fun m => left_any _ _ _ _ _ (HB5.out.drewN m))
  go_wp2_with fail
  go_quiet (first
    | (go_at_call 12; with_reducible exact Calls.quiet_of (HSAME.out _))
    | (go_at_call 14; first | with_reducible exact Calls.quiet_of_same (HDA.out _) | exact Calls.quiet_of_same (HDB.out _))
    | (go_at_call 13; first | with_reducible exact Calls.quiet_of_same (HLA.out _) | exact Calls.quiet_of_same (HLB.out _)))
  go_wp2
  go_ret
  exact ⟨rfl, HW5.out.trans ⟨rfl, rfl, rfl, Nat.le_refl _, fun _ _ => rfl⟩⟩

set_option maxRecDepth 100000 in
set_option maxHeartbeats 1000000 in
theorem cuts_Yiii (ad : Addr) (c : Nat) (k : Int) (xs ys zs : List Int) (o1 o2 : List (List Int)) (r1 r2 : List Int) (w : World) (hg : Hg w) (hb : Bytes w (.slice (some ad) 0 c) xs) (hlo : Bytes w (.slice (some ad) 0 c) ys) (hhi : Bytes w (.slice (some ad) 0 c) zs) (hbx : Byt xs) (hby : Byt ys) (hbz : Byt zs)
    (hlx : xs.length ≤ 1048576) (hly : ys.length ≤ 1048576) (hlz : zs.length ≤ 1048576) (hol : o1.length ≤ 1048576 ∧ o2.length ≤ 1048576) (hx : split xs = (o1 ++ o2, r2, true)) (hx1 : split ys = (o1, r1, false)) (hx2 : split (r1 ++ zs) = (o2, r2, true)) (hl1 : r1.length ≤ ys.length) (hcm : c ≤ 9223372036854775807) (k0 : 0 ≤ k) (k1 : k ≤ 65535) (hmod : (k : Int) % ((0 : Int) + 1) = 0) :
    Calls Tryd.prog 4 #[.slice (some ad) 0 c, .int .u16 k] w (Yes w) := by
  have HX := Lib.hid hx
  have HX1 := Lib.hid hx1
  have HBB := Lib.hid hb
  have HLO := Lib.hid hlo
  have HHI := Lib.hid hhi
  clear hx hx1 hb hlo hhi
  have HX2 := Lib.hid hx2
  clear hx2
  go_enter Tryd.func4, Tryd.ntmps4
  go_wp2_with fail
  refine (awake_any _ hg).mono ?_
  rintro e w1 ⟨rfl, hb1⟩
  have HW1 := Lib.hid hb1
  have HBB1 := Lib.hid (Sl.below HBB.out hb1)
  have hj0 := J.new w1 (fun q => q = w1.heap.size) rfl
  have hj1 : J ((w1.alloc (.cells #[.slice none 0 0, .bool false] 32)).alloc (.cells #[.slice none 0 0, .bool false] 32)) w1.heap.size (fun q => q = w1.heap.size) [] false := hj0.keeps (Keeps.alloc _ _ (fun _ => False)) (fun _ _ h => h)
  have hj2 := J.new (w1.alloc (.cells #[.slice none 0 0, .bool false] 32)) (fun q => q = w1.heap.size + 1) (by simp)
  rw [World.size_alloc] at hj2
  have HA := Lib.hid hj1
  have HB := Lib.hid hj2
  have HSZ1 := HW1.out.size
  clear hb1 hj0 hj1 hj2
  go_wp2_with fail
  refine (feed_live w1.heap.size _ [] xs _ _ HA.out (Sl.alloc (Sl.alloc HBB1.out _) _) hbx (by simp; omega)).mono ?_
  rintro e w2 hp
  unfold FeedPost at hp
  rw [List.nil_append, HX.out] at hp
  obtain ⟨oa, oc, ev, vs, F1, rfl, hr, hj, hF1, hn1, hn2, hk, he⟩ := hp
  have he := feed_err he
  have hz2 : w1.heap.size + 1 < w2.heap.size := by have := hk.size; simp at this; omega
  have hk1 : Keeps w1 w2 (fun q => False) := ((Keeps.alloc w1 _ _).trans (Keeps.alloc _ _ (fun _ => False)) (fun _ _ h => h)).trans hk (fun b hb h => by omega)
  have HA2 := Lib.hid (show J w2 w1.heap.size (fun q => F1 q ∧ q < w2.heap.size) _ _ from hj.mono (fun q h1 h2 => ⟨h2, h1⟩))
  have HFA := Lib.hid (show ∀ q, F1 q ∧ q < w2.heap.size → w1.heap.size ≤ q ∧ q ≠ w1.heap.size + 1 from fun q h => by rcases hF1 q h.1 with h | h; omega; simp at h; omega)
  have HB2 := Lib.hid (HB.out.keeps hk (fun q h1 h2 => by omega))
  have HR2 := Lib.hid hr
  have HRN := Lib.hid (show ∀ q, (Value.slice oa (o1 ++ o2).length oc).ownBlock = some q → q ≠ w1.heap.size + 1 from fun q h => by have := (hr.1.lt q h).1; simp at this; omega)
  have HRM := Lib.hid (show ∀ x, x ∈ vs → ∀ q, x.ownBlock = some q → q ≠ w1.heap.size + 1 from fun x hx q h => by
    obtain ⟨i, hi⟩ := List.mem_iff_getElem?.1 hx
    obtain ⟨_, _, _, _, _, hf⟩ := hr.2 i x hi
    have := (hf q h).1; simp at this; omega)
  have HW2 := Lib.hid (HW1.out.trans ((hk1.below (Nat.le_refl _) (fun _ h => h.elim)).mono HW1.out.size))
  have HLO2 := Lib.hid (Sl.below HLO.out HW2.out)
  obtain ⟨fa1, rfl⟩ := he.2 rfl
  unfold eF
  have HRL := Lib.hid (show ∀ q, (Value.slice oa (o1 ++ o2).length oc).ownBlock = some q → q < w2.heap.size from fun q h => (hr.1.lt q h).2)
  have HRP := Lib.hid (show ∀ x, x ∈ vs → ∀ q, x.ownBlock = some q → q < w2.heap.size from fun x hx q h => by
    obtain ⟨i, hi⟩ := List.mem_iff_getElem?.1 hx
    obtain ⟨_, _, _, _, hl, _⟩ := hr.2 i x hi
    exact hl q h)
  clear hk hk1 hj hr hF1 hn1 hn2 he
  dsimp only
  go_wp2_with fail
  refine (feed_live (w1.heap.size + 1) _ [] ys _ _ HB2.out HLO2.out hby (by simp; omega)).mono ?_
  rintro e w3 hp
  unfold FeedPost at hp
  rw [List.nil_append, HX1.out] at hp
  obtain ⟨ya, yc, ev2, ws, F2, rfl, hr, hj, hF2, hn1, hn2, hk, he⟩ := hp
  have he := feed_err he
  have HB3 := Lib.hid hj
  have HFB := Lib.hid (show ∀ q, F2 q → q = w1.heap.size + 1 ∨ w2.heap.size ≤ q from hF2)
  have HA3 := Lib.hid (HA2.out.keeps hk (fun q h1 h2 => (HFA.out q h1).2 h2))
  have HR3 := Lib.hid (HR2.out.stay hk (fun q h1 h2 => HRN.out q h1 h2) (fun x hx q h1 h2 => HRM.out x hx q h1 h2))
  have HY3 := Lib.hid hr
  have HYN := Lib.hid hn1
  have HYM := Lib.hid hn2
  have HW3 := Lib.hid (HW2.out.trans (hk.below (B := w.heap.size) (by have := HW2.out.size; omega) (fun q h => by omega)))
  have HZ3 := Lib.hid hk.size
  obtain rfl := he.1 rfl
  clear hk hj hr hF2 hn1 hn2 he
  dsimp only
  go_wp2_with fail
  refine (feed_live (w1.heap.size + 1) _ r1 zs _ _ HB3.out (Sl.below HHI.out HW3.out) hbz (by omega)).mono ?_
  rintro e w4 hp
  unfold FeedPost at hp
  rw [HX2.out] at hp
  obtain ⟨za, zc, ev3, us, F3, rfl, hr, hj, hF3, hn1, hn2, hk, he⟩ := hp
  have he := feed_err he
  have HB4 := Lib.hid hj
  have HA4 := Lib.hid (HA3.out.keeps hk (fun q h1 h2 => by rcases HFB.out q h2 with h | h; exact (HFA.out q h1).2 h; have := h1.2; omega))
  have HR4 := Lib.hid (HR3.out.stay hk (fun q h1 h2 => by rcases HFB.out q h2 with h | h; exact HRN.out q h1 h; have := HRL.out q h1; omega) (fun x hx q h1 h2 => by rcases HFB.out q h2 with h | h; exact HRM.out x hx q h1 h; have := HRP.out x hx q h1; omega))
  have HY4 := Lib.hid (HY3.out.stay hk HYN.out HYM.out)
  have HZ4 := Lib.hid hr
  have HW4 := Lib.hid (HW3.out.trans (hk.below (B := w.heap.size) (by have := HW3.out.size; omega) (fun q h => by rcases HFB.out q h with h | h; omega; have := HW2.out.size; omega)))
  have HSRC := Lib.hid ((Sl.ofMid hr.1).src (P := Tryd.prog) Tryd.underlying22 (fun u hu => by
    obtain ⟨i, hi⟩ := List.mem_iff_getElem?.1 hu
    obtain ⟨_, _, _, h1, _⟩ := hr.2 i u hi
    exact h1))
  have hzn : ∀ x, x ∈ us → ∀ q, x.ownBlock = some q → (Value.slice ya o1.length yc).ownBlock ≠ some q := fun x hx q h1 h2 => by
    obtain ⟨i, hi⟩ := List.mem_iff_getElem?.1 hx
    obtain ⟨_, _, _, _, _, hf⟩ := hr.2 i x hi
    have h3 := (hf q h1).1; have h4 := (HY3.out.1.lt q h2).2; omega
  have HZN := Lib.hid hzn
  have HF3 := Lib.hid hF3
  have HZ34 := Lib.hid (show w2.heap.size ≤ w4.heap.size from Nat.le_trans HZ3.out hk.size)
  obtain ⟨fa3, rfl⟩ := he.2 rfl
  unfold eF
  clear hk hj hr hF3 hn1 hn2 he hzn
  obtain ⟨i1, hi1, hy0, hy1, hy2⟩ := info_parts Tryd.infoBB
  dsimp only
  go_wp2_with (at_builtin; refine wpList_append_mid (v := .slice ya o1.length yc) rfl _ _ 22 22 rfl i1 (.slice none 0 0) 24 Tryd.underlying22 hi1 hy0 hy1 hy2 rfl rfl HY4.out.1 _ rfl o2.length _ HSRC.out (by unfold maxLen; omega) (by omega) HZ34.out ?_; intro a5 c5 w5 hm5 hg5 hb5; have HM5 := Lib.hid hm5; have HG5 := Lib.hid hg5; clear hm5 hg5 hb5)
  have hb45 : Below w.heap.size w4 w5 := (Below.refl _ _).grown HG5.out (by have := HW4.out.size; omega) (fun q hq => by have := (HY3.out.1.lt q hq).1; have := HW2.out.size; omega)
  have hr5 := RowsR.append HY4.out HZ4.out HZN.out HM5.out HG5.out
  rw [← List.length_append] at hr5 ⊢
  clear HM5
  have hra : RowsR w5 (.slice oa (o1 ++ o2).length oc) (o1 ++ o2) := RowsR.ofV (HR4.out.stay (Keeps.of_grown HG5.out (S := fun q => (Value.slice ya o1.length yc).ownBlock = some q) (fun q h => h)) (fun q h1 h2 => by have := HRL.out q h1; have := (HY3.out.1.lt q h2).1; omega) (fun x hx q h1 h2 => by have := HRP.out x hx q h1; have := (HY3.out.1.lt q h2).1; omega))
  have ha5 := HA4.out.keeps (Keeps.of_grown HG5.out (S := fun q => (Value.slice ya o1.length yc).ownBlock = some q) (fun q h => h)) (fun q h1 h2 => by have := h1.2; have := (HY3.out.1.lt q h2).1; omega)
  have hb5 := HB4.out.keeps (Keeps.of_grown HG5.out (S := fun q => (Value.slice ya o1.length yc).ownBlock = some q) (fun q h => h)) (fun q h1 h2 => by rcases HF3.out q h1 with h | h; exact HYN.out q h2 h; have := (HY3.out.1.lt q h2).2; omega)
  have HW5 := Lib.hid (HW4.out.trans hb45)
  have HRA := Lib.hid hra
  have HRB := Lib.hid hr5
  have HA5 := Lib.hid ha5
  have HB5 := Lib.hid hb5
  have hol3 : (o1 ++ o2).length ≤ 4294967296 := by rw [List.length_append]; omega
  clear hb45 hr5 hra ha5 hb5
  generalize o1 ++ o2 = oo at *
  have HSAME := Lib.hid (fun m => same_true oa a5 oc c5 oo (w5.drewN m) (HRA.out.drewN m) (HRB.out.drewN m) hol3)
  have HDA := Lib.hid (fun m => dead_any _ _ _ _ _ (HA5.out.drewN m))
  have HDB := Lib.hid (fun m => dead_any _ _ _ _ _ (HB5.out.drewN m))
  have HLA := Lib.hid (fun m => left_any _ _ _ _ _ (HA5.out.drewN m))
  have HLB := Lib.hid (fun m => left_any _ _ _ _ _ (HB5.out.drewN m))
  go_wp2_with fail
  go_quiet (first
    | (go_at_call 12; with_reducible exact Calls.quiet_of (HSAME.out _))
    | (go_at_call 14; first | with_reducible exact Calls.quiet_of_same (HDA.out _) | exact Calls.quiet_of_same (HDB.out _))
    | (go_at_call 13; first | with_reducible exact Calls.quiet_of_same (HLA.out _) | exact Calls.quiet_of_same (HLB.out _)))
  go_wp2
  go_ret
  exact ⟨rfl, HW5.out.trans ⟨rfl, rfl, rfl, Nat.le_refl _, fun _ _ => rfl⟩⟩

set_option maxRecDepth 100000 in
set_option maxHeartbeats 1000000 in
theorem cuts_Zi  (k : Int) (xs ys zs : List Int) (os : List (List Int)) (w : World) (hg : Hg w) (hb : Bytes w (.slice none 0 0) xs) (hlo : Bytes w (.slice none 0 0) ys) (hhi : Bytes w (.slice none 0 0) zs) (hbx : Byt xs) (hby : Byt ys) (hbz : Byt zs)
    (hlx : xs.length ≤ 1048576) (hly : ys.length ≤ 1048576) (hlz : zs.length ≤ 1048576) (hol : os.length ≤ 1048576) (hx : split xs = (os, [], true)) (hx1 : split ys = (os, [], true))  (k0 : 0 ≤ k) (k1 : k ≤ 65535) (hmod : (k : Int) % ((0 : Int) + 1) = 0) :
    Calls Tryd.prog 4 #[.slice none 0 0, .int .u16 k] w (Yes w) := by
  have HX := Lib.hid hx
  have HX1 := Lib.hid hx1
  have HBB := Lib.hid hb
  have HLO := Lib.hid hlo
  have HHI := Lib.hid hhi
  clear hx hx1 hb hlo hhi
  go_enter Tryd.func4, Tryd.ntmps4
  go_wp2_with fail
  refine (awake_any _ hg).mono ?_
  rintro e w1 ⟨rfl, hb1⟩
  have HW1 := Lib.hid hb1
  have HBB1 := Lib.hid (Sl.below HBB.out hb1)
  have hj0 := J.new w1 (fun q => q = w1.heap.size) rfl
  have hj1 : J ((w1.alloc (.cells #[.slice none 0 0, .bool false] 32)).alloc (.cells #[.slice none 0 0, .bool false] 32)) w1.heap.size (fun q => q = w1.heap.size) [] false := hj0.keeps (Keeps.alloc _ _ (fun _ => False)) (fun _ _ h => h)
  have hj2 := J.new (w1.alloc (.cells #[.slice none 0 0, .bool false] 32)) (fun q => q = w1.heap.size + 1) (by simp)
  rw [World.size_alloc] at hj2
  have HA := Lib.hid hj1
  have HB := Lib.hid hj2
  have HSZ1 := HW1.out.size
  clear hb1 hj0 hj1 hj2
  go_wp2_with fail
  refine (feed_live w1.heap.size _ [] xs _ _ HA.out (Sl.alloc (Sl.alloc HBB1.out _) _) hbx (by simp; omega)).mono ?_
  rintro e w2 hp
  unfold FeedPost at hp
  rw [List.nil_append, HX.out] at hp
  obtain ⟨oa, oc, ev, vs, F1, rfl, hr, hj, hF1, hn1, hn2, hk, he⟩ := hp
  have he := feed_err he
  have hz2 : w1.heap.size + 1 < w2.heap.size := by have := hk.size; simp at this; omega
  have hk1 : Keeps w1 w2 (fun q => False) := ((Keeps.alloc w1 _ _).trans (Keeps.alloc _ _ (fun _ => False)) (fun _ _ h => h)).trans hk (fun b hb h => by omega)
  have HA2 := Lib.hid (show J w2 w1.heap.size (fun q => F1 q ∧ q < w2.heap.size) _ _ from hj.mono (fun q h1 h2 => ⟨h2, h1⟩))
  have HFA := Lib.hid (show ∀ q, F1 q ∧ q < w2.heap.size → w1.heap.size ≤ q ∧ q ≠ w1.heap.size + 1 from fun q h => by rcases hF1 q h.1 with h | h; omega; simp at h; omega)
  have HB2 := Lib.hid (HB.out.keeps hk (fun q h1 h2 => by omega))
  have HR2 := Lib.hid hr
  have HRN := Lib.hid (show ∀ q, (Value.slice oa (os).length oc).ownBlock = some q → q ≠ w1.heap.size + 1 from fun q h => by have := (hr.1.lt q h).1; simp at this; omega)
  have HRM := Lib.hid (show ∀ x, x ∈ vs → ∀ q, x.ownBlock = some q → q ≠ w1.heap.size + 1 from fun x hx q h => by
    obtain ⟨i, hi⟩ := List.mem_iff_getElem?.1 hx
    obtain ⟨_, _, _, _, _, hf⟩ := hr.2 i x hi
    have := (hf q h).1; simp at this; omega)
  have HW2 := Lib.hid (HW1.out.trans ((hk1.below (Nat.le_refl _) (fun _ h => h.elim)).mono HW1.out.size))
  have HLO2 := Lib.hid (Sl.below HLO.out HW2.out)
  obtain ⟨fa1, rfl⟩ := he.2 rfl
  unfold eF
  clear hk hk1 hj hr hF1 hn1 hn2 he
  dsimp only
  go_wp2_with fail
  refine (feed_live (w1.heap.size + 1) _ [] ys _ _ HB2.out HLO2.out hby (by simp; omega)).mono ?_
  rintro e w3 hp
  unfold FeedPost at hp
  rw [List.nil_append, HX1.out] at hp
  obtain ⟨ya, yc, ev2, ws, F2, rfl, hr, hj, hF2, hn1, hn2, hk, he⟩ := hp
  have he := feed_err he
  have HB3 := Lib.hid hj
  have HFB := Lib.hid (show ∀ q, F2 q → q = w1.heap.size + 1 ∨ w2.heap.size ≤ q from hF2)
  have HA3 := Lib.hid (HA2.out.keeps hk (fun q h1 h2 => (HFA.out q h1).2 h2))
  have HR3 := Lib.hid (HR2.out.stay hk (fun q h1 h2 => HRN.out q h1 h2) (fun x hx q h1 h2 => HRM.out x hx q h1 h2))
  have HY3 := Lib.hid hr
  have HYN := Lib.hid hn1
  have HYM := Lib.hid hn2
  have HW3 := Lib.hid (HW2.out.trans (hk.below (B := w.heap.size) (by have := HW2.out.size; omega) (fun q h => by omega)))
  have HZ3 := Lib.hid hk.size
  obtain ⟨fa2, rfl⟩ := he.2 rfl
  unfold eF
  clear hk hj hr hF2 hn1 hn2 he
  dsimp only
  go_wp2_with fail
  refine (same_true oa ya oc yc os _ (RowsR.ofV HR3.out) (RowsR.ofV HY3.out) (by omega)).mono ?_
  rintro e w' ⟨rfl, m1, rfl⟩
  go_wp2_with fail
  refine (dead_any w1.heap.size _ [] true _ (HA3.out.drewN m1)).mono ?_
  rintro e w' ⟨rfl, rfl⟩
  go_wp2_with fail
  refine (dead_any (w1.heap.size + 1) F2 [] true _ (HB3.out.drewN m1)).mono ?_
  rintro e w' ⟨rfl, rfl⟩
  go_wp2
  go_ret
  exact ⟨rfl, HW3.out.trans ⟨rfl, rfl, rfl, Nat.le_refl _, fun _ _ => rfl⟩⟩

set_option maxRecDepth 100000 in
set_option maxHeartbeats 1000000 in
theorem cuts_Zii  (k : Int) (xs ys zs : List Int) (o1 o2 : List (List Int)) (r1 r2 : List Int) (w : World) (hg : Hg w) (hb : Bytes w (.slice none 0 0) xs) (hlo : Bytes w (.slice none 0 0) ys) (hhi : Bytes w (.slice none 0 0) zs) (hbx : Byt xs) (hby : Byt ys) (hbz : Byt zs)
    (hlx : xs.length ≤ 1048576) (hly : ys.length ≤ 1048576) (hlz : zs.length ≤ 1048576) (hol : o1.length ≤ 1048576 ∧ o2.length ≤ 1048576) (hx : split xs = (o1 ++ o2, r2, false)) (hx1 : split ys = (o1, r1, false)) (hx2 : split (r1 ++ zs) = (o2, r2, false)) (hl1 : r1.length ≤ ys.length)  (k0 : 0 ≤ k) (k1 : k ≤ 65535) (hmod : (k : Int) % ((0 : Int) + 1) = 0) :
    Calls Tryd.prog 4 #[.slice none 0 0, .int .u16 k] w (Yes w) := by
  have HX := Lib.hid hx
  have HX1 := Lib.hid hx1
  have HBB := Lib.hid hb
  have HLO := Lib.hid hlo
  have HHI := Lib.hid hhi
  clear hx hx1 hb hlo hhi
  have HX2 := Lib.hid hx2
  clear hx2
  go_enter Tryd.func4, Tryd.ntmps4
  go_wp2_with fail
  refine (awake_any _ hg).mono ?_
  rintro e w1 ⟨rfl, hb1⟩
  have HW1 := Lib.hid hb1
  have HBB1 := Lib.hid (Sl.below HBB.out hb1)
  have hj0 := J.new w1 (fun q => q = w1.heap.size) rfl
  have hj1 : J ((w1.alloc (.cells #[.slice none 0 0, .bool false] 32)).alloc (.cells #[.slice none 0 0, .bool false] 32)) w1.heap.size (fun q => q = w1.heap.size) [] false := hj0.keeps (Keeps.alloc _ _ (fun _ => False)) (fun _ _ h => h)
  have hj2 := J.new (w1.alloc (.cells #[.slice none 0 0, .bool false] 32)) (fun q => q = w1.heap.size + 1) (by simp)
  rw [World.size_alloc] at hj2
  have HA := Lib.hid hj1
  have HB := Lib.hid hj2
  have HSZ1 := HW1.out.size
  clear hb1 hj0 hj1 hj2
  go_wp2_with fail
  refine (feed_live w1.heap.size _ [] xs _ _ HA.out (Sl.alloc (Sl.alloc HBB1.out _) _) hbx (by simp; omega)).mono ?_
  rintro e w2 hp
  unfold FeedPost at hp
  rw [List.nil_append, HX.out] at hp
  obtain ⟨oa, oc, ev, vs, F1, rfl, hr, hj, hF1, hn1, hn2, hk, he⟩ := hp
  have he := feed_err he
  have hz2 : w1.heap.size + 1 < w2.heap.size := by have := hk.size; simp at this; omega
  have hk1 : Keeps w1 w2 (fun q => False) := ((Keeps.alloc w1 _ _).trans (Keeps.alloc _ _ (fun _ => False)) (fun _ _ h => h)).trans hk (fun b hb h => by omega)
  have HA2 := Lib.hid (show J w2 w1.heap.size (fun q => F1 q ∧ q < w2.heap.size) _ _ from hj.mono (fun q h1 h2 => ⟨h2, h1⟩))
  have HFA := Lib.hid (show ∀ q, F1 q ∧ q < w2.heap.size → w1.heap.size ≤ q ∧ q ≠ w1.heap.size + 1 from fun q h => by rcases hF1 q h.1 with h | h; omega; simp at h; omega)
  have HB2 := Lib.hid (HB.out.keeps hk (fun q h1 h2 => by omega))
  have HR2 := Lib.hid hr
  have HRN := Lib.hid (show ∀ q, (Value.slice oa (o1 ++ o2).length oc).ownBlock = some q → q ≠ w1.heap.size + 1 from fun q h => by have := (hr.1.lt q h).1; simp at this; omega)
  have HRM := Lib.hid (show ∀ x, x ∈ vs → ∀ q, x.ownBlock = some q → q ≠ w1.heap.size + 1 from fun x hx q h => by
    obtain ⟨i, hi⟩ := List.mem_iff_getElem?.1 hx
    obtain ⟨_, _, _, _, _, hf⟩ := hr.2 i x hi
    have := (hf q h).1; simp at this; omega)
  have HW2 := Lib.hid (HW1.out.trans ((hk1.below (Nat.le_refl _) (fun _ h => h.elim)).mono HW1.out.size))
  have HLO2 := Lib.hid (Sl.below HLO.out HW2.out)
  obtain rfl := he.1 rfl
  have HRL := Lib.hid (show ∀ q, (Value.slice oa (o1 ++ o2).length oc).ownBlock = some q → q < w2.heap.size from fun q h => (hr.1.lt q h).2)
  have HRP := Lib.hid (show ∀ x, x ∈ vs → ∀ q, x.ownBlock = some q → q < w2.heap.size from fun x hx q h => by
    obtain ⟨i, hi⟩ := List.mem_iff_getElem?.1 hx
    obtain ⟨_, _, _, _, hl, _⟩ := hr.2 i x hi
    exact hl q h)
  clear hk hk1 hj hr hF1 hn1 hn2 he
  dsimp only
  go_wp2_with fail
  refine (feed_live (w1.heap.size + 1) _ [] ys _ _ HB2.out HLO2.out hby (by simp; omega)).mono ?_
  rintro e w3 hp
  unfold FeedPost at hp
  rw [List.nil_append, HX1.out] at hp
  obtain ⟨ya, yc, ev2, ws, F2, rfl, hr, hj, hF2, hn1, hn2, hk, he⟩ := hp
  have he := feed_err he
  have HB3 := Lib.hid hj
  have HFB := Lib.hid (show ∀ q, F2 q → q = w1.heap.size + 1 ∨ w2.heap.size ≤ q from hF2)
  have HA3 := Lib.hid (HA2.out.keeps hk (fun q h1 h2 => (HFA.out q h1).2 h2))
  have HR3 := Lib.hid (HR2.out.stay hk (fun q h1 h2 => HRN.out q h1 h2) (fun x hx q h1 h2 => HRM.out x hx q h1 h2))
  have HY3 := Lib.hid hr
  have HYN := Lib.hid hn1
  have HYM := Lib.hid hn2
  have HW3 := Lib.hid (HW2.out.trans (hk.below (B := w.heap.size) (by have := HW2.out.size; omega) (fun q h => by omega)))
  have HZ3 := Lib.hid hk.size
  obtain rfl := he.1 rfl
  clear hk hj hr hF2 hn1 hn2 he
  dsimp only
  go_wp2_with fail
  refine (feed_live (w1.heap.size + 1) _ r1 zs _ _ HB3.out (Sl.below HHI.out HW3.out) hbz (by omega)).mono ?_
  rintro e w4 hp
  unfold FeedPost at hp
  rw [HX2.out] at hp
  obtain ⟨za, zc, ev3, us, F3, rfl, hr, hj, hF3, hn1, hn2, hk, he⟩ := hp
  have he := feed_err he
  have HB4 := Lib.hid hj
  have HA4 := Lib.hid (HA3.out.keeps hk (fun q h1 h2 => by rcases HFB.out q h2 with h | h; exact (HFA.out q h1).2 h; have := h1.2; omega))
  have HR4 := Lib.hid (HR3.out.stay hk (fun q h1 h2 => by rcases HFB.out q h2 with h | h; exact HRN.out q h1 h; have := HRL.out q h1; omega) (fun x hx q h1 h2 => by rcases HFB.out q h2 with h | h; exact HRM.out x hx q h1 h; have := HRP.out x hx q h1; omega))
  have HY4 := Lib.hid (HY3.out.stay hk HYN.out HYM.out)
  have HZ4 := Lib.hid hr
  have HW4 := Lib.hid (HW3.out.trans (hk.below (B := w.heap.size) (by have := HW3.out.size; omega) (fun q h => by rcases HFB.out q h with h | h; omega; have := HW2.out.size; omega)))
  have HSRC := Lib.hid ((Sl.ofMid hr.1).src (P := Tryd.prog) Tryd.underlying22 (fun u hu => by
    obtain ⟨i, hi⟩ := List.mem_iff_getElem?.1 hu
    obtain ⟨_, _, _, h1, _⟩ := hr.2 i u hi
    exact h1))
  have hzn : ∀ x, x ∈ us → ∀ q, x.ownBlock = some q → (Value.slice ya o1.length yc).ownBlock ≠ some q := fun x hx q h1 h2 => by
    obtain ⟨i, hi⟩ := List.mem_iff_getElem?.1 hx
    obtain ⟨_, _, _, _, _, hf⟩ := hr.2 i x hi
    have h3 := (hf q h1).1; have h4 := (HY3.out.1.lt q h2).2; omega
  have HZN := Lib.hid hzn
  have HF3 := Lib.hid hF3
  have HZ34 := Lib.hid (show w2.heap.size ≤ w4.heap.size from Nat.le_trans HZ3.out hk.size)
  obtain rfl := he.1 rfl
  clear hk hj hr hF3 hn1 hn2 he hzn
  obtain ⟨i1, hi1, hy0, hy1, hy2⟩ := info_parts Tryd.infoBB
  dsimp only
  go_wp2_with (at_builtin; refine wpList_append_mid (v := .slice ya o1.length yc) rfl _ _ 22 22 rfl i1 (.slice none 0 0) 24 Tryd.underlying22 hi1 hy0 hy1 hy2 rfl rfl HY4.out.1 _ rfl o2.length _ HSRC.out (by unfold maxLen; omega) (by omega) HZ34.out ?_; intro a5 c5 w5 hm5 hg5 hb5; have HM5 := Lib.hid hm5; have HG5 := Lib.hid hg5; clear hm5 hg5 hb5)
  have hb45 : Below w.heap.size w4 w5 := (Below.refl _ _).grown HG5.out (by have := HW4.out.size; omega) (fun q hq => by have := (HY3.out.1.lt q hq).1; have := HW2.out.size; omega)
  have hr5 := RowsR.append HY4.out HZ4.out HZN.out HM5.out HG5.out
  rw [← List.length_append] at hr5 ⊢
  clear HM5
  have hra : RowsR w5 (.slice oa (o1 ++ o2).length oc) (o1 ++ o2) := RowsR.ofV (HR4.out.stay (Keeps.of_grown HG5.out (S := fun q => (Value.slice ya o1.length yc).ownBlock = some q) (fun q h => h)) (fun q h1 h2 => by have := HRL.out q h1; have := (HY3.out.1.lt q h2).1; omega) (fun x hx q h1 h2 => by have := HRP.out x hx q h1; have := (HY3.out.1.lt q h2).1; omega))
  have ha5 := HA4.out.keeps (Keeps.of_grown HG5.out (S := fun q => (Value.slice ya o1.length yc).ownBlock = some q) (fun q h => h)) (fun q h1 h2 => by have := h1.2; have := (HY3.out.1.lt q h2).1; omega)
  have hb5 := HB4.out.keeps (Keeps.of_grown HG5.out (S := fun q => (Value.slice ya o1.length yc).ownBlock = some q) (fun q h => h)) (fun q h1 h2 => by rcases HF3.out q h1 with h | h; exact HYN.out q h2 h; have := (HY3.out.1.lt q h2).2; omega)
  have HW5 := Lib.hid (HW4.out.trans hb45)
  have HRA := Lib.hid hra
  have HRB := Lib.hid hr5
  have HA5 := Lib.hid ha5
  have HB5 := Lib.hid hb5
  have hol3 : (o1 ++ o2).length ≤ 4294967296 := by rw [List.length_append]; omega
  clear hb45 hr5 hra ha5 hb5
  generalize o1 ++ o2 = oo at *
  have HSAME := Lib.hid (fun m => same_true oa a5 oc c5 oo (w5.drewN m) (HRA.out.drewN m) (HRB.out.drewN m) hol3)
  have HDA := Lib.hid (fun m => dead_any _ _ _ _ _ (HA5.out.drewN m))
  have HDB := Lib.hid (fun m => dead_any _ _ _ _ _ (HB5.out.drewN m))
  have HLA := Lib.hid (fun m => left_any _ _ _ _ _ (HA5.out.drewN m))
  have HLB := Lib.hid (fun m => left_any _ _ _ _ _ (HB5.out.drewN m))
  go_wp2_with fail
  go_quiet (first
    | (go_at_call 12; with_reducible exact Calls.quiet_of (HSAME.out _))
    | (go_at_call 14; first | with_reducible exact Calls.quiet_of_same (HDA.out _) | exact Calls.quiet_of_same (HDB.out _))
    | (go_at_call 13; first | with_reducible exact Calls.quiet_of_same (HLA.out _) | exact Calls.quiet_of_same (HLB.out _)))
  go_wp2
  go_ret
  exact ⟨rfl, HW5.out.trans ⟨rfl, rfl, rfl, Nat.le_refl _, fun _ _ => rfl⟩⟩

set_option maxRecDepth 100000 in
set_option maxHeartbeats 1000000 in
theorem cuts_Ziii  (k : Int) (xs ys zs : List Int) (o1 o2 : List (List Int)) (r1 r2 : List Int) (w : World) (hg : Hg w) (hb : Bytes w (.slice none 0 0) xs) (hlo : Bytes w (.slice none 0 0) ys) (hhi : Bytes w (.slice none 0 0) zs) (hbx : Byt xs) (hby : Byt ys) (hbz : Byt zs)
    (hlx : xs.length ≤ 1048576) (hly : ys.length ≤ 1048576) (hlz : zs.length ≤ 1048576) (hol : o1.length ≤ 1048576 ∧ o2.length ≤ 1048576) (hx : split xs = (o1 ++ o2, r2, true)) (hx1 : split ys = (o1, r1, false)) (hx2 : split (r1 ++ zs) = (o2, r2, true)) (hl1 : r1.length ≤ ys.length)  (k0 : 0 ≤ k) (k1 : k ≤ 65535) (hmod : (k : Int) % ((0 : Int) + 1) = 0) :
    Calls Tryd.prog 4 #[.slice none 0 0, .int .u16 k] w (Yes w) := by
  have HX := Lib.hid hx
  have HX1 := Lib.hid hx1
  have HBB := Lib.hid hb
  have HLO := Lib.hid hlo
  have HHI := Lib.hid hhi
  clear hx hx1 hb hlo hhi
  have HX2 := Lib.hid hx2
  clear hx2
  go_enter Tryd.func4, Tryd.ntmps4
  go_wp2_with fail
  refine (awake_any _ hg).mono ?_
  rintro e w1 ⟨rfl, hb1⟩
  have HW1 := Lib.hid hb1
  have HBB1 := Lib.hid (Sl.below HBB.out hb1)
  have hj0 := J.new w1 (fun q => q = w1.heap.size) rfl
  have hj1 : J ((w1.alloc (.cells #[.slice none 0 0, .bool false] 32)).alloc (.cells #[.slice none 0 0, .bool false] 32)) w1.heap.size (fun q => q = w1.heap.size) [] false := hj0.keeps (Keeps.alloc _ _ (fun _ => False)) (fun _ _ h => h)
  have hj2 := J.new (w1.alloc (.cells #[.slice none 0 0, .bool false] 32)) (fun q => q = w1.heap.size + 1) (by simp)
  rw [World.size_alloc] at hj2
  have HA := Lib.hid hj1
  have HB := Lib.hid hj2
  have HSZ1 := HW1.out.size
  clear hb1 hj0 hj1 hj2
  go_wp2_with fail
  refine (feed_live w1.heap.size _ [] xs _ _ HA.out (Sl.alloc (Sl.alloc HBB1.out _) _) hbx (by simp; omega)).mono ?_
  rintro e w2 hp
  unfold FeedPost at hp
  rw [List.nil_append, HX.out] at hp
  obtain ⟨oa, oc, ev, vs, F1, rfl, hr, hj, hF1, hn1, hn2, hk, he⟩ := hp
  have he := feed_err he
  have hz2 : w1.heap.size + 1 < w2.heap.size := by have := hk.size; simp at this; omega
  have hk1 : Keeps w1 w2 (fun q => False) := ((Keeps.alloc w1 _ _).trans (Keeps.alloc _ _ (fun _ => False)) (fun _ _ h => h)).trans hk (fun b hb h => by omega)
  have HA2 := Lib.hid (show J w2 w1.heap.size (fun q => F1 q ∧ q < w2.heap.size) _ _ from hj.mono (fun q h1 h2 => ⟨h2, h1⟩))
  have HFA := Lib.hid (show ∀ q, F1 q ∧ q < w2.heap.size → w1.heap.size ≤ q ∧ q ≠ w1.heap.size + 1 from fun q h => by rcases hF1 q h.1 with h | h; omega; simp at h; omega)
  have HB2 := Lib.hid (HB.out.keeps hk (fun q h1 h2 => by omega))
  have HR2 := Lib.hid hr
  have HRN := Lib.hid (show ∀ q, (Value.slice oa (o1 ++ o2).length oc).ownBlock = some q → q ≠ w1.heap.size + 1 from fun q h => by have := (hr.1.lt q h).1; simp at this; omega)
  have HRM := Lib.hid (show ∀ x, x ∈ vs → ∀ q, x.ownBlock = some q → q ≠ w1.heap.size + 1 from fun x hx q h => by
    obtain ⟨i, hi⟩ := List.mem_iff_getElem?.1 hx
    obtain ⟨_, _, _, _, _, hf⟩ := hr.2 i x hi
    have := (hf q h).1; simp at this; omega)
  have HW2 := Lib.hid (HW1.out.trans ((hk1.below (Nat.le_refl _) (fun _ h => h.elim)).mono HW1.out.size))
  have HLO2 := Lib.hid (Sl.below HLO.out HW2.out)
  obtain ⟨fa1, rfl⟩ := he.2 rfl
  unfold eF
  have HRL := Lib.hid (show ∀ q, (Value.slice oa (o1 ++ o2).length oc).ownBlock = some q → q < w2.heap.size from fun q h => (hr.1.lt q h).2)
  have HRP := Lib.hid (show ∀ x, x ∈ vs → ∀ q, x.ownBlock = some q → q < w2.heap.size from fun x hx q h => by
    obtain ⟨i, hi⟩ := List.mem_iff_getElem?.1 hx
    obtain ⟨_, _, _, _, hl, _⟩ := hr.2 i x hi
    exact hl q h)
  clear hk hk1 hj hr hF1 hn1 hn2 he
  dsimp only
  go_wp2_with fail
  refine (feed_live (w1.heap.size + 1) _ [] ys _ _ HB2.out HLO2.out hby (by simp; omega)).mono ?_
  rintro e w3 hp
  unfold FeedPost at hp
  rw [List.nil_append, HX1.out] at hp
  obtain ⟨ya, yc, ev2, ws, F2, rfl, hr, hj, hF2, hn1, hn2, hk, he⟩ := hp
  have he := feed_err he
  have HB3 := Lib.hid hj
  have HFB := Lib.hid (show ∀ q, F2 q → q = w1.heap.size + 1 ∨ w2.heap.size ≤ q from hF2)
  have HA3 := Lib.hid (HA2.out.keeps hk (fun q h1 h2 => (HFA.out q h1).2 h2))
  have HR3 := Lib.hid (HR2.out.stay hk (fun q h1 h2 => HRN.out q h1 h2) (fun x hx q h1 h2 => HRM.out x hx q h1 h2))
  have HY3 := Lib.hid hr
  have HYN := Lib.hid hn1
  have HYM := Lib.hid hn2
  have HW3 := Lib.hid (HW2.out.trans (hk.below (B := w.heap.size) (by have := HW2.out.size; omega) (fun q h => by omega)))
  have HZ3 := Lib.hid hk.size
  obtain rfl := he.1 rfl
  clear hk hj hr hF2 hn1 hn2 he
  dsimp only
  go_wp2_with fail
  refine (feed_live (w1.heap.size + 1) _ r1 zs _ _ HB3.out (Sl.below HHI.out HW3.out) hbz (by omega)).mono ?_
  rintro e w4 hp
  unfold FeedPost at hp
  rw [HX2.out] at hp
  obtain ⟨za, zc, ev3, us, F3, rfl, hr, hj, hF3, hn1, hn2, hk, he⟩ := hp
  have he := feed_err he
  have HB4 := Lib.hid hj
  have HA4 := Lib.hid (HA3.out.keeps hk (fun q h1 h2 => by rcases HFB.out q h2 with h | h; exact (HFA.out q h1).2 h; have := h1.2; omega))
  have HR4 := Lib.hid (HR3.out.stay hk (fun q h1 h2 => by rcases HFB.out q h2 with h | h; exact HRN.out q h1 h; have := HRL.out q h1; omega) (fun x hx q h1 h2 => by rcases HFB.out q h2 with h | h; exact HRM.out x hx q h1 h; have := HRP.out x hx q h1; omega))
  have HY4 := Lib.hid (HY3.out.stay hk HYN.out HYM.out)
  have HZ4 := Lib.hid hr
  have HW4 := Lib.hid (HW3.out.trans (hk.below (B := w.heap.size) (by have := HW3.out.size; omega) (fun q h => by rcases HFB.out q h with h | h; omega; have := HW2.out.size; omega)))
  have HSRC := Lib.hid ((Sl.ofMid hr.1).src (P := Tryd.prog) Tryd.underlying22 (fun u hu => by
    obtain ⟨i, hi⟩ := List.mem_iff_getElem?.1 hu
    obtain ⟨_, _, _, h1, _⟩ := hr.2 i u hi
    exact h1))
  have hzn : ∀ x, x ∈ us → ∀ q, x.ownBlock = some q → (Value.slice ya o1.length yc).ownBlock ≠ some q := fun x hx q h1 h2 => by
    obtain ⟨i, hi⟩ := List.mem_iff_getElem?.1 hx
    obtain ⟨_, _, _, _, _, hf⟩ := hr.2 i x hi
    have h3 := (hf q h1).1; have h4 := (HY3.out.1.lt q h2).2; omega
  have HZN := Lib.hid hzn
  have HF3 := Lib.hid hF3
  have HZ34 := Lib.hid (show w2.heap.size ≤ w4.heap.size from Nat.le_trans HZ3.out hk.size)
  obtain ⟨fa3, rfl⟩ := he.2 rfl
  unfold eF
  clear hk hj hr hF3 hn1 hn2 he hzn
  obtain ⟨i1, hi1, hy0, hy1, hy2⟩ := info_parts Tryd.infoBB
  dsimp only
  go_wp2_with (at_builtin; refine wpList_append_mid (v := .slice ya o1.length yc) rfl _ _ 22 22 rfl i1 (.slice none 0 0) 24 Tryd.underlying22 hi1 hy0 hy1 hy2 rfl rfl HY4.out.1 _ rfl o2.length _ HSRC.out (by unfold maxLen; omega) (by omega) HZ34.out ?_; intro a5 c5 w5 hm5 hg5 hb5; have HM5 := Lib.hid hm5; have HG5 := Lib.hid hg5; clear hm5 hg5 hb5)
  have hb45 : Below w.heap.size w4 w5 := (Below.refl _ _).grown HG5.out (by have := HW4.out.size; omega) (fun q hq => by have := (HY3.out.1.lt q hq).1; have := HW2.out.size; omega)
  have hr5 := RowsR.append HY4.out HZ4.out HZN.out HM5.out HG5.out
  rw [← List.length_append] at hr5 ⊢
  clear HM5
  have hra : RowsR w5 (.slice oa (o1 ++ o2).length oc) (o1 ++ o2) := RowsR.ofV (HR4.out.stay (Keeps.of_grown HG5.out (S := fun q => (Value.slice ya o1.length yc).ownBlock = some q) (fun q h => h)) (fun q h1 h2 => by have := HRL.out q h1; have := (HY3.out.1.lt q h2).1; omega) (fun x hx q h1 h2 => by have := HRP.out x hx q h1; have := (HY3.out.1.lt q h2).1; omega))
  have ha5 := HA4.out.keeps (Keeps.of_grown HG5.out (S := fun q => (Value.slice ya o1.length yc).ownBlock = some q) (fun q h => h)) (fun q h1 h2 => by have := h1.2; have := (HY3.out.1.lt q h2).1; omega)
  have hb5 := HB4.out.keeps (Keeps.of_grown HG5.out (S := fun q => (Value.slice ya o1.length yc).ownBlock = some q) (fun q h => h)) (fun q h1 h2 => by rcases HF3.out q h1 with h | h; exact HYN.out q h2 h; have := (HY3.out.1.lt q h2).2; omega)
  have HW5 := Lib.hid (HW4.out.trans hb45)
  have HRA := Lib.hid hra
  have HRB := Lib.hid hr5
  have HA5 := Lib.hid ha5
  have HB5 := Lib.hid hb5
  have hol3 : (o1 ++ o2).length ≤ 4294967296 := by rw [List.length_append]; omega
  clear hb45 hr5 hra ha5 hb5
  generalize o1 ++ o2 = oo at *
  have HSAME := Lib.hid (fun m => same_true oa a5 oc c5 oo (w5.drewN m) (HRA.out.drewN m) (HRB.out.drewN m) hol3)
  have HDA := Lib.hid (fun m => dead_any _ _ _ _ _ (HA5.out.drewN m))
  have HDB := Lib.hid (fun m => dead_any _ _ _ _ _ (HB5.out.drewN m))
  have HLA := Lib.hid (fun m => left_any _ _ _ _ _ (HA5.out.drewN m))
  have HLB := Lib.hid (fun m => left_any _ _ _ _ _ (HB5.out.drewN m))
  go_wp2_with fail
  go_quiet (first
    | (go_at_call 12; with_reducible exact Calls.quiet_of (HSAME.out _))
    | (go_at_call 14; first | with_reducible exact Calls.quiet_of_same (HDA.out _) | exact Calls.quiet_of_same (HDB.out _))
    | (go_at_call 13; first | with_reducible exact Calls.quiet_of_same (HLA.out _) | exact Calls.quiet_of_same (HLB.out _)))
  go_wp2
  go_ret
  exact ⟨rfl, HW5.out.trans ⟨rfl, rfl, rfl, Nat.le_refl _, fun _ _ => rfl⟩⟩

theorem bytes_take {w : World} {b o c : Nat} {xs : List Int} (hc : xs.length ≤ c) (hm : c ≤ maxLen) (hb : b < w.heap.size) (h : ∀ j x, xs[j]? = some x → w.cell? ⟨b, o + j, none⟩ = some (.int .u8 x)) (n : Nat) (hn : n ≤ xs.length) :
    Bytes w (.slice (some ⟨b, o, none⟩) n c) (xs.take n) := by
  have hl : (xs.take n).length = n := by rw [List.length_take]; omega
  unfold Bytes
  rw [hl]
  refine ⟨by simp; omega, .inr ⟨b, o, c, rfl, by omega, hm, hb, fun j u hj => ?_⟩⟩
  rw [List.map_take, List.getElem?_take] at hj
  split at hj
  · rw [List.getElem?_map] at hj
    obtain ⟨x, hx, rfl⟩ := Option.map_eq_some_iff.1 hj
    exact h j x hx
  · cases hj
theorem bytes_drop {w : World} {b o c : Nat} {xs : List Int} (hc : xs.length ≤ c) (hm : c ≤ maxLen) (hb : b < w.heap.size) (h : ∀ j x, xs[j]? = some x → w.cell? ⟨b, o + j, none⟩ = some (.int .u8 x)) (n : Nat) (hn : n ≤ xs.length) :
    Bytes w (.slice (some ⟨b, o + n, none⟩) (xs.length - n) (c - n)) (xs.drop n) := by
  have hl : (xs.drop n).length = xs.length - n := List.length_drop ..
  unfold Bytes
  rw [hl]
  refine ⟨by simp, .inr ⟨b, o + n, c - n, rfl, by omega, by omega, hb, fun j u hj => ?_⟩⟩
  rw [List.map_drop, List.getElem?_drop, List.getElem?_map] at hj
  obtain ⟨x, hx, rfl⟩ := Option.map_eq_some_iff.1 hj
  rw [Nat.add_assoc]
  exact h _ x hx
theorem bytes_none {w : World} {a : Option Addr} {c : Nat} (hm : c ≤ maxLen) (h0 : a = none → c = 0) : Bytes w (.slice a 0 c) [] := ⟨rfl, .inl ⟨a, c, rfl, rfl, hm, h0⟩⟩

/-- One cut, whatever is to be shown of it. -/
theorem cut_cases (C : Prop) (xs : List Int) (n : Nat) (hlx : xs.length ≤ 1048576) (hn : n ≤ xs.length)
    (h1 : ∀ (os : List (List Int)), split xs = (os, [], true) → split (xs.take n) = (os, [], true) → os.length ≤ 1048576 → C)
    (h2 : ∀ (o1 o2 : List (List Int)) (r1 r2 : List Int), split xs = (o1 ++ o2, r2, false) → split (xs.take n) = (o1, r1, false) → split (r1 ++ xs.drop n) = (o2, r2, false) → r1.length ≤ (xs.take n).length → (o1.length ≤ 1048576 ∧ o2.length ≤ 1048576) → C)
    (h3 : ∀ (o1 o2 : List (List Int)) (r1 r2 : List Int), split xs = (o1 ++ o2, r2, true) → split (xs.take n) = (o1, r1, false) → split (r1 ++ xs.drop n) = (o2, r2, true) → r1.length ≤ (xs.take n).length → (o1.length ≤ 1048576 ∧ o2.length ≤ 1048576) → C) : C := by
  have ha := split_append _ (xs.take n) (xs.drop n) (Nat.le_refl _)
  rw [List.take_append_drop] at ha
  have hol := framed_ge _ xs (Nat.le_refl _)
  cases hd : (split (xs.take n)).2.2 with
  | true =>
    rw [if_pos hd] at ha
    have hr := (split_rest _ (xs.take n) (Nat.le_refl _)).1 hd
    have e : split (xs.take n) = ((split (xs.take n)).1, [], true) := by rw [← hr, ← hd]
    exact h1 _ (ha.trans e) e (by rw [← ha]; omega)
  | false =>
    rw [if_neg (by rw [hd]; decide)] at ha
    have e : split (xs.take n) = ((split (xs.take n)).1, (split (xs.take n)).2.1, false) := by rw [← hd]
    have hs := (split_sizes _ (xs.take n) (Nat.le_refl _)).2.1 hd
    have hb2 : (split (xs.take n)).1.length ≤ 1048576 ∧ (split ((split (xs.take n)).2.1 ++ xs.drop n)).1.length ≤ 1048576 := by
      have := congrArg (fun x => x.1.length) ha
      simp only [List.length_append] at this
      omega
    cases hd2 : (split ((split (xs.take n)).2.1 ++ xs.drop n)).2.2 with
    | false =>
      have e2 : split ((split (xs.take n)).2.1 ++ xs.drop n) = ((split ((split (xs.take n)).2.1 ++ xs.drop n)).1, (split ((split (xs.take n)).2.1 ++ xs.drop n)).2.1, false) := by rw [← hd2]
      exact h2 _ _ _ _ (ha.trans (by rw [← hd2])) e e2 (by omega) hb2
    | true =>
      have e2 : split ((split (xs.take n)).2.1 ++ xs.drop n) = ((split ((split (xs.take n)).2.1 ++ xs.drop n)).1, (split ((split (xs.take n)).2.1 ++ xs.drop n)).2.1, true) := by rw [← hd2]
      exact h3 _ _ _ _ (ha.trans (by rw [← hd2])) e e2 (by omega) hb2
theorem cuts_Z (k : Int) (w : World) (hg : Hg w) (hb : Bytes w (.slice none 0 0) []) (k0 : 0 ≤ k) (k1 : k ≤ 65535) (hm0 : k % ((0 : Int) + 1) = 0) : Calls Tryd.prog 4 #[.slice none 0 0, .int .u16 k] w (Yes w) :=
  cut_cases _ [] 0 (Nat.zero_le _) (Nat.le_refl _)
    (fun os h1 h2 h3 => cuts_Zi k [] [] [] os w hg hb hb hb Byt.nil Byt.nil Byt.nil (Nat.zero_le _) (Nat.zero_le _) (Nat.zero_le _) h3 h1 h2 k0 k1 hm0)
    (fun o1 o2 r1 r2 h1 h2 h3 h4 h5 => cuts_Zii k [] [] [] o1 o2 r1 r2 w hg hb hb hb Byt.nil Byt.nil Byt.nil (Nat.zero_le _) (Nat.zero_le _) (Nat.zero_le _) h5 h1 h2 h3 h4 k0 k1 hm0)
    (fun o1 o2 r1 r2 h1 h2 h3 h4 h5 => cuts_Ziii k [] [] [] o1 o2 r1 r2 w hg hb hb hb Byt.nil Byt.nil Byt.nil (Nat.zero_le _) (Nat.zero_le _) (Nat.zero_le _) h5 h1 h2 h3 h4 k0 k1 hm0)
theorem cuts_Y (ad : Addr) (c : Nat) (k : Int) (w : World) (hg : Hg w) (hb : Bytes w (.slice (some ad) 0 c) []) (hcm' : c ≤ 9223372036854775807) (k0 : 0 ≤ k) (k1 : k ≤ 65535) (hm0 : k % ((0 : Int) + 1) = 0) : Calls Tryd.prog 4 #[.slice (some ad) 0 c, .int .u16 k] w (Yes w) :=
  cut_cases _ [] 0 (Nat.zero_le _) (Nat.le_refl _)
    (fun os h1 h2 h3 => cuts_Yi ad c k [] [] [] os w hg hb hb hb Byt.nil Byt.nil Byt.nil (Nat.zero_le _) (Nat.zero_le _) (Nat.zero_le _) h3 h1 h2 hcm' k0 k1 hm0)
    (fun o1 o2 r1 r2 h1 h2 h3 h4 h5 => cuts_Yii ad c k [] [] [] o1 o2 r1 r2 w hg hb hb hb Byt.nil Byt.nil Byt.nil (Nat.zero_le _) (Nat.zero_le _) (Nat.zero_le _) h5 h1 h2 h3 h4 hcm' k0 k1 hm0)
    (fun o1 o2 r1 r2 h1 h2 h3 h4 h5 => cuts_Yiii ad c k [] [] [] o1 o2 r1 r2 w hg hb hb hb Byt.nil Byt.nil Byt.nil (Nat.zero_le _) (Nat.zero_le _) (Nat.zero_le _) h5 h1 h2 h3 h4 hcm' k0 k1 hm0)
theorem cuts_Q (b o : Nat) (k : Int) (xs : List Int) (n : Nat) (w : World) (hg : Hg w) (hb : Bytes w (.slice (some ⟨b, o, none⟩) n n) xs) (hbx : Byt xs) (hlx : xs.length ≤ 1048576) (hxl : xs.length = n)
    (hlo : Bytes w (.slice (some ⟨b, o, none⟩) n n) (xs.take n)) (k0 : 0 ≤ k) (k1 : k ≤ 65535) (hn : k % ((n : Int) + 1) = n) : Calls Tryd.prog 4 #[.slice (some ⟨b, o, none⟩) n n, .int .u16 k] w (Yes w) := by
  have hhi0 : Bytes w (.slice (some ⟨b, o, none⟩) 0 0) (xs.drop n) := by
    rw [List.drop_of_length_le (by omega)]
    exact bytes_none (Nat.zero_le _) (fun _ => rfl)
  have l1 : (xs.take n).length ≤ 1048576 := by rw [List.length_take]; omega
  have l2 : (xs.drop n).length ≤ 1048576 := by rw [List.length_drop]; omega
  have hn2 : n ≤ 1048576 := by omega
  exact cut_cases _ xs n hlx (by omega)
    (fun os h1 h2 h3 => cuts_Qi b o n k xs _ _ os w hg hb hlo hhi0 hbx (hbx.take n) (hbx.drop n) hlx l1 l2 h3 h1 h2 hn2 k0 k1 hn)
    (fun o1 o2 r1 r2 h1 h2 h3 h4 h5 => cuts_Qii b o n k xs _ _ o1 o2 r1 r2 w hg hb hlo hhi0 hbx (hbx.take n) (hbx.drop n) hlx l1 l2 h5 h1 h2 h3 h4 hn2 k0 k1 hn)
    (fun o1 o2 r1 r2 h1 h2 h3 h4 h5 => cuts_Qiii b o n k xs _ _ o1 o2 r1 r2 w hg hb hlo hhi0 hbx (hbx.take n) (hbx.drop n) hlx l1 l2 h5 h1 h2 h3 h4 hn2 k0 k1 hn)
theorem cuts_Pp (b o c : Nat) (k : Int) (xs : List Int) (n : Nat) (w : World) (hg : Hg w) (hb : Bytes w (.slice (some ⟨b, o, none⟩) xs.length c) xs) (hbx : Byt xs) (hlx : xs.length ≤ 1048576)
    (hlo : Bytes w (.slice (some ⟨b, o, none⟩) n c) (xs.take n)) (hhi : Bytes w (.slice (some ⟨b, o + n, none⟩) (xs.length - n) (c - n)) (xs.drop n)) (hnl : n ≤ xs.length) (hlc : xs.length ≤ c) (hcm' : c ≤ 9223372036854775807) (hnc : n < c)
    (k0 : 0 ≤ k) (k1 : k ≤ 65535) (hn : k % ((xs.length : Int) + 1) = n) : Calls Tryd.prog 4 #[.slice (some ⟨b, o, none⟩) xs.length c, .int .u16 k] w (Yes w) := by
  have l1 : (xs.take n).length ≤ 1048576 := by rw [List.length_take]; omega
  have l2 : (xs.drop n).length ≤ 1048576 := by rw [List.length_drop]; omega
  exact cut_cases _ xs n hlx hnl
    (fun os h1 h2 h3 => cuts_Pi b o c n k xs _ _ os w hg hb hlo hhi hbx (hbx.take n) (hbx.drop n) hlx l1 l2 h3 h1 h2 hnl hlc hcm' hnc k0 k1 hn)
    (fun o1 o2 r1 r2 h1 h2 h3 h4 h5 => cuts_Pii b o c n k xs _ _ o1 o2 r1 r2 w hg hb hlo hhi hbx (hbx.take n) (hbx.drop n) hlx l1 l2 h5 h1 h2 h3 h4 hnl hlc hcm' hnc k0 k1 hn)
    (fun o1 o2 r1 r2 h1 h2 h3 h4 h5 => cuts_Piii b o c n k xs _ _ o1 o2 r1 r2 w hg hb hlo hhi hbx (hbx.take n) (hbx.drop n) hlx l1 l2 h5 h1 h2 h3 h4 hnl hlc hcm' hnc k0 k1 hn)

theorem cuts_nil (v : Value) (k : Int) (w : World) (hg : Hg w) (hb : Bytes w v []) (k0 : 0 ≤ k) (k1 : k ≤ 65535) : Calls Tryd.prog 4 #[v, .int .u16 k] w (Yes w) := by
  obtain ⟨a, c, e, hlc, hcm, h0⟩ := Sl.len hb
  have hcm' : c ≤ 9223372036854775807 := by unfold maxLen at hcm; omega
  have hm0 : k % ((0 : Int) + 1) = 0 := by omega
  clear hlc hcm
  rw [e] at hb ⊢
  clear e
  cases a with
  | none => rw [h0 rfl] at hb ⊢; exact cuts_Z k w hg hb k0 k1 hm0
  | some ad => exact cuts_Y ad c k w hg hb hcm' k0 k1 hm0
theorem cuts_some (v : Value) (xs : List Int) (k : Int) (w : World) (hg : Hg w) (hb : Bytes w v xs) (hbx : Byt xs) (hlx : xs.length ≤ 1048576) (hx0 : 0 < xs.length) (k0 : 0 ≤ k) (k1 : k ≤ 65535) : Calls Tryd.prog 4 #[v, .int .u16 k] w (Yes w) := by
  obtain ⟨b, o, c, e, hlc, hcm, hbl, hcl⟩ := Bytes.plain hb hx0
  have hcm' : c ≤ 9223372036854775807 := by unfold maxLen at hcm; omega
  rw [e] at hb ⊢
  clear e
  obtain ⟨n, hn⟩ : ∃ n : Nat, k % ((xs.length : Int) + 1) = n := Int.eq_ofNat_of_zero_le (Int.emod_nonneg _ (by omega))
  have hnl : n ≤ xs.length := by
    have := Int.emod_lt_of_pos k (b := (xs.length : Int) + 1) (by omega)
    omega
  have hlo := bytes_take hlc hcm hbl hcl n hnl
  have hhi := bytes_drop hlc hcm hbl hcl n hnl
  by_cases hnc : n = c
  · have hxl : xs.length = n := by omega
    rw [← hnc] at hb hlo ⊢
    rw [hxl] at hb hn ⊢
    exact cuts_Q b o k xs n w hg hb hbx hlx hxl hlo k0 k1 hn
  · exact cuts_Pp b o c k xs n w hg hb hbx hlx hlo hhi hnl hlc hcm' (by omega) k0 k1 hn
theorem cuts_any (v : Value) (xs : List Int) (k : Int) (w : World) (hg : Hg w) (hb : Bytes w v xs) (hbx : Byt xs) (hlx : xs.length ≤ 1048576) (k0 : 0 ≤ k) (k1 : k ≤ 65535) : Calls Tryd.prog 4 #[v, .int .u16 k] w (Yes w) := by
  by_cases hx0 : 0 < xs.length
  · exact cuts_some v xs k w hg hb hbx hlx hx0 k0 k1
  · have hx : xs = [] := List.eq_nil_of_length_eq_zero (by omega)
    rw [hx] at hb
    exact cuts_nil v k w hg hb k0 k1

end Go.Proofs.YtamkappanknklaaDoor
