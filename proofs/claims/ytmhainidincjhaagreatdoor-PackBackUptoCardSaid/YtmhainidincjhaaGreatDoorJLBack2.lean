/-
  The law PackBack answers true; the conditions: the library's own global is as it began; at most 1048576 words, bytes, letters in each argument.
  Printed by a program of this repository (wip/dg36.py).
-/
import Derived.Test.YtmhainidincjhaaGreatDoorJLBack
import Derived.Test.YtmhainidincjhaaGreatDoorJL
import Derived.Test.YtmhainidincjhaaGreatDoorJD
set_option linter.unusedVariables false
set_option linter.unusedSimpArgs false
namespace Go.Proofs.YtmhainidincjhaaGreatDoor
open Go.RowKit Go.Extern.Stop Go.Stop Go.Extern
set_option maxRecDepth 100000 in
theorem packBack_any (sg : Bool) (a b : Option Addr) (n c m d : Nat) (xs ys : List Nat) (f : Option Addr) (i j : Nat) (lm : List Nat) (g : Option Addr) (k o : Nat) (lb : List Nat) (t : ByteArray) (w : World) (hg : Hg w) (h : PartW w a n c b m d xs ys) (hmo : BytesN w (.slice f i j) lm) (hm8 : ∀ x, x ∈ lm → x < 256) (hil1 : i ≤ 1048576) (hb : BytesN w (.slice g k o) lb) (hb8 : ∀ x, x ∈ lb → x < 256) (hk : k ≤ 1048576) (ht : t.size ≤ 1048576) :
    Calls Tryz.prog 6 #[.agg #[.bool sg, .slice a n c, .slice b m d], .slice f i j, .slice g k o, .string t] w fun e w' => e = .returned (.bool true) ∧ Below w.heap.size w w' := by
  obtain ⟨q, hq⟩ : ∃ q, ratG sg xs ys = q := ⟨_, rfl⟩
  have hm := h.make sg
  obtain ⟨hz1, hz2⟩ := h.size sg
  rw [hq] at hm hz1 hz2
  have HAW := Lib.hid fun W (hb : Below w.heap.size w W) => awake_any W (hg.below hb hg.lt)
  have hlb := hb.len.1
  refine pback_walk sg (decide (q.num < 0)) a b n c m d q.num.natAbs (denN q.den) w f i j g k o t (strB (textR q)) (okE (encR q)) (okD (decR lb)) (okR (readR (natB t))) (bytesE (encR q)).length (bytesE (encR q)) lm ?_ (by omega) (Lib.hid hmo)
    (decide ((ratD (decR lb)).num < 0)) (ratD (decR lb)).num.natAbs (denN (ratD (decR lb)).den) (numD (decR lb)) lb (strB (lb.take (numD (decR lb)))) (Lib.hid fun h2 => ?_) (Lib.hid hb) (decide ((ratE (readR (natB t))).num < 0)) (ratE (readR (natB t))).num.natAbs (denN (ratE (readR (natB t))).den)
    HAW (Lib.hid hm) (Lib.hid fun a6 c6 b7 d7 a8 c8 b9 d9 W q1 q2 q3 q4 => bl_tr (decide_eq_true rfl) (rsame_any (mul_upto 4398046511104 (Nat.le_refl _)) q q a6 b7 a8 b9 c6 d7 c8 d9 W q1 q2 q3 q4 (by rw [Int.natAbs_natCast]; omega) (by rw [Int.natAbs_natCast]; omega)))
    (Lib.hid fun a8 c8 b9 d9 W q1 q2 => rtext_any a8 b9 c8 d9 q W q1 q2 (by omega) (by omega))
    (Lib.hid fun W => by have h := pread_any (strB (textR q)) W (textR_size hz1 hz2); rw [natB_strB (textR_lt q), read_textR] at h; exact h)
    (Lib.hid fun a8 c8 b9 d9 W q1 q2 => ?_) (Lib.hid fun h1 a2 c2 W hs => ?_) (Lib.hid fun W hbb => ?_) (Lib.hid fun h2 a8 c8 b9 d9 W q1 q2 => ?_) (Lib.hid fun _ a c W hs => conv_any a _ c _ W hs) (Lib.hid fun h2 W hbb => ?_) (Lib.hid fun W => ?_) (Lib.hid fun h3 a8 c8 b9 d9 W q1 q2 => ?_)
  · cases he : encR q with
    | ok l => have := (enc_small he).2.2; show l.length ≤ _; omega
    | error _ => exact Nat.zero_le _
  · cases hd : decR lb with
    | ok x =>
      obtain ⟨yq, y⟩ := x
      obtain ⟨_, hy0, hyl⟩ := enc_dec hb8 hd
      show 1 ≤ y ∧ y ≤ k
      omega
    | error _ => rw [hd] at h2; cases h2
  · refine (enc_any a8 b9 c8 d9 q W q1 q2 (by omega) (by omega)).mono fun e w' hh => ?_
    cases he : encR q with
    | ok l => rw [he] at hh; obtain ⟨a2, c2, k1, k2, k3⟩ := hh; exact ⟨a2, c2, _, k1, rfl, k2, k3⟩
    | error fl => rw [he] at hh; obtain ⟨v, k1, k2, k3, _⟩ := hh; obtain ⟨T, u, rfl⟩ := ErrW.iface k2; exact ⟨none, 0, _, k1, ⟨T, u, rfl⟩, Mid.nil _ _ _ _, k3⟩
  · cases he : encR q with
    | error _ => rw [he] at h1; cases h1
    | ok l =>
      rw [he] at hs
      have hdc := dec_any a2 (l.length + i) c2 (l ++ lm) W hs (fun x hx => by
        rcases List.mem_append.1 hx with hx | hx
        · exact (enc_lt he).1 x hx
        · exact hm8 x hx) (by have := (enc_small he).2.2; omega)
      rw [dec_enc he lm] at hdc
      exact hdc
  · refine (dec_any g k o lb W (hb.below hbb) hb8 (by omega)).mono fun e w' hh => ?_
    cases hd : decR lb with
    | ok x => rw [hd] at hh; obtain ⟨a8, c8, b9, d9, k1, k2, k3, k4⟩ := hh; exact ⟨a8, c8, b9, d9, _, k1, rfl, k2, k3, k4⟩
    | error fl => rw [hd] at hh; obtain ⟨v, k1, k2, k3⟩ := hh; obtain ⟨T, u, rfl⟩ := ErrW.iface k2; exact ⟨none, 0, none, 0, _, k1.trans (by rw [← zv_rat]; rfl), ⟨T, u, rfl⟩, NatW.zero w', NatW.zero w', k3⟩
  · cases hd : decR lb with
    | error _ => rw [hd] at h2; cases h2
    | ok x =>
      obtain ⟨yq, y⟩ := x
      rw [hd] at q1 q2
      obtain ⟨hey, hy0, hyl⟩ := enc_dec hb8 hd
      obtain ⟨hw1, hw2⟩ := enc_words hey
      have h := enc_ok hey (by omega) (by omega) a8 b9 c8 d9 W q1 q2
      rw [show (lb.take y).length = y by rw [List.length_take]; omega] at h
      exact h
  · refine conv_any g _ o _ W ((BytesN.pre hb _ ?_).below hbb)
    cases hd : decR lb with
    | error _ => exact Nat.zero_le _
    | ok x => obtain ⟨_, _, hyl⟩ := enc_dec hb8 hd; show x.2 ≤ k; omega
  · refine (pread_any t W (by omega)).mono fun e w' hh => ?_
    cases hr : readR (natB t) with
    | ok x => rw [hr] at hh; obtain ⟨a8, c8, b9, d9, k1, k2, k3, k4⟩ := hh; exact ⟨a8, c8, b9, d9, _, k1, rfl, k2, k3, k4⟩
    | error fl => rw [hr] at hh; obtain ⟨v, k1, k2, k3⟩ := hh; obtain ⟨T, u, rfl⟩ := ErrW.iface k2; exact ⟨none, 0, none, 0, _, k1.trans (by rw [← zv_rat]; rfl), ⟨T, u, rfl⟩, NatW.zero w', NatW.zero w', k3⟩
  · cases hr : readR (natB t) with
    | error _ => rw [hr] at h3; cases h3
    | ok xq =>
      rw [hr] at q1 q2
      have htx := textR_read hr
      obtain ⟨hx1, hx2⟩ := textR_ge xq
      rw [htx, natB_len] at hx1 hx2
      have h := rtext_any a8 b9 c8 d9 xq W q1 q2 (by omega) (by omega)
      rw [htx, strB_natB] at h
      exact h
end Go.Proofs.YtmhainidincjhaaGreatDoor
