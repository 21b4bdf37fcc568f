/-
  The law PackShort answers true; the conditions: the library's own global is as it began; at most 1048576 words, bytes, letters in each argument.
  Printed by a program of this repository (wip/dg36.py).
-/
import Derived.Test.YtmhainidincjhaaGreatDoorNLShort
import Derived.Test.YtmhainidincjhaaGreatDoorNL
set_option linter.unusedVariables false
set_option linter.unusedSimpArgs false
namespace Go.Proofs.YtmhainidincjhaaGreatDoor
open Go.RowKit Go.Extern.Stop Go.Stop Go.Extern
set_option maxRecDepth 100000 in
theorem packShort_any (sg : Bool) (a b : Option Addr) (n c m d : Nat) (xs ys : List Nat) (y : Int) (w : World) (hg : Hg w) (h : PartW w a n c b m d xs ys) (hy0 : 0 ≤ y) (hy1 : y ≤ 65535) :
    Calls Tryz.prog 11 #[.agg #[.bool sg, .slice a n c, .slice b m d], .int .u16 y] w fun e w' => e = .returned (.bool true) ∧ Below w.heap.size w w' := by
  obtain ⟨q, hq⟩ : ∃ q, ratG sg xs ys = q := ⟨_, rfl⟩
  have hm := h.make sg
  obtain ⟨hz1, hz2⟩ := h.size sg
  rw [hq] at hm hz1 hz2
  have HAW := Lib.hid fun W (hb : Below w.heap.size w W) => awake_any W (hg.below hb hg.lt)
  cases he : encR q with
  | error f =>
    obtain ⟨x, rfl⟩ := enc_err_at he
    exact pshort_err sg _ a b n c m d _ _ w y (strB x.1) x.2 HAW (Lib.hid hm) (Lib.hid fun a8 c8 b9 d9 W q1 q2 => enc_bad he (by omega) (by omega) a8 b9 c8 d9 W q1 q2) (Lib.hid fun pb W s9 k9 hf => is_bl rfl (isFE_same pb 3 3 W rfl hf.2.2))
  | ok l =>
    obtain ⟨hl8, hl⟩ := enc_lt he
    have hen := Lib.hid fun (a8 : Option Addr) (c8 : Nat) (b9 : Option Addr) (d9 : Nat) (W : World) (q1 : NatW W a8 c8 q.num.natAbs) (q2 : NatW W b9 d9 (denN q.den)) => enc_ok he (by omega) (by omega) a8 b9 c8 d9 W q1 q2
    by_cases h0 : y % (l.length : Int) = 0
    · exact pshort_zero sg _ a b n c m d _ _ w y l.length l hy0 hy1 hl h0 HAW (Lib.hid hm) hen
        (Lib.hid fun a2 c2 W _ => (dec_nil a2 c2 W).mono fun e w' hh => by obtain ⟨v, h1, h2, h3⟩ := hh; have h2 : v = eE 90 := h2; subst h2; exact ⟨h1, h3⟩)
        (Lib.hid fun W hb => place_E 90 W (hg.below hb hg.lt)) (Lib.hid fun W => is_bl rfl (isE_same 90 90 W rfl)) (Lib.hid zv_nought)
    · have hlp : (0 : Int) < (l.length : Int) := by omega
      have hk1 := Int.emod_lt_of_pos y hlp
      have hk0 := Int.emod_nonneg y (show (l.length : Int) ≠ 0 by omega)
      obtain ⟨k, hk⟩ : ∃ k : Nat, y % (l.length : Int) = (k : Int) := ⟨(y % (l.length : Int)).toNat, by omega⟩
      have hkl : k < l.length := by omega
      obtain ⟨wv, hd, hw0, hpl⟩ := dec_short he hkl
      cases wv with
      | none => exact absurd (hw0.1 rfl) (by omega)
      | some x =>
        have hp := hpl x.1 x.2 rfl
        refine pshort_some sg _ a b n c m d _ _ w y l.length l hy0 hy1 hl k hkl hk (by omega) (strB x.1) x.2 hp.1 hp.2 HAW (Lib.hid hm) hen ?_
          (Lib.hid fun pb W hb hf => place_F pb _ _ 90 W (hg.below hb hg.lt) hf) (Lib.hid fun pb W s9 k9 hf => is_bl rfl (isFE_same pb 90 90 W rfl hf.2.2)) (Lib.hid zv_nought)
        refine Lib.hid fun a2 c2 W hs => ?_
        have hdc := dec_any a2 k c2 (l.take k) W (BytesN.pre hs k (by omega)) (fun x hx => hl8 x (List.mem_of_mem_take hx)) (by have := (enc_small he).2.2; omega)
        rw [hd] at hdc
        refine hdc.mono fun e w' hh => ?_
        obtain ⟨v, h1, ⟨pb, h2, h3⟩, h4⟩ := hh
        subst h2
        exact ⟨pb, h1, h3, h4⟩
end Go.Proofs.YtmhainidincjhaaGreatDoor
