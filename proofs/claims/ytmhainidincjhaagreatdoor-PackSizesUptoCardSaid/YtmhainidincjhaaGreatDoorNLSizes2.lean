/-
  The law PackSizes answers true; the conditions: the library's own global is as it began; at most 1048576 words, bytes, letters in each argument.
  Printed by a program of this repository (wip/dg36.py).
-/
import Derived.Test.YtmhainidincjhaaGreatDoorNLSizes
import Derived.Test.YtmhainidincjhaaGreatDoorNL
set_option linter.unusedVariables false
set_option linter.unusedSimpArgs false
namespace Go.Proofs.YtmhainidincjhaaGreatDoor
open Go.RowKit Go.Extern.Stop Go.Stop Go.Extern
set_option maxRecDepth 100000 in
theorem packSizes_any (sg : Bool) (a b : Option Addr) (n c m d : Nat) (xs ys : List Nat) (w : World) (hg : Hg w) (h : PartW w a n c b m d xs ys) :
    Calls Tryz.prog 13 #[.agg #[.bool sg, .slice a n c, .slice b m d]] w fun e w' => e = .returned (.bool true) ∧ Below w.heap.size w w' := by
  obtain ⟨q, hq⟩ : ∃ q, ratG sg xs ys = q := ⟨_, rfl⟩
  have hm := h.make sg
  obtain ⟨hz1, hz2⟩ := h.size sg
  rw [hq] at hm hz1 hz2
  have HAW := Lib.hid fun W (hb : Below w.heap.size w W) => awake_any W (hg.below hb hg.lt)
  have hNU := Lib.hid fun (a8 : Option Addr) (c8 : Nat) (b9 : Option Addr) (d9 : Nat) (W : World) => num_any a8 b9 c8 d9 q W
  have hAB := Lib.hid fun (a8 : Option Addr) (c8 : Nat) (W : World) => iabs_any (decide (q.num < 0)) a8 c8 q.num.natAbs W
  have hBN := Lib.hid fun (a8 : Option Addr) (c8 : Nat) (W : World) (q1 : NatW W a8 c8 q.num.natAbs) => nbits_any a8 c8 q.num.natAbs W q1 (by omega)
  have hDN := Lib.hid fun (a8 : Option Addr) (c8 : Nat) (b9 : Option Addr) (d9 : Nat) (W : World) (q1 : NatW W b9 d9 (denN q.den)) => den_any (decide (q.num < 0)) a8 b9 (lenW q.num.natAbs) c8 d9 q W q1
  have hBD := Lib.hid fun (a8 : Option Addr) (c8 : Nat) (W : World) (q1 : NatW W a8 c8 q.den) => nbits_any a8 c8 q.den W q1 (by omega)
  have hZ := fun (a8 : Option Addr) (c8 : Nat) (b9 : Option Addr) (d9 : Nat) (W : World) => rzero_any a8 b9 c8 d9 (lenW (denN q.den)) q W
  have hI := fun (a8 : Option Addr) (c8 : Nat) (b9 : Option Addr) (d9 : Nat) (W : World) => isint_any a8 b9 c8 d9 q W
  have hb1 := bits_le q.num.natAbs
  have hb2 := bits_le q.den
  have e1 := size_dig q.num.natAbs
  have e2 := size_dig q.den
  obtain ⟨tn, htn⟩ : ∃ tn, ndig 256 q.num.natAbs = tn := ⟨_, rfl⟩
  obtain ⟨td, htd⟩ : ∃ td, ndig 256 q.den = td := ⟨_, rfl⟩
  obtain ⟨bn, hbn⟩ : ∃ bn, bitLen q.num.natAbs = bn := ⟨_, rfl⟩
  obtain ⟨bd, hbd⟩ : ∃ bd, bitLen q.den = bd := ⟨_, rfl⟩
  rw [hbn, htn] at e1
  rw [hbd, htd] at e2
  rw [hbn] at hBN hb1
  rw [hbd] at hBD hb2
  have H1 : (0 : Int) ≤ (bn : Int) := by omega
  have H2 : (bn : Int) ≤ 140737488355328 := by omega
  have H3 : (0 : Int) ≤ (bd : Int) := by omega
  have H4 : (bd : Int) ≤ 140737488355328 := by omega
  have H5 : tn ≤ 140737488355328 := by omega
  have H6 : td ≤ 140737488355328 := by omega
  have Q1 := Lib.hid (IntWalk.i64_in ((bn : Int) + 7) (by omega))
  have Q2 := Lib.hid (show ((bn : Int) + 7).tdiv 8 = (tn : Int) by rw [Int.tdiv_eq_ediv_of_nonneg (by omega)]; omega)
  have Q3 := Lib.hid (IntWalk.i64_in ((bd : Int) + 7) (by omega))
  have Q4 := Lib.hid (show ((bd : Int) + 7).tdiv 8 = (td : Int) by rw [Int.tdiv_eq_ediv_of_nonneg (by omega)]; omega)
  have Q5 := Lib.hid (IntWalk.i64_in (tn : Int) (by omega))
  have Q6 := Lib.hid (IntWalk.i64_in (td : Int) (by omega))
  have hsz := enc_size q
  rw [htn, htd] at hsz
  have hd1 : q.den = 1 → td = 1 := fun h1 => by rw [← htd, h1, ndig_pos (by omega) (by omega), show 1 / 256 = 0 from rfl, ndig_zero]
  have h00 : q = 0 → tn = 0 ∧ q.den = 1 := fun h0 => ⟨by rw [← htn, h0]; exact ndig_zero 256, by rw [h0]; rfl⟩
  obtain ⟨z, hz⟩ : ∃ z : Nat, (if q = 0 then 1 else if q.den = 1 then 2 + tn else 3 + tn + td) = z := ⟨_, rfl⟩
  rw [hz] at hsz
  have bad : ¬ (tn ≤ 255 ∧ td ≤ 255) → 255 < tn ∨ (q.den ≠ 1 ∧ 255 < td) := fun hn => by
    by_cases h1 : q.den = 1
    · have := hd1 h1; omega
    · by_cases h2 : 255 < tn
      · exact .inl h2
      · exact .inr ⟨h1, by omega⟩
  refine psizes_walk sg _ a b n c m d _ _ w bn bd tn td q.den z (decide (q = 0)) (decide (q.den = 1)) H1 H2 H3 H4 H5 H6 Q1 Q2 Q3 Q4 Q5 Q6 (Lib.hid ⟨fun h => ?_, fun h h' => ?_, fun h h' => ?_⟩) (strB (fltAt (encR q)).1) (fltAt (encR q)).2 HAW (Lib.hid hm) hNU hAB hBN hDN hBD (Lib.hid hZ) (Lib.hid hI)
    (Lib.hid fun hk a8 c8 b9 d9 W q1 q2 => ?_) (Lib.hid fun hk a8 c8 b9 d9 W q1 q2 => ?_) (Lib.hid fun pb W s9 k9 hf => is_bl rfl (isFE_same pb 3 3 W rfl hf.2.2))
  · rw [← hz, if_pos (of_decide_eq_true h)]
  · rw [← hz, if_neg (of_decide_eq_false h), if_pos (of_decide_eq_true h')]
  · rw [← hz, if_neg (of_decide_eq_false h), if_neg (of_decide_eq_false h')]
  · obtain ⟨l, he, hl⟩ := hsz.2 (fun hh => by omega)
    rw [← hl]
    exact (enc_ok he (by omega) (by omega) a8 b9 c8 d9 W q1 q2).mono fun e w' hh => by obtain ⟨a2, c2, k1, _, k3⟩ := hh; exact ⟨a2, c2, k1, k3⟩
  · obtain ⟨f, he, _⟩ := hsz.1 (bad hk)
    obtain ⟨x, rfl⟩ := enc_err_at he
    rw [he]
    exact enc_bad he (by omega) (by omega) a8 b9 c8 d9 W q1 q2
end Go.Proofs.YtmhainidincjhaaGreatDoor
