/-
  The law PackOne answers true; the conditions: the library's own global is as it began; at most 1048576 words, bytes, letters in each argument.
  Printed by a program of this repository (wip/dg36.py).
-/
import Derived.Test.YtmhainidincjhaaGreatDoorJL
import Derived.Test.YtmhainidincjhaaGreatDoorJD
set_option linter.unusedVariables false
set_option linter.unusedSimpArgs false
namespace Go.Proofs.YtmhainidincjhaaGreatDoor
open Go.RowKit Go.Extern.Stop Go.Stop Go.Extern
set_option maxRecDepth 100000 in
theorem enc_opt {q : Rat} (hs : lenW q.num.natAbs ≤ 1099511627776) (hd : lenW q.den ≤ 1099511627776) (a b : Option Addr) (c d : Nat) (W : World) (q1 : NatW W a c q.num.natAbs) (q2 : NatW W b d (denN q.den)) :
    Calls Tryz.prog 28 #[ratV a c b d q] W fun e w' => ∃ a2 c2 v, e = .returned (.tuple #[.slice a2 (bytesE (encR q)).length c2, v]) ∧ OS w' (okE (encR q)) v a2 (bytesE (encR q)).length c2 (bytesE (encR q)) ∧ Below W.heap.size W w' := by
  cases he : encR q with
  | ok l => exact (enc_ok he hs hd a b c d W q1 q2).mono fun e w' hh => by obtain ⟨a2, c2, k1, k2, k3⟩ := hh; exact ⟨a2, c2, _, k1, ⟨rfl, k2⟩, k3⟩
  | error f =>
    obtain ⟨x, rfl⟩ := enc_err_at he
    exact (enc_bad he hs hd a b c d W q1 q2).mono fun e w' hh => by obtain ⟨pb, k1, _, k3⟩ := hh; exact ⟨none, 0, _, k1, ⟨⟨_, _, rfl⟩, ⟨rfl, .inl ⟨none, 0, rfl, rfl, Nat.zero_le _, fun _ => rfl⟩⟩⟩, k3⟩
set_option maxRecDepth 100000 in
theorem packOne_any (sg : Bool) (a b : Option Addr) (n c m d : Nat) (xs ys : List Nat) (sh : Bool) (f g : Option Addr) (i j k o : Nat) (us vs : List Nat) (w : World) (hg : Hg w) (h : PartW w a n c b m d xs ys) (h' : PartW w f i j g k o us vs) :
    Calls Tryz.prog 7 #[.agg #[.bool sg, .slice a n c, .slice b m d], .agg #[.bool sh, .slice f i j, .slice g k o]] w fun e w' => e = .returned (.bool true) ∧ Below w.heap.size w w' := by
  obtain ⟨p, hp⟩ : ∃ q, ratG sg xs ys = q := ⟨_, rfl⟩
  obtain ⟨q, hq⟩ : ∃ q, ratG sh us vs = q := ⟨_, rfl⟩
  have hm := h.make sg
  have hm' := h'.make sh
  obtain ⟨hz1, hz2⟩ := h.size sg
  obtain ⟨hz3, hz4⟩ := h'.size sh
  rw [hp] at hm hz1 hz2
  rw [hq] at hm' hz3 hz4
  have strne : ∀ u v : List Nat, (∀ x ∈ u, x < 256) → (∀ x ∈ v, x < 256) → ((strB u).toList == (strB v).toList) = decide (u = v) := fun u v hu hv => by
    by_cases huv : u = v
    · subst huv; rw [decide_eq_true rfl]; exact beq_self_eq_true _
    · rw [decide_eq_false huv]; exact (Lib.bytes_beq_false_iff _ _).2 fun e => huv (by rw [← natB_strB hu, e, natB_strB hv])
  refine pone_walk sg sh _ _ a b f g n c m d i j k o _ _ _ _ w (strB (textR p)) (strB (textR q)) (decide (p = q)) (okE (encR p)) (okE (encR q)) ?_ _ _ (min (bytesE (encR p)).length (bytesE (encR q)).length) (bytesE (encR p)) (bytesE (encR q))
    (strB ((bytesE (encR p)).take (min (bytesE (encR p)).length (bytesE (encR q)).length))) (strB ((bytesE (encR q)).take (min (bytesE (encR p)).length (bytesE (encR q)).length))) (Lib.hid rfl) (Lib.hid fun k1 k2 => ?_)
    (Lib.hid fun W hb => awake_any W (hg.below hb hg.lt)) (Lib.hid hm) (Lib.hid hm')
    (Lib.hid fun a8 c8 b9 d9 W q1 q2 => rtext_any a8 b9 c8 d9 p W q1 q2 (by omega) (by omega)) (Lib.hid fun a8 c8 b9 d9 W q1 q2 => rtext_any a8 b9 c8 d9 q W q1 q2 (by omega) (by omega))
    (Lib.hid fun a6 c6 b7 d7 a8 c8 b9 d9 W q1 q2 q3 q4 => rsame_any (mul_upto 4398046511104 (Nat.le_refl _)) p q a6 b7 a8 b9 c6 d7 c8 d9 W q1 q2 q3 q4 (by rw [Int.natAbs_natCast]; omega) (by rw [Int.natAbs_natCast]; omega))
    (Lib.hid fun a8 c8 b9 d9 W q1 q2 => enc_opt (by omega) (by omega) a8 b9 c8 d9 W q1 q2) (Lib.hid fun a8 c8 b9 d9 W q1 q2 => enc_opt (by omega) (by omega) a8 b9 c8 d9 W q1 q2)
    (Lib.hid fun a c W hs => conv_any a _ c _ W (BytesN.pre hs _ (Nat.min_le_left _ _))) (Lib.hid fun a c W hs => conv_any a _ c _ W (BytesN.pre hs _ (Nat.min_le_right _ _)))
  · rw [strne _ _ (textR_lt p) (textR_lt q)]
    by_cases hpq : p = q
    · rw [decide_eq_true hpq, decide_eq_true (by rw [hpq])]
    · rw [decide_eq_false hpq, decide_eq_false fun e => hpq ((textR_inj p q).1 e)]
  · cases he : encR p with
    | error _ => rw [he] at k1; cases k1
    | ok l =>
      cases he2 : encR q with
      | error _ => rw [he2] at k2; cases k2
      | ok l2 =>
        show ((strB (l.take (min l.length l2.length))).toList == (strB (l2.take (min l.length l2.length))).toList) = _
        rw [strne _ _ (fun x hx => (enc_lt he).1 x (List.mem_of_mem_take hx)) (fun x hx => (enc_lt he2).1 x (List.mem_of_mem_take hx))]
        have hap := enc_apart he he2
        by_cases hpq : p = q
        · rw [decide_eq_true hpq, decide_eq_true (hap.2 hpq)]
        · rw [decide_eq_false hpq, decide_eq_false fun e => hpq (hap.1 e)]
end Go.Proofs.YtmhainidincjhaaGreatDoor
