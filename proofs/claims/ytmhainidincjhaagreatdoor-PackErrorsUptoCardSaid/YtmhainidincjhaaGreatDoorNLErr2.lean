/-
  The law PackErrors holds, given that its awake answers true; the conditions: at most 2 to the 40 bytes and 2 to the 39 bytes of text.
  Printed by a program of this repository (wip/dg26.py).
-/
import Derived.Test.YtmhainidincjhaaGreatDoorNLErr
import Derived.Test.YtmhainidincjhaaGreatDoorNY
import Derived.Test.YtmhainidincjhaaGreatDoorNR
set_option linter.unusedVariables false
set_option linter.unusedSimpArgs false
namespace Go.Proofs.YtmhainidincjhaaGreatDoor
open Go.RowKit Go.Extern.Stop Go.Stop Go.Extern
theorem is_bel {f : FuncId} {xs : Array Value} {W : World} {b b' : Bool} (hb : b = b') (h : Calls Tryz.prog f xs W fun e w' => e = .returned (.bool b) ∧ w' = W) : Calls Tryz.prog f xs W fun e w' => e = .returned (.bool b') ∧ Below W.heap.size W w' := by
  subst hb
  exact h.mono fun e w' h => ⟨h.1, h.2 ▸ Below.refl _ _⟩
theorem zv_zero (W : World) : Calls Tryz.prog 44 #[.agg #[.bool false, .slice none 0 0, .slice none 0 0]] W fun e w' => e = .returned (.bool true) ∧ Below W.heap.size W w' := by
  have h := rzero_any none none 0 0 0 0 W
  rw [show (0 : Rat).num = 0 from rfl, show (0 : Int).natAbs = 0 from rfl, lenW_zero] at h
  exact h
theorem decR_90 {b : List Nat} {f : Flt} (h : decR b = .error f) : f.n = 90 ∨ f.n = 91 := dec_err h
set_option maxRecDepth 100000 in
theorem perr_any (a : Option Addr) (n c : Nat) (bs : List Nat) (t : ByteArray) (w : World) (h : BytesN w (.slice a n c) bs) (hb8 : ∀ x, x ∈ bs → x < 256) (hs : n ≤ 1099511627776) (ht : t.size ≤ 549755813888)
    (HAW : Hid (∀ W, Below w.heap.size w W → Calls Tryz.prog 25 #[] W fun e w' => e = .returned (.bool true) ∧ Below W.heap.size W w')) :
    Calls Tryz.prog 12 #[.slice a n c, .string t] w fun e w' => e = .returned (.bool true) ∧ Below w.heap.size w w' := by
  have HD := fun (W : World) (hb : Below w.heap.size w W) => dec_any a n c bs W (h.below hb) hb8 hs
  have HR := fun (W : World) => pread_any t W ht
  cases hd : decR bs with
  | ok x =>
    rw [hd] at HD
    have HDE := Lib.hid HD
    cases hr : readR (natB t) with
    | ok q2 =>
      rw [hr] at HR
      exact perr_ok_ok a n c t w _ _ _ _ _ _ _ HAW HDE (Lib.hid HR)
    | error g =>
      rw [hr] at HR
      have hg := readR_err hr
      obtain ⟨gn, ga⟩ := g
      have hg : gn = 91 := hg
      subst hg
      exact perr_ok_e a n c t w _ _ _ _ ga HAW HDE (Lib.hid fun W => (HR W).mono fun e w' h => by obtain ⟨v, he, hv, hb⟩ := h; obtain ⟨T, u, rfl⟩ := hv.if2; exact ⟨T, u, he, hv, hb⟩) (Lib.hid zv_zero) (Lib.hid fun T u W h => is_bel rfl (is_err (.iface T u) ⟨91, _⟩ 91 W h))
  | error f =>
    rw [hd] at HD
    have hf := decR_90 hd
    obtain ⟨fn, fa⟩ := f
    have hf : fn = 90 ∨ fn = 91 := hf
    rcases hf with rfl | rfl
    · have HDE := Lib.hid fun (W : World) (hb : Below w.heap.size w W) => (HD W hb).mono (R' := fun e w' => ∃ T u, e = .returned (.tuple #[.agg #[.bool false, .slice none 0 0, .slice none 0 0], .int .i64 0, .iface T u]) ∧ ErrW w' (.iface T u) ⟨90, fa⟩ ∧ Below W.heap.size W w') fun e w' h => by obtain ⟨v, he, hv, hb⟩ := h; obtain ⟨T, u, rfl⟩ := hv.if2; exact ⟨T, u, he, hv, hb⟩
      cases hr : readR (natB t) with
      | ok q2 =>
        rw [hr] at HR
        exact perr_90_ok a n c t w fa _ _ _ HAW HDE (Lib.hid HR) (Lib.hid zv_zero) (Lib.hid fun T u W h => is_bel rfl (is_err (.iface T u) ⟨90, _⟩ 90 W h))
      | error g =>
        rw [hr] at HR
        have hg := readR_err hr
        obtain ⟨gn, ga⟩ := g
        have hg : gn = 91 := hg
        subst hg
        exact perr_90_e a n c t w fa ga HAW HDE (Lib.hid fun W => (HR W).mono fun e w' h => by obtain ⟨v, he, hv, hb⟩ := h; obtain ⟨T, u, rfl⟩ := hv.if2; exact ⟨T, u, he, hv, hb⟩) (Lib.hid zv_zero) (Lib.hid fun T u W h => is_bel rfl (is_err (.iface T u) ⟨90, _⟩ 90 W h)) (Lib.hid fun T u W h => is_bel rfl (is_err (.iface T u) ⟨91, _⟩ 91 W h))
    · have HDE := Lib.hid fun (W : World) (hb : Below w.heap.size w W) => (HD W hb).mono (R' := fun e w' => ∃ T u, e = .returned (.tuple #[.agg #[.bool false, .slice none 0 0, .slice none 0 0], .int .i64 0, .iface T u]) ∧ ErrW w' (.iface T u) ⟨91, fa⟩ ∧ Below W.heap.size W w') fun e w' h => by obtain ⟨v, he, hv, hb⟩ := h; obtain ⟨T, u, rfl⟩ := hv.if2; exact ⟨T, u, he, hv, hb⟩
      cases hr : readR (natB t) with
      | ok q2 =>
        rw [hr] at HR
        exact perr_91_ok a n c t w fa _ _ _ HAW HDE (Lib.hid HR) (Lib.hid zv_zero) (Lib.hid fun T u W h => is_bel rfl (is_err (.iface T u) ⟨91, _⟩ 90 W h)) (Lib.hid fun T u W h => is_bel rfl (is_err (.iface T u) ⟨91, _⟩ 91 W h))
      | error g =>
        rw [hr] at HR
        have hg := readR_err hr
        obtain ⟨gn, ga⟩ := g
        have hg : gn = 91 := hg
        subst hg
        exact perr_91_e a n c t w fa ga HAW HDE (Lib.hid fun W => (HR W).mono fun e w' h => by obtain ⟨v, he, hv, hb⟩ := h; obtain ⟨T, u, rfl⟩ := hv.if2; exact ⟨T, u, he, hv, hb⟩) (Lib.hid zv_zero) (Lib.hid fun T u W h => is_bel rfl (is_err (.iface T u) ⟨91, _⟩ 90 W h)) (Lib.hid fun T u W h => is_bel rfl (is_err (.iface T u) ⟨91, _⟩ 91 W h)) (Lib.hid fun T u W h => is_bel rfl (is_err (.iface T u) ⟨91, _⟩ 91 W h))
end Go.Proofs.YtmhainidincjhaaGreatDoor
