/-
  The law MessageShort answers true; the conditions: the message that is handed in is in memory, and of bounded size.
  Printed by a program of this repository (wip/mg48.py).
-/
import Derived.Test.YtmhainidincjhaaGreatDoorHMShort
import Derived.Test.YtmhainidincjhaaGreatDoorHN
set_option linter.unusedVariables false
set_option linter.unusedSimpArgs false
set_option maxRecDepth 100000
set_option maxHeartbeats 16000000
namespace Go.Proofs.YtmhainidincjhaaGreatDoor
open Go.RowKit Go.Extern.Stop Go.Stop Go.Extern
theorem layP_err {p : Prt} {k : Int} (h : layP p = .error k) : k = 270 ∨ k = 3 := by
  cases p with
  | num n lo hi => rw [layP_num] at h; split at h <;> cases h <;> exact .inl rfl
  | idn n => rw [layP_idn] at h; split at h <;> cases h <;> exact .inl rfl
  | tok t => rw [layP_tok] at h; split at h <;> cases h <;> exact .inl rfl
  | rat q =>
    rw [layP_rat] at h
    obtain ⟨e1, e2⟩ := enc_size q
    by_cases hs : 255 < ndig 256 q.num.natAbs ∨ (q.den ≠ 1 ∧ 255 < ndig 256 q.den)
    · obtain ⟨f, hf, h3⟩ := e1 hs
      rw [hf] at h
      injection h with h
      exact .inr (h.symm.trans h3)
    · obtain ⟨l, hl, _⟩ := e2 hs
      rw [hl] at h
      cases h
  | i64 n => rw [layP_i64] at h; cases h
  | raw t => rw [layP_raw] at h; cases h
  | two n => rw [layP_two] at h; split at h <;> cases h <;> exact .inl rfl
theorem lays_err : ∀ (ps : List Prt) (out : List Nat) (x : Int × Nat), lays (.ok out) ps = .error x → x.1 = 270 ∨ x.1 = 3
  | [], out, x, h => by rw [lays_nil] at h; cases h
  | p :: ps, out, x, h => by
    rw [lays_cons] at h
    cases hb : layP p with
    | error e =>
      rw [show lay1 (.ok out) p = .error (e, out.length) from by unfold lay1; simp only [hb], lays_error] at h
      injection h with h
      subst h
      exact layP_err hb
    | ok b =>
      rw [show lay1 (.ok out) p = .ok (out ++ b) from by unfold lay1; simp only [hb]] at h
      exact lays_err ps _ x h
theorem lays_grow : ∀ (ps : List Prt) (out l : List Nat), lays (.ok out) ps = .ok l → out.length ≤ l.length
  | [], out, l, h => by rw [lays_nil] at h; injection h with h; subst h; exact Nat.le_refl _
  | p :: ps, out, l, h => by
    rw [lays_cons] at h
    cases hb : layP p with
    | error e =>
      rw [show lay1 (.ok out) p = .error (e, out.length) from by unfold lay1; simp only [hb], lays_error] at h
      cases h
    | ok b =>
      rw [show lay1 (.ok out) p = .ok (out ++ b) from by unfold lay1; simp only [hb]] at h
      have := lays_grow ps _ l h
      rw [List.length_append] at this
      omega
theorem encM_long {m : Msg} {l : List Nat} (h : encM m = .ok l) : 3 ≤ l.length := by
  unfold encM partsM at h
  rw [lays_cons, lays_cons] at h
  cases ha : layP (.num m.verb 1 5) with
  | error e => rw [show lay1 (.ok []) (.num m.verb 1 5) = .error (e, 0) from by unfold lay1; simp only [ha]; rfl] at h; exact absurd h (by rw [show lay1 (.error (e, 0)) (.tok m.token) = .error (e, 0) from rfl, lays_error]; intro h; cases h)
  | ok b =>
    rw [show lay1 (.ok []) (.num m.verb 1 5) = .ok ([] ++ b) from by unfold lay1; simp only [ha]] at h
    cases hc : layP (.tok m.token) with
    | error e => rw [show lay1 (.ok ([] ++ b)) (.tok m.token) = .error (e, ([] ++ b).length) from by unfold lay1; simp only [hc], lays_error] at h; cases h
    | ok d =>
      rw [show lay1 (.ok ([] ++ b)) (.tok m.token) = .ok (([] ++ b) ++ d) from by unfold lay1; simp only [hc]] at h
      have h1 := lays_grow _ _ _ h
      rw [layP_tok] at hc
      split at hc
      · injection hc with hc
        subst hc
        rw [List.length_append] at h1
        omega
      · cases hc
theorem mshort_any (x : RawV) (cut mb : Int) (w : World) (hg : Hg w) (hx : RawW w x) (hy0 : 0 ≤ cut) (hy1 : cut ≤ 65535) (hm0 : 0 ≤ mb) (hm1 : mb ≤ 255) :
    Calls Tryz.prog 9 #[.agg #[.int .i64 x.verb, .int .i64 x.ses, .int .i64 x.rig, .string x.tk, .string x.ot, .int .i64 x.op, .int .i64 x.row, .int .i64 x.col, .int .i64 x.kind, .bool x.sg, .slice x.a x.n x.c, .slice x.b x.m x.d, .slice x.ea x.en x.ec], .int .u16 cut, .int .u8 mb] w fun e w' => e = .returned (.bool true) ∧ Below w.heap.size w w' := by
  have HAW := Lib.hid fun W (hbl : Below w.heap.size w W) => mawake_any W (hg.below hbl hg.lt)
  have HMK := Lib.hid fun W (hbl : Below w.heap.size w W) => mmake_any x W (hx.below hbl)
  have keep : ∀ {f : Nat} {vs : Array Value} {W : World} {b b' : Bool}, b' = b → Calls Tryz.prog f vs W (fun e w' => e = .returned (.bool b') ∧ w' = W) → Calls Tryz.prog f vs W (fun e w' => e = .returned (.bool b) ∧ Below W.heap.size W w') :=
    fun hb h => h.mono fun e w' ⟨h1, h2⟩ => by subst hb; exact ⟨h1, h2 ▸ Below.refl _ _⟩
  have keep2 : ∀ {f : Nat} {vs : Array Value} {W : World} {b b' : Bool}, b' = b → Calls Tryz.prog f vs W (fun e w' => e = .returned (.bool b') ∧ Below W.heap.size W w') → Calls Tryz.prog f vs W (fun e w' => e = .returned (.bool b) ∧ Below W.heap.size W w') :=
    fun hb h => by subst hb; exact h
  cases he : encM x.msg with
  | error f =>
    have HEN := Lib.hid fun (y : MsgV) (W : World) (hy : MO W y) (hm : y.msg = x.msg) => (menc_any y W hy).mono fun e w' (hh : RetM (encM y.msg) W e w') => (by
      rw [hm, he] at hh
      obtain ⟨v, k1, k2, k3⟩ := hh
      have k4 := k2
      obtain ⟨eb, u, rfl, _⟩ := k2
      exact ⟨eb, k1, k4, k3⟩ : ∃ eb, e = .returned (.tuple #[.slice none 0 0, eF eb]) ∧ EB w' eb f.1 f.2 ∧ Below W.heap.size W w')
    rcases lays_err _ _ _ he with h3 | h3
    · exact mshort_err x x.msg cut mb f.1 f.2 w HAW HMK HEN (Lib.hid fun eb W h => keep (by rw [h3]; rfl) (is_B _ f.1 f.2 _ 270 W h))
    · exact mshort_big x x.msg cut mb f.1 f.2 w HAW HMK HEN (Lib.hid fun eb W h => keep (by rw [h3]; rfl) (is_B _ f.1 f.2 _ 270 W h)) (Lib.hid fun eb W h => keep (by rw [h3]; rfl) (is_B _ f.1 f.2 _ 3 W h))
  | ok l =>
    obtain ⟨f1, f2⟩ := encM_fine (m := x.msg) (natB_lt x.tk) (natB_lt x.ot) he
    have hle : x.msg.ask.es.length = x.en := by show (x.es.map RawE.ent).length = _; rw [List.length_map, hx.len]
    have hen := hx.en
    have hlong := encM_long he
    obtain ⟨m', d1, d2, _⟩ := decM_enc he
    obtain ⟨n, rfl⟩ : ∃ n : Nat, mb = (n : Int) := ⟨mb.toNat, by omega⟩
    have hkz : (cut % (l.length : Int)).toNat < l.length := by
      have h1 := Int.emod_lt_of_pos cut (show (0 : Int) < (l.length : Int) by omega)
      have h2 := Int.emod_nonneg cut (show (l.length : Int) ≠ 0 by omega)
      omega
    have hkk : cut % (l.length : Int) = ((cut % (l.length : Int)).toNat : Int) := by
      have h2 := Int.emod_nonneg cut (show (l.length : Int) ≠ 0 by omega)
      omega
    generalize (cut % (l.length : Int)).toNat = k at hkz hkk
    obtain ⟨at1, hcut⟩ := decM_cut f1 d1 hkz
    have hmore := decM_more f1 d1 n
    refine mshort_ok x x.msg cut l.length l n k at1 hy0 hy1 hlong (by omega) hkz hkk w (Lib.hid hg) HAW HMK
      (Lib.hid fun y W hy hm => (menc_any y W hy).mono fun e w' (hh : RetM (encM y.msg) W e w') => ?_)
      (Lib.hid fun a2 c2 W hb => (mdec_any a2 k c2 (l.take k) W (BytesN.pre hb k (by omega)) (fun y hy => f1 y (List.mem_of_mem_take hy)) (by omega)).mono fun e w' (hh : RetMD (decM (l.take k)) W e w') => ?_)
      (Lib.hid fun a2 c2 W hb => (mdec_any a2 (l.length + 1) c2 (l ++ [n]) W hb (fun y hy => ?_) (by omega)).mono fun e w' (hh : RetMD (decM (l ++ [n])) W e w') => ?_)
      (Lib.hid fun eb W h => keep rfl (is_B _ 90 at1 _ 90 W h)) (Lib.hid fun eb W hg h => told_B _ 270 l.length _ W hg h)
      (Lib.hid fun eb W h => keep2 rfl (bad_B _ 90 at1 _ W h)) (Lib.hid fun eb W h => keep2 rfl (bad_B _ 270 l.length _ W h))
    · rw [hm, he] at hh
      exact hh
    · rw [hcut] at hh
      obtain ⟨v, k1, k2, k3⟩ := hh
      have k4 := k2
      obtain ⟨eb, u, rfl, _⟩ := k2
      exact ⟨eb, k1, k4, k3⟩
    · rcases List.mem_append.1 hy with hy | hy
      · exact f1 y hy
      · rw [List.mem_singleton] at hy; omega
    · rw [hmore] at hh
      obtain ⟨v, k1, k2, k3⟩ := hh
      have k4 := k2
      obtain ⟨eb, u, rfl, _⟩ := k2
      exact ⟨eb, k1, k4, k3⟩
end Go.Proofs.YtmhainidincjhaaGreatDoor
