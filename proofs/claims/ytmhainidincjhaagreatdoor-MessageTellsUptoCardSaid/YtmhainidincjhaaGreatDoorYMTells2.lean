/-
 MessageTells answers true; the conditions: the message that is handed in is in memory, and of bounded sizes; the library's own global is as it began; awake answers true.
 Printed by a program of this repository (wip/rf37.py).
-/
import Derived.Test.YtmhainidincjhaaGreatDoorYMTells
import Derived.Test.YtmhainidincjhaaGreatDoorYRc
set_option linter.unusedVariables false
set_option linter.unusedSimpArgs false
set_option maxRecDepth 100000
set_option maxHeartbeats 16000000
namespace Go.Proofs.YtmhainidincjhaaGreatDoor
open Go.RowKit Go.Extern.Stop Go.Stop Go.Extern
theorem layP_err {p : Prt} {k : Int} (h : layP p = .error k) : k = 270 ∨ k = 3 := by
 cases p with
 | num n lo hi => rw [layP_num] at h; split at h <;> cases h <;> exact .inl rfl
 | idn n => rw [layP_idn] at h; split at h <;> cases h <;> exact .inl rfl
 | tok t => rw [layP_tok] at h; split at h <;> cases h <;> exact .inl rfl
 | rat q =>
  rw [layP_rat] at h
  obtain ⟨e1, e2⟩ := enc_size q
  by_cases hs : 255 < ndig 256 q.num.natAbs ∨ (q.den ≠ 1 ∧ 255 < ndig 256 q.den)
  ·
   obtain ⟨f, hf, h3⟩ := e1 hs
   rw [hf] at h
   injection h with h
   exact .inr (h.symm.trans h3)
  ·
   obtain ⟨l, hl, _⟩ := e2 hs
   rw [hl] at h
   cases h
 | i64 n => rw [layP_i64] at h; cases h
 | raw t => rw [layP_raw] at h; cases h
 | two n => rw [layP_two] at h; split at h <;> cases h <;> exact .inl rfl
theorem lays_err : ∀ (ps : List Prt) (out : List Nat) (x : Int × Nat), lays (.ok out) ps = .error x → x.1 = 270 ∨ x.1 = 3
 | [], out, x, h => by rw [lays_nil] at h; cases h
 | p :: ps, out, x, h => by
  rw [lays_cons] at h
  cases hb : layP p with
  | error e =>
   rw [show lay1 (.ok out) p = .error (e, out.length) from by unfold lay1; simp only [hb], lays_error] at h
   injection h with h
   subst h
   exact layP_err hb
  | ok b =>
   rw [show lay1 (.ok out) p = .ok (out ++ b) from by unfold lay1; simp only [hb]] at h
   exact lays_err ps _ x h
def lenM : WS → Nat
 | .ok l => l.length
 | .error _ => 0
def bytM : WS → List Nat
 | .ok l => l
 | .error _ => []
def kM : WS → Int
 | .ok _ => 0
 | .error x => x.1
def atM : WS → Int
 | .ok _ => 0
 | .error x => (x.2 : Nat)
theorem mtells_any (x : RawV) (w : World) (hg : Hg w) (h : RawW w x) (HAW : Hid (∀ W, Below w.heap.size w W → Calls Tryz.prog 16 #[] W (fun e w' => e = .returned (.bool true) ∧ Below W.heap.size W w'))) :
  Calls Tryz.prog 3 #[.agg #[.int .i64 x.verb, .int .i64 x.ses, .int .i64 x.rig, .string x.tk, .string x.ot, .int .i64 x.op, .int .i64 x.row, .int .i64 x.col, .int .i64 x.kind, .bool x.sg, .slice x.a x.n x.c, .slice x.b x.m x.d, .slice x.ea x.en x.ec]] w fun e w' => e = .returned (.bool true) ∧ Below w.heap.size w w' := by
 have hk := fun y (h : encM x.msg = .error y) => lays_err (partsM x.msg) [] y h
 obtain ⟨r, hr⟩ : ∃ r, encM x.msg = r := ⟨_, rfl⟩
 rw [hr] at hk
 refine mtells_walk x x.msg (lenM r) (bytM r) r (kM r) (atM r) (strB (bytM r)) (if kM r = 0 then ⟨#[]⟩ else ⟨#[98, 121, 116, 101]⟩) w HAW (Lib.hid fun W hb => f27short x W (h.below hb)) (Lib.hid fun W hb => mmake_any x W (h.below hb))
  (Lib.hid fun y W hy hm => (menc_any y W hy).mono fun e w' hh => ?_) (Lib.hid fun h70 W hb => f27ref x W (h.below hb) (by omega)) (Lib.hid fun y W hy hm => (f27encode y W hy).mono fun e w' hh => ?_)
  (Lib.hid fun a c W hs => ?_) (Lib.hid fun W => f27place (kM r) W) (Lib.hid fun v W hb hv => ?_)
 ·
  rw [hm, hr] at hh
  cases r with
  | ok l =>
   obtain ⟨a, c, he, hmid, hbel⟩ := hh
   exact ⟨a, c, _, he, Sl.ofMid hmid, rfl, hbel⟩
  | error x =>
   obtain ⟨v, he, hv, hbel⟩ := hh
   exact ⟨none, 0, v, he, SB.nil w', hv, hbel⟩
 ·
  rw [hm, hr] at hh
  cases r with
  | ok l =>
   obtain ⟨a, c, he, hs, hbel⟩ := hh
   exact ⟨a, c, he, hs, hbel⟩
  | error x =>
   obtain ⟨he, hbel⟩ := hh
   exact ⟨none, 0, he, SB.nil w', hbel⟩
 ·
  cases r with
  | ok l => exact conv_any a _ c _ W hs
  | error x => exact conv_any a _ c _ W hs
 ·
  cases r with
  | ok l =>
   obtain rfl : v = .nilIface := hv
   exact told_nil 0 W
  | error x =>
   have h9 := hk x rfl
   have h8 : kM (.error x) ≠ 0 := by show x.1 ≠ 0; omega
   rw [if_neg h8]
   exact told_B v x.1 x.2 _ W (hg.below hb hg.lt) hv
end Go.Proofs.YtmhainidincjhaaGreatDoor
