/-
 The law PackReads answers true; the conditions: the library's own global is as it began, the bytes are in memory.
 Printed by a program of this repository (wip/rf26.py).
-/
import Derived.Test.YtmhainidincjhaaGreatDoorVLReads
import Derived.Test.YtmhainidincjhaaGreatDoorVZ
import Derived.Test.YtmhainidincjhaaGreatDoorVC
import Derived.Test.YtmhainidincjhaaGreatDoorVL
import Derived.Test.YtmhainidincjhaaGreatDoorVR
set_option linter.unusedVariables false
set_option linter.unusedSimpArgs false
set_option maxRecDepth 100000
set_option maxHeartbeats 16000000
namespace Go.Proofs.YtmhainidincjhaaGreatDoor
open Go.RowKit Go.Extern.Stop Go.Stop Go.Extern
def errD {α : Type} (r : Except Flt α) : Option Flt := match r with
 | .ok _ => none
 | .error f => some f
theorem dec_eo {r : Except Flt (Rat × Nat)} {w w' : World} {e : Ending} (h : RetD9 r w e w') :
  ∃ a8 c8 b9 d9 v, e = .returned (.tuple #[ratV a8 c8 b9 d9 (ratD r), .int .i64 (numD r : Nat), v]) ∧ EO (errD r) w' v ∧ NatW w' a8 c8 (ratD r).num.natAbs ∧ NatW w' b9 d9 (denN (ratD r).den) ∧ Below w.heap.size w w' := by
 cases r with
 | ok x =>
  obtain ⟨a, c, b, d, he, h1, h2, hb⟩ := h
  exact ⟨a, c, b, d, _, he, rfl, h1, h2, hb⟩
 | error f =>
  obtain ⟨v, he, hw, hb⟩ := h
  exact ⟨none, 0, none, 0, v, by rw [show ratD (.error f : Except Flt (Rat × Nat)) = 0 from rfl, zv_rat]; exact he, hw, NatW.zero _, NatW.zero _, hb⟩
theorem read_eo {r : Except Flt Rat} {w w' : World} {e : Ending} (h : RetR9 r w e w') :
  ∃ a8 c8 b9 d9 v, e = .returned (.tuple #[ratV a8 c8 b9 d9 (ratE r), v]) ∧ EO (errD r) w' v ∧ NatW w' a8 c8 (ratE r).num.natAbs ∧ NatW w' b9 d9 (denN (ratE r).den) ∧ Below w.heap.size w w' := by
 cases r with
 | ok x =>
  obtain ⟨a, c, b, d, he, h1, h2, hb⟩ := h
  exact ⟨a, c, b, d, _, he, rfl, h1, h2, hb⟩
 | error f =>
  obtain ⟨v, he, hw, hb⟩ := h
  exact ⟨none, 0, none, 0, v, by rw [show ratE (.error f : Except Flt Rat) = 0 from rfl, zv_rat]; exact he, hw, NatW.zero _, NatW.zero _, hb⟩
theorem dec_at {b : List Nat} {n : Int} {x : List Nat × Int} (h : decR b = .error ⟨n, some x⟩) : x.1 = sDiv ∨ x.1 = sNum := by
 cases b with
 | nil => injection h with h; injection h with h1 h2; cases h2
 | cons t r =>
  unfold decR at h
  simp only at h
  split at h
  ·
   cases h
  ·
   split at h
   ·
    injection h with h; injection h with h1 h2; cases h2
   ·
    split at h
    ·
     injection h with h; injection h with h1 h2; injection h2 with h2; subst h2; exact .inl rfl
    ·
     split at h
     ·
      injection h with h; injection h with h1 h2; injection h2 with h2; subst h2; exact .inr rfl
     ·
      split at h
      ·
       cases h
      ·
       injection h with h; injection h with h1 h2; cases h2
theorem read_at {b : List Nat} {n : Int} {x : List Nat × Int} (h : readR b = .error ⟨n, some x⟩) : x.1 = sDiv ∨ x.1 = sNum := by
 unfold readR at h
 split at h
 ·
  injection h with h; injection h with h1 h2; injection h2 with h2; subst h2; exact .inr rfl
 ·
  split at h
  ·
   cases h
  ·
   split at h
   ·
    injection h with h; injection h with h1 h2; injection h2 with h2; subst h2; exact .inl rfl
   ·
    split at h
    ·
     injection h with h; injection h with h1 h2; injection h2 with h2; subst h2; exact .inl rfl
    ·
     split at h
     ·
      cases h
     ·
      injection h with h; injection h with h1 h2; cases h2
theorem told_er {α : Type} {r : Except Flt α} (hr : ∀ n x, r = .error ⟨n, some x⟩ → x.1 = sDiv ∨ x.1 = sNum) (v : Value) (w : World) (hg : Hg w) (h : EO (errD r) w v) : Calls Tryz.prog 22 #[v, .int .i64 (eN r), .string (eS r), .int .i64 (eK r)] w fun e w' => e = .returned (.bool true) ∧ Below w.heap.size w w' := by
 cases r with
 | ok l =>
  obtain rfl : v = .nilIface := h
  exact told_nil 0 w
 | error f =>
  obtain ⟨n, at9⟩ := f
  cases at9 with
  | none =>
   obtain rfl : v = eE n := h
   exact told_E n n 0 ⟨#[]⟩ w hg rfl (by decide +kernel)
  | some x =>
   obtain ⟨pb, rfl, hf⟩ := h
   refine told_F pb n n x.2 x.2 _ _ w hg hf rfl rfl rfl ?_
   rcases hr n x rfl with h1 | h1 <;> rw [h1]
   ·
    exact (by decide +kernel : (strB sDiv).toList ≠ [])
   ·
    exact (by decide +kernel : (strB sNum).toList ≠ [])
theorem dec_size {b : List Nat} (h8 : ∀ x, x ∈ b → x < 256) : lenW (ratD (decR b)).num.natAbs ≤ 255 ∧ lenW (ratD (decR b)).den ≤ 255 := by
 cases h : decR b with
 | error f => exact ⟨by rw [show (ratD (.error f : Except Flt (Rat × Nat))).num.natAbs = 0 from rfl, lenW_zero]; omega, by rw [show (ratD (.error f : Except Flt (Rat × Nat))).den = 1 from rfl]; exact Nat.le_trans (wd_small (by unfold W64; omega)) (by omega)⟩
 | ok x =>
  obtain ⟨q, m⟩ := x
  exact enc_words (enc_dec h8 h).1
theorem read_size {b : List Nat} : lenW (ratE (readR b)).num.natAbs ≤ b.length ∧ lenW (ratE (readR b)).den ≤ b.length + 1 := by
 cases h : readR b with
 | error f => exact ⟨by rw [show (ratE (.error f : Except Flt Rat)).num.natAbs = 0 from rfl, lenW_zero]; omega, by rw [show (ratE (.error f : Except Flt Rat)).den = 1 from rfl]; exact Nat.le_trans (wd_small (by unfold W64; omega)) (by omega)⟩
 | ok q =>
  have h1 := textR_read h
  have h2 := textR_ge q
  rw [h1] at h2
  exact h2
theorem packReads_any (a : Option Addr) (n c : Nat) (bs : List Nat) (s : ByteArray) (w : World) (hg : Hg w) (h : BytesN w (.slice a n c) bs) (h8 : ∀ x, x ∈ bs → x < 256) :
  Calls Tryz.prog 8 #[.slice a n c, .string s] w fun e w' => e = .returned (.bool true) ∧ Below w.heap.size w w' := by
 have HAW := Lib.hid fun W (hb : Below w.heap.size w W) => awake_any W (hg.below hb hg.lt)
 have hcl := h.len
 rcases Nat.lt_or_ge 600 n with hn | hn
 ·
  exact reads_long a n c s w ⟨hcl.2.1, hcl.2.2.1⟩ hn HAW
 rcases Nat.lt_or_ge 300 s.size with hs | hs
 ·
  exact reads_long2 a n c s w ⟨hcl.2.1, hcl.2.2.1⟩ hn hs HAW
 have hd := dec_size h8
 have hr := read_size (b := natB s)
 rw [natB_len] at hr
 have h1 := fun (W : World) (hb : Below w.heap.size w W) => (dec_any a n c bs W (h.below hb) h8 (by omega)).mono fun e w' hh => dec_eo hh
 have h2 := fun (W : World) (hb : Below w.heap.size w W) => f9dec a n c bs W (h.below hb) h8 (by omega)
 have h5 := fun (W : World) => (pread_any s W (by omega)).mono fun e w' hh => read_eo hh
 have h6 := fun (W : World) => f9read s W (by omega)
 unfold ratV at h1 h5
 exact reads_walk a n c s w ⟨hcl.2.1, hcl.2.2.1⟩ hn hs _ _ _ _ (errD (decR bs)) (eN (decR bs)) (eK (decR bs)) (eS (decR bs)) (numD (decR bs)) _ _ _ _ (errD (readR (natB s))) (eN (readR (natB s))) (eK (readR (natB s))) (eS (readR (natB s))) HAW
  (Lib.hid h1)
  (Lib.hid h2)
  (Lib.hid fun v W hb hp => like_walk v _ _ _ W (Lib.hid fun W2 hb2 => told_er (fun n x hx => dec_at hx) v W2 (hg.below (bthen hb hb2) hg.lt) (hp.below hb2)))
  (Lib.hid fun a8 c8 b9 d9 a5 n5 c5 b6 m6 d6 W q1 q2 q3 => like8_any _ a8 b9 c8 d9 a5 b6 n5 c5 m6 d6 W q1 q2 q3 (by omega) (by omega))
  (Lib.hid fun W _ => h5 W)
  (Lib.hid fun W _ => h6 W)
  (Lib.hid fun v W hb hp => like_walk v _ _ _ W (Lib.hid fun W2 hb2 => told_er (fun n x hx => read_at hx) v W2 (hg.below (bthen hb hb2) hg.lt) (hp.below hb2)))
  (Lib.hid fun a8 c8 b9 d9 a5 n5 c5 b6 m6 d6 W q1 q2 q3 => like8_any _ a8 b9 c8 d9 a5 b6 n5 c5 m6 d6 W q1 q2 q3 (by omega) (by omega))
end Go.Proofs.YtmhainidincjhaaGreatDoor
