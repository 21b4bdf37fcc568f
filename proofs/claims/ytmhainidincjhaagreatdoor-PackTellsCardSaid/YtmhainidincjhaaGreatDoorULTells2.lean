/-
  The law PackTells answers true; the conditions: the library's own global is as it began, the words are in memory.
  Printed by a program of this repository (wip/rf19.py).
-/
import Derived.Test.YtmhainidincjhaaGreatDoorULTells
import Derived.Test.YtmhainidincjhaaGreatDoorUG
import Derived.Test.YtmhainidincjhaaGreatDoorUL
set_option linter.unusedVariables false
set_option linter.unusedSimpArgs false
set_option maxRecDepth 100000
set_option maxHeartbeats 16000000
namespace Go.Proofs.YtmhainidincjhaaGreatDoor
open Go.RowKit Go.Extern.Stop Go.Stop Go.Extern
def fN (r : Except Flt (List Nat)) : Int := match r with
  | .ok _ => 0
  | .error f => f.n
def fS (r : Except Flt (List Nat)) : ByteArray := match r with
  | .ok _ => ⟨#[]⟩
  | .error f => match f.at? with
    | none => ⟨#[]⟩
    | some x => strB x.1
def fK (r : Except Flt (List Nat)) : Int := match r with
  | .ok _ => 0
  | .error f => match f.at? with
    | none => 0
    | some x => x.2
theorem SB.nil (w : World) : SB w none 0 0 [] := ⟨rfl, .inl ⟨none, 0, rfl, rfl, Nat.zero_le _, fun _ => rfl⟩⟩
theorem enc_ep {r : Except Flt (List Nat)} {w w' : World} {e : Ending} (h : RetE9 r w e w') : ∃ a2 c2 v, e = .returned (.tuple #[.slice a2 (bytesE r).length c2, v]) ∧ SB w' a2 (bytesE r).length c2 (bytesE r) ∧ EP r w' v ∧ Below w.heap.size w w' := by
  cases r with
  | ok l =>
    obtain ⟨a2, c2, he, hm, hb⟩ := h
    exact ⟨a2, c2, _, he, Sl.ofMid hm, rfl, hb⟩
  | error f =>
    obtain ⟨v, he, hw, hb, _⟩ := h
    exact ⟨none, 0, v, he, SB.nil w', hw, hb⟩
theorem enc_fe {r : Except Flt (List Nat)} {w w' : World} {e : Ending} (h : RetFE r w e w') : ∃ a2 c2, e = .returned (.tuple #[.slice a2 (bytesE r).length c2, .agg #[.int .i64 (fN r), .string (fS r), .int .i64 (fK r)]]) ∧ SB w' a2 (bytesE r).length c2 (bytesE r) ∧ Below w.heap.size w w' := by
  cases r with
  | ok l =>
    obtain ⟨a2, c2, he, hm, hb⟩ := h
    exact ⟨a2, c2, he, hm, hb⟩
  | error f =>
    obtain ⟨he, hb⟩ := h
    obtain ⟨n, at9⟩ := f
    cases at9 with
    | none => exact ⟨none, 0, he, SB.nil w', hb⟩
    | some x => exact ⟨none, 0, he, SB.nil w', hb⟩
theorem told_nil (k : Int) (w : World) : Calls Tryz.prog 22 #[.nilIface, .int .i64 0, .string ⟨#[]⟩, .int .i64 k] w fun e w' => e = .returned (.bool true) ∧ Below w.heap.size w w' := by
  have hs1 : (⟨#[]⟩ : ByteArray).toList.isEmpty = true := by decide +kernel
  go_enter Tryz.func22, Tryz.ntmps22
  go_wp2_with fail
  refine (place_nil _).mono ?_
  rintro e w1 ⟨rfl, hb⟩
  have HB := Lib.hid hb; clear hb
  go_wp2_with fail
  refine (number_nil _).mono ?_
  rintro e w2 ⟨rfl, hb2⟩
  have HB2 := Lib.hid hb2; clear hb2
  go_wp2
  go_ret
  exact ⟨rfl, HB.out.trans (HB2.out.mono HB.out.size)⟩
def Named (r : Except Flt (List Nat)) : Prop := ∀ f x, r = .error f → f.at? = some x → (strB x.1).toList ≠ []
theorem told_ep {r : Except Flt (List Nat)} (hr : Named r) (v : Value) (w : World) (hg : Hg w) (h : EP r w v) : Calls Tryz.prog 22 #[v, .int .i64 (fN r), .string (fS r), .int .i64 (fK r)] w fun e w' => e = .returned (.bool true) ∧ Below w.heap.size w w' := by
  cases r with
  | ok l =>
    obtain rfl : v = .nilIface := h
    exact told_nil 0 w
  | error f =>
    obtain ⟨n, at9⟩ := f
    cases at9 with
    | none =>
      obtain rfl : v = eE n := h
      exact told_E n n 0 ⟨#[]⟩ w hg rfl (by decide +kernel)
    | some x =>
      obtain ⟨pb, rfl, hf⟩ := h
      exact told_F pb n n x.2 x.2 _ _ w hg hf rfl rfl rfl (hr _ x rfl rfl)
theorem like_walk (v : Value) (fe fk : Int) (fs : ByteArray) (w : World)
    (HTO : Hid (∀ W, Below w.heap.size w W → Calls Tryz.prog 22 #[v, .int .i64 fe, .string fs, .int .i64 fk] W (fun e w' => e = .returned (.bool true) ∧ Below W.heap.size W w'))) :
    Calls Tryz.prog 30 #[v, .agg #[.int .i64 fe, .string fs, .int .i64 fk]] w fun e w' => e = .returned (.bool true) ∧ Below w.heap.size w w' := by
  obtain ⟨W0, hW0⟩ : ∃ W0, W0 = (w.alloc (.cells #[.int .i64 fe, .string fs, .int .i64 fk] 74)) := ⟨_, rfl⟩
  have hbs : BS w [⟨w.heap.size, 74, [.int .i64 fe, .string fs, .int .i64 fk]⟩] [] (w.alloc (.cells #[.int .i64 fe, .string fs, .int .i64 fk] 74)) :=
      ((BS.start w).alloc (p := w.heap.size) rfl 74 [.int .i64 fe, .string fs, .int .i64 fk] rfl)
  rw [← hW0] at hbs
  have HW0 := Lib.hid hW0
  have HN := Lib.hid hbs
  clear hW0 hbs
  go_enter Tryz.func30, Tryz.ntmps30
  go_wp2_with fail
  rw [← HW0.out]
  refine (HTO.out _ HN.out.bel).mono ?_
  rintro e w1 ⟨rfl, hb⟩
  replace HN := Lib.hid (HN.out.call hb)
  clear hb 
  have k00 := HN.out.cell 0 0 rfl rfl
  have f00 := HN.out.free 0 0 rfl
  have k01 := HN.out.cell 0 1 rfl rfl
  have f01 := HN.out.free 0 1 rfl
  have k02 := HN.out.cell 0 2 rfl rfl
  have f02 := HN.out.free 0 2 rfl
  have HE := Lib.hid (HN.out)
  go_wp2_with fail
  refine bodyPost_ret (v := .bool true) (by simp [results, Tryz.results30, go_sem, k00, k01, k02]) rfl ?_
  exact ⟨rfl, HE.out.bel⟩
theorem enc_named (q : Rat) : Named (encR q) := fun f x hf hx => by
  unfold encR at hf
  split at hf
  · cases hf
  · split at hf
    · injection hf with hf; subst hf; cases hx; exact (by decide +kernel : (strB sDiv).toList ≠ [])
    · split at hf
      · injection hf with hf; subst hf; cases hx; exact (by decide +kernel : (strB sNum).toList ≠ [])
      · cases hf
theorem packTells_any (sg : Bool) (a b : Option Addr) (n c m d : Nat) (xs ys : List Nat) (w : World) (hg : Hg w) (h1 : Sl w 1 (.slice a n c) n (xs.map UV)) (h2 : Sl w 1 (.slice b m d) m (ys.map UV)) (hx : ∀ x ∈ xs, x < W64) (hy : ∀ x ∈ ys, x < W64) :
    Calls Tryz.prog 5 #[.agg #[.bool sg, .slice a n c, .slice b m d]] w fun e w' => e = .returned (.bool true) ∧ Below w.heap.size w w' := by
  have HAW := Lib.hid fun W (hb : Below w.heap.size w W) => awake_any W (hg.below hb hg.lt)
  rcases Nat.lt_or_ge 40 n with h40 | h40
  · exact tells_long sg a b n c m d w h40 HAW
  rcases Nat.lt_or_ge 40 m with h41 | h41
  · exact tells_long2 sg a b n c m d w h40 h41 HAW
  have h : PartW w a n c b m d xs ys := ⟨h1, h2, hx, hy, by omega, by omega⟩
  have hmk := h.make sg
  obtain ⟨hz1, hz2⟩ := h.size sg
  have hrf := fun (W : World) (hb : Below w.heap.size w W) => f8ref sg a b n c m d xs ys W (h.below hb)
  obtain ⟨q, hq⟩ : ∃ q, ratG sg xs ys = q := ⟨_, rfl⟩
  rw [hq] at hmk hz1 hz2 hrf
  have hNQ := fun (W : World) (a5 : Option Addr) (n5 c5 : Nat) (b6 : Option Addr) (m6 d6 : Nat) (h : QW W a5 n5 c5 b6 m6 d6 q.num.natAbs q.den) => (by
    have e1 := h.num.1
    have e2 := h.den.1
    have l1 : nd q.num.natAbs ≤ 4 * lenW q.num.natAbs := nd_le (by rw [Nat.pow_mul]; exact lt_lenW _)
    have l2 : nd q.den ≤ 4 * lenW q.den := nd_le (by rw [Nat.pow_mul]; exact lt_lenW _)
    exact ⟨by omega, by omega⟩ : n5 ≤ 4294967296 ∧ m6 ≤ 4294967296)
  exact tells_walk sg a b n c m d w _ _ _ _ _ _ _ _ (encR q) (fN (encR q)) (fK (encR q)) (fS (encR q)) _ _ h40 h41 HAW (Lib.hid hmk)
    (Lib.hid fun W hb => (hrf W hb).mono fun e w' hh => by obtain ⟨a5, n5, c5, b6, m6, d6, he, q1, q2, hb⟩ := hh; exact ⟨a5, n5, c5, b6, m6, d6, he, ⟨q1, q2⟩, hb⟩)
    (Lib.hid fun a8 c8 b9 d9 W q1 q2 => (enc_any a8 b9 c8 d9 q W q1 q2 (by omega) (by omega)).mono fun e w' hh => enc_ep hh)
    (Lib.hid fun a5 n5 c5 b6 m6 d6 W h => (f9enc q a5 b6 n5 c5 m6 d6 W h.num h.den (hNQ _ _ _ _ _ _ _ h).1 (hNQ _ _ _ _ _ _ _ h).2).mono fun e w' hh => enc_fe hh)
    (Lib.hid fun a c W hs => conv_any a _ c _ W hs)
    (Lib.hid fun v W hb hp => like_walk v _ _ _ W (Lib.hid fun W2 hb2 => told_ep (enc_named q) v W2 (hg.below (bthen hb hb2) hg.lt) (hp.below hb2)))
    (Lib.hid fun a8 c8 b9 d9 W q1 q2 => rtext_any a8 b9 c8 d9 q W q1 q2 (by omega) (by omega))
    (Lib.hid fun a5 n5 c5 b6 m6 d6 W h => f9text q a5 b6 n5 c5 m6 d6 W h.num h.den (hNQ _ _ _ _ _ _ _ h).1 (hNQ _ _ _ _ _ _ _ h).2)
end Go.Proofs.YtmhainidincjhaaGreatDoor
