/-
  does of actuarylaw28 by contract, act by act: it tells true, and the list goes on as the book does; the conditions: what errors.errorType holds, how many tokens there are, and that an act's numbers are ints.
  Printed by a program of this repository (wip/tok7.py).
-/
import Derived.Test.YtbhkbdmjikgpgaaDoorDoes
namespace Go.Proofs.YtbhkbdmjikgpgaaDoor
open Go.RowKit Go.Extern.Stop Go.Stop Go.Extern

/-- An operation that yields its value in every world that meets S is taken first; where its value goes is named. -/
theorem takeH {P : Program} {md : Region.Mode} {ops : Array Oper} {Q : Exit → Act → World → Prop} {S : World → Prop} {i : Nat} {oi : Oper} {d : Option Tmp} {v : Value} {fuel : Nat} {listed : Array Bool} {a : Act} {w : World} (hi : ops[i]? = some oi) (hd : oi.dst = d)
    (hs : Region.noSelect ops = true) (hf : Region.free md ops listed i = true) (hr : (Region.ready md ops listed).contains i = true)
    (hQ : ∀ c a w, Q (.panic c) (a.put d v) w → Q (.panic c) a w) (hy : YieldsIf P ops S oi v a) (hS : S w)
    (h : wpAnyH P md ops Q S fuel (listed.setIfInBounds i true) (a.put d v) w) : wpAnyH P md ops Q S (fuel + 1) listed a w := by
  subst hd
  exact wpAnyH_take hi hs hf hr hQ hy hS h
/-- The condition on the world may be turned into a stronger one on the way. -/
theorem takeH_switch {P : Program} {md : Region.Mode} {ops : Array Oper} {Q : Exit → Act → World → Prop} {S S' : World → Prop} (hm : ∀ w, S' w → S w) :
    ∀ (fuel : Nat) (listed : Array Bool) (a : Act) (w : World), wpAnyH P md ops Q S' fuel listed a w → wpAnyH P md ops Q S fuel listed a w
  | 0, _, _, _, h => h
  | fuel + 1, _, _, _, h => ⟨h.1, fun i hi => wpOp_mono (fun _ _ ⟨h1, h2⟩ => ⟨hm _ h1, takeH_switch hm fuel _ _ _ h2⟩) (h.2 i hi)⟩

set_option maxRecDepth 100000 in
set_option maxHeartbeats 2000000 in
theorem does_bad (w0 : World) (jb : Nat) (G : Nat → Prop) (l : List Gr) (a : Option Addr) (c : Nat) (u r : Int) (t : ByteArray) (w : World) (hg : Hg w) (h : St w0 jb G l a c w) (hm : t.size ≤ 9223372036854775807) (hv : t.size ≠ 8 ∨ u < 0 ∨ r < 0 ∨ 15 < r) :
    Calls Tryd.prog 10 #[.pointer (some ⟨jb, 0, none⟩), .slice a l.length c, .agg #[.int .i64 1, .int .i64 u, .int .i64 r, .string t]] w (DoesR w0 jb G w l) := by
  have HG := Lib.hid (hg.alloc (.cells #[.int .i64 1, .int .i64 u, .int .i64 r, .string t] 35))
  have HV := Lib.hid hv
  have hb : Below w.heap.size w (w.alloc (.cells #[.int .i64 1, .int .i64 u, .int .i64 r, .string t] 35)) := (Below.refl _ _).alloc (Nat.le_refl _) _
  have HS := Lib.hid (h.below hb)
  have HB := Lib.hid hb
  have HH := Lib.hid h
  have HF := Lib.hid (show ∃ v, Calls Tryd.prog 20 #[.slice a l.length c, .string t] (w.alloc (.cells #[.int .i64 1, .int .i64 u, .int .i64 r, .string t] 35)) fun e w' => e = .returned v ∧ (w.alloc (.cells #[.int .i64 1, .int .i64 u, .int .i64 r, .string t] 35)) = w' by
    cases hh : hit l t with
    | none => exact ⟨_, lfind_none a c l t _ HS.out.grs hh⟩
    | some g =>
      obtain ⟨i, hi, q1, q0⟩ := hit_first l t (by rw [hh]; simp)
      exact ⟨_, lfind_hit a c l t i _ HS.out.grs hi q1 q0⟩)
  obtain ⟨v, hf⟩ := HF.out
  have HF2 := Lib.hid hf
  clear hf HF
  clear hb h
  clear hg
  by_cases h8 : t.size = 8
  · have e8 : ((t.size : Int) != 8) = false := by rw [h8]; rfl
    have h' : u < 0 ∨ r < 0 ∨ 15 < r := by omega
    clear hv h8
    by_cases hu : u < 0
    · clear h'
      go_enter Tryd.func10, Tryd.ntmps10
      go_wp2_with fail
      refine HF2.out.mono ?_
      rintro e w1 ⟨rfl, rfl⟩
      go_wp2_with fail
      refine (mint_arg jb t u r _ hm HV.out).mono ?_
      rintro e w2 ⟨rfl, rfl⟩
      unfold eE
      go_wp2_with fail
      refine (told_E 1 1 0 ⟨#[]⟩ _ HG.out rfl (by rw [ByteArray.toList_eq])).mono ?_
      rintro e w3 ⟨rfl, hb3⟩
      have HB3 := Lib.hid hb3
      clear hb3
      go_wp2
      go_ret2
      exact DoesR.of_below HH.out (HB.out.trans (HB3.out.mono HB.out.size))
    · have h2 : r < 0 ∨ 15 < r := by omega
      clear h'
      by_cases hr : r < 0
      · clear h2
        go_enter Tryd.func10, Tryd.ntmps10
        go_wp2_with fail
        refine HF2.out.mono ?_
        rintro e w1 ⟨rfl, rfl⟩
        go_wp2_with fail
        refine (mint_arg jb t u r _ hm HV.out).mono ?_
        rintro e w2 ⟨rfl, rfl⟩
        unfold eE
        go_wp2_with fail
        refine (told_E 1 1 0 ⟨#[]⟩ _ HG.out rfl (by rw [ByteArray.toList_eq])).mono ?_
        rintro e w3 ⟨rfl, hb3⟩
        have HB3 := Lib.hid hb3
        clear hb3
        go_wp2
        go_ret2
        exact DoesR.of_below HH.out (HB.out.trans (HB3.out.mono HB.out.size))
      · have h3 : 15 < r := by omega
        clear h2
        go_enter Tryd.func10, Tryd.ntmps10
        go_wp2_with fail
        refine HF2.out.mono ?_
        rintro e w1 ⟨rfl, rfl⟩
        go_wp2_with fail
        refine (mint_arg jb t u r _ hm HV.out).mono ?_
        rintro e w2 ⟨rfl, rfl⟩
        unfold eE
        go_wp2_with fail
        refine (told_E 1 1 0 ⟨#[]⟩ _ HG.out rfl (by rw [ByteArray.toList_eq])).mono ?_
        rintro e w3 ⟨rfl, hb3⟩
        have HB3 := Lib.hid hb3
        clear hb3
        go_wp2
        go_ret2
        exact DoesR.of_below HH.out (HB.out.trans (HB3.out.mono HB.out.size))
  · have e8 : ((t.size : Int) != 8) = true := bne_iff_ne.2 (by omega)
    clear hv h8
    go_enter Tryd.func10, Tryd.ntmps10
    go_wp2_with fail
    refine HF2.out.mono ?_
    rintro e w1 ⟨rfl, rfl⟩
    go_wp2_with fail
    refine (mint_arg jb t u r _ hm HV.out).mono ?_
    rintro e w2 ⟨rfl, rfl⟩
    unfold eE
    go_wp2_with fail
    refine (told_E 1 1 0 ⟨#[]⟩ _ HG.out rfl (by rw [ByteArray.toList_eq])).mono ?_
    rintro e w3 ⟨rfl, hb3⟩
    have HB3 := Lib.hid hb3
    clear hb3
    go_wp2
    go_ret2
    exact DoesR.of_below HH.out (HB.out.trans (HB3.out.mono HB.out.size))

set_option maxRecDepth 100000 in
set_option maxHeartbeats 2000000 in
theorem does_dup (w0 : World) (jb : Nat) (G : Nat → Prop) (l : List Gr) (a : Option Addr) (c : Nat) (u r : Int) (t : ByteArray) (g : Gr) (w : World) (hg : Hg w) (h : St w0 jb G l a c w) (h8 : t.size = 8) (h1 : 0 ≤ u) (h2 : 0 ≤ r) (h3 : r ≤ 15) (hh : hit l t = some g) :
    Calls Tryd.prog 10 #[.pointer (some ⟨jb, 0, none⟩), .slice a l.length c, .agg #[.int .i64 1, .int .i64 u, .int .i64 r, .string t]] w (DoesR w0 jb G w l) := by
  have HG := Lib.hid (hg.alloc (.cells #[.int .i64 1, .int .i64 u, .int .i64 r, .string t] 35))
  have hb : Below w.heap.size w (w.alloc (.cells #[.int .i64 1, .int .i64 u, .int .i64 r, .string t] 35)) := (Below.refl _ _).alloc (Nat.le_refl _) _
  have HS := Lib.hid (h.below hb)
  have HB := Lib.hid hb
  have HH := Lib.hid h
  have hok := h.okl
  obtain ⟨i, hi, q1, q2, q0, qa⟩ := hok.first hh
  have HF2 := Lib.hid (lfind_hit a c l t i _ HS.out.grs hi (by rw [q1]; exact q2) q0)
  have Q1 := Lib.hid q1
  have QA := Lib.hid qa
  have Q0 := Lib.hid q0
  have HOK := Lib.hid hok
  clear q1 q0 qa hok
  clear hb h
  clear hg
  obtain ⟨F, hbk, _⟩ := HS.out
  have HM := Lib.hid (mint_dup jb F l t u r g _ hbk h8 h1 h2 h3 hh)
  have e8 : ((t.size : Int) != 8) = false := by rw [h8]; rfl
  have hm : t.size ≤ 9223372036854775807 := by omega
  clear hbk hh h8
  go_enter Tryd.func10, Tryd.ntmps10
  go_wp2_with fail
  refine HF2.out.mono ?_
  rintro e w1 ⟨rfl, rfl⟩
  go_wp2_with fail
  refine HM.out.mono ?_
  rintro e w2 ⟨pb, rfl, hf, hb2⟩
  have c0 : w2.cell? ⟨w.heap.size, 0, none⟩ = some (.int .i64 1) := (hb2.cell (p := ⟨w.heap.size, 0, none⟩) (by simp)).trans (by simp)
  have c1 : w2.cell? ⟨w.heap.size, 1, none⟩ = some (.int .i64 u) := (hb2.cell (p := ⟨w.heap.size, 1, none⟩) (by simp)).trans (by simp)
  have c2 : w2.cell? ⟨w.heap.size, 2, none⟩ = some (.int .i64 r) := (hb2.cell (p := ⟨w.heap.size, 2, none⟩) (by simp)).trans (by simp)
  have c3 : w2.cell? ⟨w.heap.size, 3, none⟩ = some (.string t) := (hb2.cell (p := ⟨w.heap.size, 3, none⟩) (by simp)).trans (by simp)
  have HB2 := Lib.hid hb2
  have HI := Lib.hid hf
  have HG2 := Lib.hid (HG.out.below hb2 (by simp))
  clear hb2 hf
  unfold eF
  go_wp2_with fail
  refine (told_F pb 280 280 r r sMint sMint _ HG2.out HI.out rfl rfl rfl (by rw [ByteArray.toList_eq]; decide)).mono ?_
  rintro e w3 ⟨rfl, hb3⟩
  have HB3 := Lib.hid hb3
  clear hb3
  go_wp2
  go_ret2
  exact DoesR.of_below HH.out ((HB.out.trans (HB2.out.mono HB.out.size)).trans (HB3.out.mono (Nat.le_trans HB.out.size HB2.out.size)))
set_option maxRecDepth 100000 in
set_option maxHeartbeats 2000000 in
theorem does_none (w0 : World) (jb : Nat) (G : Nat → Prop) (l : List Gr) (a : Option Addr) (c : Nat) (u r : Int) (t : ByteArray) (w : World) (hg : Hg w) (h : St w0 jb G l a c w) (hm : t.size ≤ maxLen) (hh : hit l t = none) :
    Calls Tryd.prog 10 #[.pointer (some ⟨jb, 0, none⟩), .slice a l.length c, .agg #[.int .i64 2, .int .i64 u, .int .i64 r, .string t]] w (DoesR w0 jb G w l) := by
  have HG := Lib.hid (hg.alloc (.cells #[.int .i64 2, .int .i64 u, .int .i64 r, .string t] 35))
  have hb : Below w.heap.size w (w.alloc (.cells #[.int .i64 2, .int .i64 u, .int .i64 r, .string t] 35)) := (Below.refl _ _).alloc (Nat.le_refl _) _
  have HS := Lib.hid (h.below hb)
  have HB := Lib.hid hb
  have HH := Lib.hid h
  have HF2 := Lib.hid (lfind_none a c l t _ HS.out.grs hh)
  clear hb h
  clear hg
  obtain ⟨F, hbk, _⟩ := HS.out
  have HM := Lib.hid (revoke_none jb F l t u _ hbk hm hh)
  clear hbk hh hm
  go_enter Tryd.func10, Tryd.ntmps10
  go_wp2_with fail
  refine HF2.out.mono ?_
  rintro e w1 ⟨rfl, rfl⟩
  go_wp2_with fail
  refine HM.out.mono ?_
  rintro e w2 ⟨rfl, hb2⟩
  have HB2 := Lib.hid hb2
  have HG2 := Lib.hid (HG.out.below hb2 (by simp))
  have c0 : w2.cell? ⟨w.heap.size, 0, none⟩ = some (.int .i64 2) := (hb2.cell (p := ⟨w.heap.size, 0, none⟩) (by simp)).trans (by simp)
  have c1 : w2.cell? ⟨w.heap.size, 1, none⟩ = some (.int .i64 u) := (hb2.cell (p := ⟨w.heap.size, 1, none⟩) (by simp)).trans (by simp)
  clear hb2
  unfold eE
  go_wp2_with fail
  go_quiet (fail)
  go_wp2_with fail
  refine (told_E 280 280 0 ⟨#[]⟩ _ (HG2.out.below (Below.drawn _ _) HG2.out.lt) rfl (by rw [ByteArray.toList_eq])).mono ?_
  rintro e w3 ⟨rfl, hb3⟩
  have HB3 := Lib.hid hb3
  clear hb3
  go_wp2
  go_ret2
  exact DoesR.of_below HH.out (((HB.out.trans (HB2.out.mono HB.out.size)).trans ((Below.drawn _ _).mono (Nat.le_trans HB.out.size HB2.out.size))).trans (HB3.out.mono (Nat.le_trans HB.out.size HB2.out.size)))
set_option maxRecDepth 100000 in
set_option maxHeartbeats 2000000 in
theorem does_other (w0 : World) (jb : Nat) (G : Nat → Prop) (l : List Gr) (a : Option Addr) (c : Nat) (u r : Int) (t : ByteArray) (g : Gr) (w : World) (hg : Hg w) (h : St w0 jb G l a c w) (hm : t.size ≤ maxLen) (hh : hit l t = some g) (hu : g.who ≠ u) :
    Calls Tryd.prog 10 #[.pointer (some ⟨jb, 0, none⟩), .slice a l.length c, .agg #[.int .i64 2, .int .i64 u, .int .i64 r, .string t]] w (DoesR w0 jb G w l) := by
  have HG := Lib.hid (hg.alloc (.cells #[.int .i64 2, .int .i64 u, .int .i64 r, .string t] 35))
  have hb : Below w.heap.size w (w.alloc (.cells #[.int .i64 2, .int .i64 u, .int .i64 r, .string t] 35)) := (Below.refl _ _).alloc (Nat.le_refl _) _
  have HS := Lib.hid (h.below hb)
  have HB := Lib.hid hb
  have HH := Lib.hid h
  have hok := h.okl
  obtain ⟨i, hi, q1, q2, q0, qa⟩ := hok.first hh
  have HF2 := Lib.hid (lfind_hit a c l t i _ HS.out.grs hi (by rw [q1]; exact q2) q0)
  have Q1 := Lib.hid q1
  have QA := Lib.hid qa
  have Q0 := Lib.hid q0
  have HOK := Lib.hid hok
  clear q1 q0 qa hok
  clear hb h
  clear hg
  obtain ⟨F, hbk, _⟩ := HS.out
  have HM := Lib.hid (revoke_other jb F l t u g _ hbk hm hh hu)
  have hne : (g.who != u) = true := bne_iff_ne.2 hu
  have hlen : l.length ≤ 9223372036854775807 := by
    obtain ⟨a', c', e, h1, h2, _⟩ := HS.out.grs.1.len
    unfold maxLen at h2; omega
  have i0 : (0 : Int) ≤ (i : Int) := by omega
  have i1 : (i : Int) < (l.length : Int) := by omega
  clear hbk hh hm hu
  go_enter Tryd.func10, Tryd.ntmps10
  go_wp2_with fail
  refine HF2.out.mono ?_
  rintro e w1 ⟨rfl, rfl⟩
  go_wp2_with fail
  refine HM.out.mono ?_
  rintro e w2 ⟨rfl, hb2⟩
  have HB2 := Lib.hid hb2
  have HG2 := Lib.hid (HG.out.below hb2 (by simp))
  have c0 : w2.cell? ⟨w.heap.size, 0, none⟩ = some (.int .i64 2) := (hb2.cell (p := ⟨w.heap.size, 0, none⟩) (by simp)).trans (by simp)
  have c1 : w2.cell? ⟨w.heap.size, 1, none⟩ = some (.int .i64 u) := (hb2.cell (p := ⟨w.heap.size, 1, none⟩) (by simp)).trans (by simp)
  obtain ⟨b, ob, rfl, _, _, _, k1, _, _⟩ := (HS.out.below hb2).grs.get i hi
  rw [Q1.out] at k1
  clear hb2
  unfold eE
  go_wp2_with fail
  go_quiet (fail)
  go_wp2_with fail
  refine (told_E 280 280 0 ⟨#[]⟩ _ (HG2.out.below (Below.drawn _ _) HG2.out.lt) rfl (by rw [ByteArray.toList_eq])).mono ?_
  rintro e w3 ⟨rfl, hb3⟩
  have HB3 := Lib.hid hb3
  clear hb3
  go_wp2
  go_ret2
  exact DoesR.of_below HH.out (((HB.out.trans (HB2.out.mono HB.out.size)).trans ((Below.drawn _ _).mono (Nat.le_trans HB.out.size HB2.out.size))).trans (HB3.out.mono (Nat.le_trans HB.out.size HB2.out.size)))
end Go.Proofs.YtbhkbdmjikgpgaaDoor
