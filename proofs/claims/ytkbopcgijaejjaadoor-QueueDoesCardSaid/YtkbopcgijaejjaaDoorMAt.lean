/-
  at and ready of actuarylaw30's model by contract; the conditions: the model's cells, and how many rows there are.
  Printed by a program of this repository (wip/qu16.py).
-/
import Derived.Test.YtkbopcgijaejjaaDoorBoth
import Derived.BigQuiet
namespace Go.Proofs.YtkbopcgijaejjaaDoor
open Go.RowKit Go.Extern.Stop Go.Stop Go.Extern

theorem Below.dr {w w1 : World} {n : Nat} (h : Below w.heap.size w w1) : Below w.heap.size w (w1.drewN n) := h.trans ((Below.drawn _ _).mono h.size)
/-- What the model's functions read. -/
structure MR (w : World) (mb : Nat) (ka ja ta ha ba : Option Addr) (kc jc tc hc bc : Nat) (RS : List (Rw × Value)) (ws : List (Int × Int)) (bs : List Bool) : Prop where
  c0 : w.cell? ⟨mb, 0, none⟩ = some (.slice ka RS.length kc)
  c1 : w.cell? ⟨mb, 1, none⟩ = some (.slice ja RS.length jc)
  c2 : w.cell? ⟨mb, 2, none⟩ = some (.slice ta RS.length tc)
  c3 : w.cell? ⟨mb, 3, none⟩ = some (.slice ha ws.length hc)
  c4 : w.cell? ⟨mb, 4, none⟩ = some (.slice ba bs.length bc)
  keys : Sl w 2 (.slice ka RS.length kc) RS.length (RS.flatMap keyCells)
  heads : Sl w 1 (.slice ja RS.length jc) RS.length (RS.map fun p => p.2)
  taken : Sl w 1 (.slice ta RS.length tc) RS.length (RS.map fun p => Value.bool p.1.busy)
  has : Sl w 2 (.slice ha ws.length hc) ws.length (ws.flatMap kyCells)
  busy : Sl w 1 (.slice ba bs.length bc) bs.length (bs.map Value.bool)
  jobs : ∀ p, p ∈ RS → Sl w 1 p.2 p.1.jobs.length (p.1.jobs.map IV)
theorem Box.mr {w : World} {mb : Nat} {G : Nat → Prop} {RS : List (Rw × Value)} {ws : List (Int × Int)} {bs : List Bool} {ka ja ta ha ba : Option Addr} {kc jc tc hc bc : Nat} (h : Box w mb 62 G [.slice ka RS.length kc, .slice ja RS.length jc, .slice ta RS.length tc, .slice ha ws.length hc, .slice ba bs.length bc] (mPs (.slice ka RS.length kc) (.slice ja RS.length jc) (.slice ta RS.length tc) (.slice ha ws.length hc) (.slice ba bs.length bc) RS ws bs)) : MR w mb ka ja ta ha ba kc jc tc hc bc RS ws bs :=
  ⟨h.cell 0 rfl, h.cell 1 rfl, h.cell 2 rfl, h.cell 3 rfl, h.cell 4 rfl, Sl.ofMid (h.mid 0 rfl), Sl.ofMid (h.mid 1 rfl), Sl.ofMid (h.mid 2 rfl), Sl.ofMid (h.mid 3 rfl), Sl.ofMid (h.mid 4 rfl), fun p hp => Sl.ofMid (h.2.1.1 (jp p) (by simp only [mPs, List.mem_cons, List.mem_map]; exact .inr (.inr (.inr (.inr (.inr ⟨p, hp, rfl⟩))))))⟩
theorem MS.read {w : World} {mb : Nat} {G : Nat → Prop} {RS : List (Rw × Value)} {ws : List (Int × Int)} {bs : List Bool} (h : MS w mb G RS ws bs) : ∃ ka ja ta ha ba kc jc tc hc bc, MR w mb ka ja ta ha ba kc jc tc hc bc RS ws bs := by
  obtain ⟨ka, ja, ta, ha, ba, kc, jc, tc, hc, bc, h⟩ := h
  exact ⟨ka, ja, ta, ha, ba, kc, jc, tc, hc, bc, h.mr⟩
theorem mkey_get {w : World} {a : Option Addr} {c : Nat} {RS : List (Rw × Value)} (h : Sl w 2 (.slice a RS.length c) RS.length (RS.flatMap keyCells)) (k : Nat) (hk : k < RS.length) :
    ∃ b o, a = some ⟨b, o, none⟩ ∧ b < w.heap.size ∧ w.cell? ⟨b, o + k * 2, none⟩ = some (.int .i64 RS[k].1.t) ∧ w.cell? ⟨b, o + k * 2 + 1, none⟩ = some (.int .i64 RS[k].1.s) := by
  obtain ⟨b, o, c', e, h1, h2, h3, h4⟩ := h.plain (by omega)
  cases e
  have hc := fun j u hj => h4 _ u (flat_at keyCells 2 (fun _ => rfl) RS k hk j u hj)
  have c0 := hc 0 _ rfl
  have c1 := hc 1 _ rfl
  simp only [← Nat.add_assoc, Nat.add_zero] at c0 c1
  exact ⟨b, o, rfl, h3, c0, c1⟩
theorem one_get {α : Type} {w : World} {a : Option Addr} {c : Nat} {l : List α} {f : α → Value} (h : Sl w 1 (.slice a l.length c) l.length (l.map f)) (k : Nat) (hk : k < l.length) :
    ∃ b o, a = some ⟨b, o, none⟩ ∧ b < w.heap.size ∧ w.cell? ⟨b, o + k, none⟩ = some (f l[k]) := by
  obtain ⟨b, o, c', e, h1, h2, h3, h4⟩ := h.plain (by omega)
  cases e
  exact ⟨b, o, rfl, h3, h4 k _ (by rw [List.getElem?_map, List.getElem?_eq_getElem hk]; rfl)⟩
theorem atR_at {RS : List (Rw × Value)} {t s : Int} {k : Nat} (hk : k < RS.length) (h0 : ∀ (j : Nat) (hj : j < RS.length), j < k → ¬ keyIs t s RS[j]) (h1 : keyIs t s RS[k]) : atR RS t s = k := by
  rcases Nat.lt_trichotomy (atR RS t s) k with hlt | he | hgt
  · exact absurd (atR_hit (Nat.lt_trans hlt hk)).1 (h0 _ (Nat.lt_trans hlt hk) hlt)
  · exact he
  · have := List.not_of_lt_findIdx (show k < List.findIdx (fun p => decide (keyIs t s p)) RS from hgt)
    simp [h1] at this
theorem atR_all {RS : List (Rw × Value)} {t s : Int} (h0 : ∀ (j : Nat) (hj : j < RS.length), ¬ keyIs t s RS[j]) : ¬ atR RS t s < RS.length := fun h => h0 _ h (atR_hit h).1
set_option maxRecDepth 100000 in
set_option maxHeartbeats 4000000 in
theorem mat_any (mb : Nat) (G : Nat → Prop) (RS : List (Rw × Value)) (ws : List (Int × Int)) (bs : List Bool) (t s : Int) (w : World) (h : MS w mb G RS ws bs) :
    Calls Tryd.prog 35 #[.pointer (some ⟨mb, 0, none⟩), .agg #[.int .i64 t, .int .i64 s]] w fun e w' => e = .returned (.int .i64 (atV RS t s)) ∧ Below w.heap.size w w' := by
  have hb0 : Below w.heap.size w (w.alloc (.cells #[.int .i64 t, .int .i64 s] 29)) := (Below.refl _ _).alloc (Nat.le_refl _) _
  have HB0 := Lib.hid hb0
  have HM := Lib.hid (h.below hb0)
  obtain ⟨R, hR⟩ : ∃ R, R = atV RS t s := ⟨_, rfl⟩
  rw [← hR]
  have HR := Lib.hid hR
  clear h hb0 hR
  go_enter Tryd.func35, Tryd.ntmps35
  go_wp2
  go_loopw [5] (fun iv wr => ∃ k : Nat, k ≤ RS.length ∧ iv = .int .i64 k ∧ (∀ (j : Nat) (hj : j < RS.length), j < k → ¬ keyIs t s RS[j]) ∧ Below (w.alloc (.cells #[.int .i64 t, .int .i64 s] 29)).heap.size (w.alloc (.cells #[.int .i64 t, .int .i64 s] 29)) wr) (fun iv _ => RS.length - (intOf iv).toNat)
  case atStart => exact ⟨0, Nat.zero_le _, rfl, fun j _ h => by omega, Below.refl _ _⟩
  case round =>
    obtain ⟨k, hk, rfl, hno, hb⟩ := hrel
    have hm := HM.out.below hb
    obtain ⟨ka, ja, ta, ha, ba, kc, jc, tc, hc, bc, r⟩ := hm.read
    have c0 := r.c0
    have hln := r.keys.lenI
    have x0 : wr.cell? ⟨w.heap.size, 0, none⟩ = some (.int .i64 t) := (hb.cell (p := ⟨w.heap.size, 0, none⟩) (by simp)).trans (by simp)
    have x1 : wr.cell? ⟨w.heap.size, 1, none⟩ = some (.int .i64 s) := (hb.cell (p := ⟨w.heap.size, 1, none⟩) (by simp)).trans (by simp)
    have HB := Lib.hid hb
    have HNO := Lib.hid hno
    by_cases hlt : k < RS.length
    · obtain ⟨b, o, rfl, _, k0, k1⟩ := mkey_get r.keys k hlt
      have i0 : (0 : Int) ≤ (k : Int) := by omega
      have i1 : (k : Int) < (RS.length : Int) := by omega
      clear hm r hb hno
      by_cases hkey : keyIs t s RS[k]
      · have hat := atR_at hlt HNO.out hkey
        have hv : R = (k : Int) := by rw [HR.out]; unfold atV; rw [hat, if_pos hlt]
        rw [hkey.1] at k0
        rw [hkey.2] at k1
        have HV := Lib.hid hv
        have b1 : (t == t) = true := by simp
        have b2 : (s == s) = true := by simp
        clear hkey hat hv
        go_wp2_with fail
        go_quiet (fail)
        go_wp2
        go_ret
        exact ⟨by rw [HV.out]; rfl, HB0.out.trans ((Below.dr HB.out).mono HB0.out.size)⟩
      · have HNO2 := Lib.hid (show ∀ (j : Nat) (hj : j < RS.length), j < k + 1 → ¬ keyIs t s RS[j] from fun j hj hjk => by
          rcases Nat.lt_or_ge j k with h | h
          · exact HNO.out j hj h
          · have : j = k := by omega
            subst this; exact hkey)
        have hkey' : RS[k].1.t ≠ t ∨ (RS[k].1.t = t ∧ RS[k].1.s ≠ s) := by
          by_cases h1 : RS[k].1.t = t
          · exact .inr ⟨h1, fun h2 => hkey ⟨h1, h2⟩⟩
          · exact .inl h1
        clear hkey
        generalize RS[k].1.t = t' at *
        generalize RS[k].1.s = s' at *
        rcases hkey' with ht | ⟨ht, hs⟩
        · have b1 : (t' == t) = false := beq_eq_false_iff_ne.2 ht
          clear ht
          go_wp2_with fail
          go_quiet (fail)
          go_wp2
          go_roundw
          case rel => exact ⟨k + 1, by omega, by go_num, HNO2.out, Below.dr HB.out⟩
          case measure => simp [intOf]; omega
        · have b1 : (s' == s) = false := beq_eq_false_iff_ne.2 hs
          have b2 : (t' == t) = true := by rw [ht]; simp
          clear ht hs
          go_wp2_with fail
          go_quiet (fail)
          go_wp2
          go_roundw
          case rel => exact ⟨k + 1, by omega, by go_num, HNO2.out, Below.dr HB.out⟩
          case measure => simp [intOf]; omega
    · have hv : R = -1 := by
        rw [HR.out]; unfold atV; rw [if_neg (atR_all fun j hj => hno j hj (by omega))]
      have HV := Lib.hid hv
      have hge : (RS.length : Int) ≤ (k : Int) := by omega
      clear hm r hb hno hv
      go_wp2
      go_ret
      exact ⟨by rw [HV.out]; rfl, HB0.out.trans (HB.out.mono HB0.out.size)⟩

/-- The places of the rows that are ready. -/
def readyF : Nat → List Rw → List Nat
  | _, [] => []
  | i, r :: l => if r.busy then readyF (i + 1) l else i :: readyF (i + 1) l
theorem readyF_push (i : Nat) (l : List Rw) (r : Rw) : readyF i (l ++ [r]) = readyF i l ++ if r.busy then [] else [i + l.length] := by
  induction l generalizing i with
  | nil => simp [readyF]
  | cons x l ih =>
    simp only [List.cons_append, readyF, ih, List.length_cons]
    rw [show i + 1 + l.length = i + (l.length + 1) by omega]
    split <;> rfl
theorem readyF_len (i : Nat) (l : List Rw) : (readyF i l).length = (readyS l).length := by
  induction l generalizing i with
  | nil => rfl
  | cons x l ih =>
    have := ih (i + 1)
    unfold readyS at this ⊢
    cases hb : x.busy <;> simp [readyF, hb, this]
theorem readyF_at (i : Nat) (l : List Rw) (j m : Nat) (h : (readyF i l)[j]? = some m) : ∃ r, i ≤ m ∧ l[m - i]? = some r ∧ r.busy = false ∧ (readyS l)[j]? = some (keyOf r) := by
  induction l generalizing i j with
  | nil => simp [readyF] at h
  | cons x l ih =>
    cases hb : x.busy with
    | true =>
      have e1 : readyF i (x :: l) = readyF (i + 1) l := by simp [readyF, hb]
      have e2 : readyS (x :: l) = readyS l := by unfold readyS; simp [hb]
      rw [e1] at h
      rw [e2]
      obtain ⟨r, h1, h2, h3, h4⟩ := ih (i + 1) j h
      exact ⟨r, by omega, by rw [show m - i = (m - (i + 1)) + 1 by omega]; exact h2, h3, h4⟩
    | false =>
      have e1 : readyF i (x :: l) = i :: readyF (i + 1) l := by simp [readyF, hb]
      have e2 : readyS (x :: l) = keyOf x :: readyS l := by unfold readyS; simp [hb]
      rw [e1] at h
      rw [e2]
      cases j with
      | zero =>
        have : i = m := by simpa using h
        subst this
        exact ⟨x, Nat.le_refl _, by simp, hb, rfl⟩
      | succ j =>
        obtain ⟨r, h1, h2, h3, h4⟩ := ih (i + 1) j (by simpa using h)
        exact ⟨r, by omega, by rw [show m - i = (m - (i + 1)) + 1 by omega]; exact h2, h3, by simpa using h4⟩
theorem rowsOf_take (RS : List (Rw × Value)) (k : Nat) (h : k < RS.length) : readyF 0 (rowsOf (RS.take (k + 1))) = readyF 0 (rowsOf (RS.take k)) ++ if RS[k].1.busy then [] else [k] := by
  have e : rowsOf (RS.take (k + 1)) = rowsOf (RS.take k) ++ [RS[k].1] := by
    unfold rowsOf; rw [List.take_succ_eq_append_getElem h, List.map_append]; rfl
  rw [e, readyF_push]
  have : (rowsOf (RS.take k)).length = k := by unfold rowsOf; rw [List.length_map, List.length_take]; omega
  rw [this, Nat.zero_add]
abbrev NV (n : Nat) : Value := .int .i64 n
set_option maxRecDepth 100000 in
set_option maxHeartbeats 4000000 in
theorem mready_any (mb : Nat) (G : Nat → Prop) (RS : List (Rw × Value)) (ws : List (Int × Int)) (bs : List Bool) (w : World) (h : MS w mb G RS ws bs) (hn : RS.length ≤ 4398046511104) :
    Calls Tryd.prog 34 #[.pointer (some ⟨mb, 0, none⟩)] w (OwnR w 3 1 (readyF 0 (rowsOf RS)).length ((readyF 0 (rowsOf RS)).map NV)) := by
  have HM := Lib.hid h
  obtain ⟨ti, hi, hz0, hz1, hz2⟩ := info_parts Tryd.infoI
  clear h
  go_enter Tryd.func34, Tryd.ntmps34
  go_wp2
  go_loopw [3, 4] (fun x i wr => ∃ (k : Nat) (oa : Option Addr) (oc : Nat), k ≤ RS.length ∧ i = .int .i64 k ∧ x = .slice oa (readyF 0 (rowsOf (RS.take k))).length oc ∧ Mid wr w.heap.size 3 1 (.slice oa (readyF 0 (rowsOf (RS.take k))).length oc) (readyF 0 (rowsOf (RS.take k))).length ((readyF 0 (rowsOf (RS.take k))).map NV) ∧ Below w.heap.size w wr) (fun _ i _ => RS.length - (intOf i).toNat)
  case atStart => exact ⟨0, none, 0, Nat.zero_le _, rfl, rfl, Mid.nil _ _ _ _, Below.refl _ _⟩
  case round =>
    obtain ⟨k, oa, oc, hk, rfl, rfl, hm, hb⟩ := hrel
    have hkl : (readyF 0 (rowsOf (RS.take k))).length ≤ k := by
      rw [readyF_len]
      have := readyS_len (rowsOf (RS.take k))
      unfold rowsOf at this ⊢
      rw [List.length_map, List.length_take] at this
      omega
    have hms := HM.out.below hb
    obtain ⟨ka, ja, ta, ha, ba, kc, jc, tc, hc, bc, r⟩ := hms.read
    have c0 := r.c0
    have c2 := r.c2
    have hln := r.keys.lenI
    by_cases hlt : k < RS.length
    · obtain ⟨b, o, rfl, _, k2⟩ := one_get r.taken k hlt
      have ht := rowsOf_take RS k hlt
      have HT := Lib.hid ht
      have HMD := Lib.hid hm
      have HB := Lib.hid hb
      have i0 : (0 : Int) ≤ (k : Int) := by omega
      have i1 : (k : Int) < (RS.length : Int) := by omega
      clear hms r ht hm hb
      generalize readyF 0 (rowsOf (RS.take k)) = L at *
      cases hz : RS[k].1.busy with
      | true =>
        rw [hz] at k2 HT
        clear hz
        go_wp2
        go_roundw
        case rel => exact ⟨k + 1, oa, oc, by omega, by go_num, by rw [HT.out]; simp, by rw [HT.out]; simpa using HMD.out, HB.out⟩
        case measure => simp [intOf]; omega
      | false =>
        rw [hz] at k2 HT
        clear hz
        have HM3 := Lib.hid (HMD.out.alloc (.cells #[.int .i64 k] 3))
        have HS3 := Lib.hid ((Sl.lit wr 3 1 1 [.int .i64 k] (by unfold maxLen; omega) rfl).src (P := Tryd.prog) Tryd.underlying50 (fun u hu => by rw [List.mem_singleton.1 hu]; rfl))
        have HW3 := Lib.hid (show w.heap.size ≤ (wr.alloc (.cells #[.int .i64 k] 3)).heap.size by have := HB.out.size; simp; omega)
        go_wp2_with (at_builtin; refine wpList_append_mid (v := .slice oa L.length oc) rfl _ _ 50 50 rfl ti (.int .i64 0) 8 Tryd.underlying50 hi hz0 hz1 hz2 rfl rfl HM3.out _ rfl 1 _ HS3.out (by unfold maxLen; omega) (by omega) HW3.out ?_; intro a4 c4 w4 hmo hgo hbo; have HMO4 := Lib.hid hmo; have HGO4 := Lib.hid hgo; clear hmo hgo hbo)
        go_roundw
        case rel =>
          refine ⟨k + 1, a4, c4, by omega, by go_num, by rw [HT.out]; simp, ?_, ?_⟩
          · rw [HT.out]
            simpa using HMO4.out
          · exact (HB.out.alloc HB.out.size _).grown HGO4.out HW3.out fun q hq => (HMD.out.lt q hq).1
        case measure => simp [intOf]; omega
    · obtain rfl : k = RS.length := by omega
      rw [List.take_length] at *
      have HMD := Lib.hid hm
      have HB := Lib.hid hb
      have hge : ¬ (RS.length : Int) < (RS.length : Int) := by omega
      clear hb hm hms r
      go_wp2
      go_ret
      exact ⟨oa, oc, rfl, HMD.out, HB.out⟩
end Go.Proofs.YtkbopcgijaejjaaDoor
