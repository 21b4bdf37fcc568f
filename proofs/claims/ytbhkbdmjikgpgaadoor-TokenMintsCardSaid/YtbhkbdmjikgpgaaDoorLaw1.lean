/-
  The walks of TokenEqual and TokenDoes: they answer true; the conditions: what errors.errorType holds; lengths of texts; how long a script is.
  Printed by a program of this repository (wip/tok11.py).
-/
import Derived.Test.YtbhkbdmjikgpgaaDoorActs
namespace Go.Proofs.YtbhkbdmjikgpgaaDoor
open Go.RowKit Go.Extern.Stop Go.Stop Go.Extern

set_option maxRecDepth 100000 in
set_option maxHeartbeats 2000000 in
theorem tokenEqual_any (a b : ByteArray) (w : World) (hg : Hg w) (ha : a.size ≤ maxLen) (hb : b.size ≤ maxLen) : Calls Tryd.prog 3 #[.string a, .string b] w (Yes w) := by
  have HAW := Lib.hid (awake_any w hg)
  have HA := Lib.hid ha
  have HB := Lib.hid hb
  have d2 : decide (a = a) = true := decide_eq_true rfl
  have hla : a.size ≤ 9223372036854775807 := by unfold maxLen at ha; omega
  have hlb : b.size ≤ 9223372036854775807 := by unfold maxLen at hb; omega
  clear ha hb hg
  by_cases he : a = b
  · have d1 : decide (a = b) = true := decide_eq_true he
    have d3 : decide (b = a) = true := decide_eq_true he.symm
    subst he
    go_enter Tryd.func3, Tryd.ntmps3
    go_wp2_with fail
    refine HAW.out.mono ?_
    rintro e w1 ⟨rfl, hb1⟩
    have HB1 := Lib.hid hb1
    clear hb1
    go_wp2_with fail
    refine (equal_any a a w1 HA.out HB.out).mono ?_
    rintro e w2 ⟨rfl, rfl⟩
    go_wp2_with fail
    refine (equal_any a a w1 HA.out HA.out).mono ?_
    rintro e w3 ⟨rfl, rfl⟩
    go_wp2_with fail
    refine (equal_any a a w1 HB.out HA.out).mono ?_
    rintro e w4 ⟨rfl, rfl⟩
    go_wp2
    go_ret
    exact ⟨rfl, HB1.out⟩
  · have d1 : decide (a = b) = false := decide_eq_false he
    have d3 : decide (b = a) = false := decide_eq_false fun h => he h.symm
    have hn := bytes_ne he
    have hn2 : (a.toList == b.toList) = false := beq_eq_false_iff_ne.2 hn
    clear he
    go_enter Tryd.func3, Tryd.ntmps3
    go_wp2_with fail
    refine HAW.out.mono ?_
    rintro e w1 ⟨rfl, hb1⟩
    have HB1 := Lib.hid hb1
    clear hb1
    go_wp2_with fail
    refine (equal_any a b w1 HA.out HB.out).mono ?_
    rintro e w2 ⟨rfl, rfl⟩
    go_wp2_with fail
    refine (equal_any a a w1 HA.out HA.out).mono ?_
    rintro e w3 ⟨rfl, rfl⟩
    go_wp2_with fail
    refine (equal_any b a w1 HB.out HA.out).mono ?_
    rintro e w4 ⟨rfl, rfl⟩
    go_wp2
    go_ret
    exact ⟨rfl, HB1.out⟩

/-- A copy takes the book's place. -/
theorem St.swap {w0 w1 w2 w4 : World} {cb : Nat} {F F2 : Nat → Prop} {l : List Gr} {a : Option Addr} {c : Nat} (hF : ∀ k, F k → w0.heap.size ≤ k ∧ k < w1.heap.size) (hm : Mid w1 w0.heap.size 56 3 (.slice a l.length c) l.length (grFlat l)) (hn : ∀ k, (Value.slice a l.length c).ownBlock = some k → ¬ F k) (hw : Below w0.heap.size w0 w1) (hok : Okl l)
    (hc : Bk w2 cb F2 l) (hF2 : ∀ k, F2 k → w1.heap.size ≤ k) (hb : Below w1.heap.size w1 w2) (hk : Keeps w2 w4 F) : ∃ G, St w0 cb G l a c w4 ∧ ∀ k, G k → (Value.slice a l.length c).ownBlock = some k ∨ w1.heap.size ≤ k := by
  have hF5 : ∀ k, F2 k → k < w2.heap.size := by
    obtain ⟨_, _, _, _, _, _, h5, _⟩ := hc
    exact h5
  have h1 := hb.size
  have h2 := hk.size
  have h0 := hw.size
  refine ⟨fun k => F2 k ∨ (Value.slice a l.length c).ownBlock = some k, ⟨F2, hc.keeps hk fun k h h' => ?_, fun k h => ?_, (hm.below hb fun k hk => (hm.lt k hk).2).keeps hk hn, fun k h h' => ?_, ?_, hok, fun k h => .inl h, fun k h => .inr h, fun k h => ?_⟩, fun k h => ?_⟩
  · have := hF2 k h; have := (hF k h').2; omega
  · have := hF2 k h; omega
  · have := hF2 k h'; have := (hm.lt k h).2; omega
  · exact (hw.trans (hb.mono h0)).trans (hk.below (by omega) fun b h => (hF b h).1)
  · rcases h with h | h
    · have := hF5 k h; omega
    · have := (hm.lt k h).2; omega
  · rcases h with h | h
    · exact .inr (hF2 k h)
    · exact .inl h
theorem St.new {w0 w1 : World} (hb : Below w0.heap.size w0 w1) : St w0 w1.heap.size (fun k => k = w1.heap.size) [] none 0 (w1.alloc (.cells #[.slice none 0 0] 30)) :=
  ⟨fun k => k = w1.heap.size, Bk.new w1 _ rfl (fun k hk => by omega), (fun k hk => by have := hb.size; omega), Mid.nil _ _ _ _, (fun k hk => by cases hk), hb.alloc hb.size _, Okl.nil, (fun k h => h), (fun k hk => by cases hk), (fun k hk => by rw [hk]; simp)⟩

/-- The loop over the acts. -/
def DoesRel (w : World) (n : Nat) (jv lv iv : Value) (wr : World) : Prop :=
  ∃ (k jb : Nat) (G : Nat → Prop) (l : List Gr) (a : Option Addr) (c : Nat), k ≤ n ∧ iv = .int .i64 k ∧ jv = .pointer (some ⟨jb, 0, none⟩) ∧ lv = .slice a l.length c ∧ St w jb G l a c wr ∧ l.length ≤ k


set_option maxRecDepth 100000 in
set_option maxHeartbeats 4000000 in
theorem tokenDoes_slices (a1 : Option Addr) (c1 : Nat) (xs : List Ac) (t : ByteArray) (n m : Int) (w : World) (hg : Hg w) (hx : Acts w (.slice a1 xs.length c1) xs) (ht : t.size ≤ maxLen) (hn : I64 n) (hsz : xs.length * 40 ≤ 140737488351232) :
    Calls Tryd.prog 5 #[.slice a1 xs.length c1, .string t, .int .i64 n, .int .i64 m] w (Yes w) := by
  have HAW := Lib.hid (awake_any w hg)
  have HX := Lib.hid hx
  have HT := Lib.hid ht
  have HN := Lib.hid hn
  have HG := Lib.hid hg
  clear hx ht hn hg
  go_enter Tryd.func5, Tryd.ntmps5
  go_wp2_with fail
  refine HAW.out.mono ?_
  rintro e w1 ⟨rfl, hb1⟩
  have HS0 := Lib.hid (St.new hb1)
  clear hb1
  go_wp2_with fail
  go_loopw [9, 10, 11] (fun jv lv iv wr => DoesRel w xs.length jv lv iv wr) (fun _ _ iv _ => xs.length - (intOf iv).toNat)
  case atStart => exact ⟨0, w1.heap.size, _, [], none, 0, Nat.zero_le _, rfl, rfl, rfl, HS0.out, by simp⟩
  case round =>
    obtain ⟨k, jb, G, l, a, c, hk, rfl, rfl, rfl, hst, hl⟩ := hrel
    by_cases hlt : k < xs.length
    · obtain ⟨b, o, rfl, k0, k1, k2, k3, hok⟩ := HX.out.get hst.world k hlt
      have i0 : (0 : Int) ≤ (k : Int) := by omega
      have i1 : (k : Int) < (xs.length : Int) := by omega
      have HOK := Lib.hid hok
      clear hok
      generalize xs[k] = X at *
      obtain ⟨d, u, r, t'⟩ := X
      simp only at k0 k1 k2 k3
      have HST := Lib.hid hst
      have HXG0 := Lib.hid (show ¬ G wr.heap.size from fun h => by have := hst.lt _ h; omega)
      clear hst
      have hn2 : l.length ≤ 7036874417560 := by omega
      by_cases hd : d = 3
      · subst hd
        obtain ⟨F, hbk, hF, hml, hnl, hbw, hokl, hFG, _, hGlt⟩ := HST.out
        have hb0 : Below wr.heap.size wr (wr.alloc (.cells #[.int .i64 3, .int .i64 u, .int .i64 r, .string t'] 35)) := (Below.refl _ _).alloc (Nat.le_refl _) _
        have hF5 : ∀ k, F k → k < wr.heap.size := fun k h => hGlt k (hFG k h)
        have HBK := Lib.hid (hbk.below hb0)
        have HCP := Lib.hid (copy_any jb F l _ (hbk.below hb0) (by omega))
        have HF := Lib.hid hF
        have HF5 := Lib.hid hF5
        have HML := Lib.hid hml
        have HNL := Lib.hid hnl
        have HBW := Lib.hid hbw
        have HOKL := Lib.hid hokl
        clear hbk hF hml hnl hbw hokl hFG hGlt hb0 hF5
        go_wp2_with fail
        refine HCP.out.mono ?_
        rintro e w2 ⟨cb, F2, rfl, hbk2, hF2, hb2⟩
        have HBK2 := Lib.hid hbk2
        have HF2 := Lib.hid hF2
        have HB2 := Lib.hid hb2
        have hz2 := hb2.size
        simp only [World.size_alloc] at hz2
        have HMI := Lib.hid (mint_any jb F l ⟨#[122, 122, 122, 122, 122, 122, 122, 57]⟩ 1 1 w2 (HBK.out.below hb2) (by unfold maxLen; decide) hn2)
        clear hbk2 hF2 hb2
        go_wp2_with fail
        refine HMI.out.mono ?_
        rintro e w3 ⟨v3, F3, l3, rfl, hbk3, hF3, hk3, hl3⟩
        have hx3 : ∀ j v, (wr.alloc (.cells #[.int .i64 3, .int .i64 u, .int .i64 r, .string t'] 35)).cell? ⟨wr.heap.size, j, none⟩ = some v → w3.cell? ⟨wr.heap.size, j, none⟩ = some v := fun j v h => (hk3.cell (a := ⟨wr.heap.size, j, none⟩) (show wr.heap.size < w2.heap.size by omega) (fun h => by have := HF5.out _ h; simp at this)).trans ((HB2.out.cell (p := ⟨wr.heap.size, j, none⟩) (by simp)).trans h)
        have y1 := hx3 1 (.int .i64 u) (by simp)
        have y3 := hx3 3 (.string t') (by simp)
        have HX3 := Lib.hid hx3
        have HRV := Lib.hid (revoke_any jb F3 l3 t' u w3 hbk3 HOK.out.2.2.2)
        have HF3 := Lib.hid hF3
        have HK3 := Lib.hid hk3
        have hz3 := hk3.size
        clear hbk3 hF3 hk3 hx3
        go_wp2_with fail
        refine HRV.out.mono ?_
        rintro e w4 ⟨v4, F4, l4, rfl, hbk4, hF4, hk4, hl4⟩
        have hk24 : Keeps w2 w4 F := HK3.out.trans hk4 fun b hb h => (HF3.out b h).resolve_right (by omega)
        obtain ⟨G2, hst2, hG2⟩ := St.swap (w0 := w) (fun k h => ⟨HF.out k h, by have := HF5.out k h; simp; omega⟩) (HML.out.alloc _) HNL.out (HBW.out.alloc HBW.out.size _) HOKL.out HBK2.out HF2.out HB2.out hk24
        have hz4 := hk4.size
        have hx4 : ∀ j v, (wr.alloc (.cells #[.int .i64 3, .int .i64 u, .int .i64 r, .string t'] 35)).cell? ⟨wr.heap.size, j, none⟩ = some v → w4.cell? ⟨wr.heap.size, j, none⟩ = some v := fun j v h => (hk4.cell (a := ⟨wr.heap.size, j, none⟩) (show wr.heap.size < w3.heap.size by omega) (fun h => by
          rcases HF3.out _ h with h | h
          · have := HF5.out _ h; simp at this
          · simp only at h; omega)).trans (HX3.out j v h)
        have x0 := hx4 0 (.int .i64 3) (by simp)
        have x1' := hx4 1 (.int .i64 u) (by simp)
        have x2' := hx4 2 (.int .i64 r) (by simp)
        have x3' := hx4 3 (.string t') (by simp)
        have X1 := Lib.hid x1'
        have X2 := Lib.hid x2'
        have X3 := Lib.hid x3'
        have hlw : ∀ k, (Value.slice a l.length c).ownBlock = some k → k < wr.heap.size := fun k h => (HML.out.lt k h).2
        have HXG := Lib.hid (show ¬ G2 wr.heap.size from fun h => by
          rcases hG2 _ h with h | h
          · have := hlw _ h; omega
          · simp only [World.size_alloc] at h; omega)
        have HXL := Lib.hid (show wr.heap.size < w4.heap.size by omega)
        have HST2 := Lib.hid hst2
        have HDO := Lib.hid (does_any w cb G2 l a c 3 u r t' w4 (HG.out.below hst2.world HG.out.lt) hst2 HOK.out.2.2.2 hn2)
        obtain ⟨jb', ejb⟩ : ∃ j, j = cb := ⟨_, rfl⟩
        subst ejb
        clear hst2 hG2 hbk4 hF4 hk4 hk24 hx4 hlw y1 y3
        go_wp2_with fail
        refine (HDO.out).mono ?_
        rintro e w5 ⟨a5, c5, G5, rfl, hs5, hG5, hk5⟩
        have x1 : w5.cell? ⟨wr.heap.size, 1, none⟩ = some (.int .i64 u) := (hk5.cell (a := ⟨wr.heap.size, 1, none⟩) HXL.out HXG.out).trans X1.out
        have x2 : w5.cell? ⟨wr.heap.size, 2, none⟩ = some (.int .i64 r) := (hk5.cell (a := ⟨wr.heap.size, 2, none⟩) HXL.out HXG.out).trans X2.out
        have x3 : w5.cell? ⟨wr.heap.size, 3, none⟩ = some (.string t') := (hk5.cell (a := ⟨wr.heap.size, 3, none⟩) HXL.out HXG.out).trans X3.out
        have HS5 := Lib.hid hs5
        have hg5 := HG.out.below hs5.world HG.out.lt
        have HAL := Lib.hid (alike_any w jb' G5 _ a5 c5 r u t' w5 hg5 hs5 HOK.out.2.2.2 HOK.out.2.2.1.1 HOK.out.2.2.1.2)
        clear hs5 hG5 hk5 hg5
        have hsl := step_len l 3 u r t'
        have HSL := Lib.hid hsl
        clear hsl
        go_wp2_with fail
        refine HAL.out.mono ?_
        rintro e w6 ⟨rfl, hb6⟩
        have hs6 := HS5.out.below hb6
        have hg6 := HG.out.below hs6.world HG.out.lt
        have HS6 := Lib.hid hs6
        have HAL2 := Lib.hid (alike_any w jb' G5 _ a5 c5 n m t w6 hg6 hs6 HT.out HN.out.1 HN.out.2)
        clear hs6 hg6 hb6 x1 x2 x3
        go_wp2_with fail
        refine HAL2.out.mono ?_
        rintro e w7 ⟨rfl, hb7⟩
        have HS7 := Lib.hid (HS6.out.below hb7)
        clear hb7
        go_wp2
        go_roundw
        case rel => exact ⟨k + 1, jb', G5, _, a5, c5, by omega, by go_num, rfl, rfl, HS7.out, by have := HSL.out; omega⟩
        case measure => simp [intOf]; omega
      · have hd3 : (d == 3) = false := beq_eq_false_iff_ne.2 hd
        clear hd
        obtain ⟨jb', ejb⟩ : ∃ j, j = jb := ⟨_, rfl⟩
        have hb0 : Below wr.heap.size wr (wr.alloc (.cells #[.int .i64 d, .int .i64 u, .int .i64 r, .string t'] 35)) := (Below.refl _ _).alloc (Nat.le_refl _) _
        have HDO := Lib.hid (does_any w jb G l a c d u r t' _ (HG.out.below (HST.out.below hb0).world HG.out.lt) (HST.out.below hb0) HOK.out.2.2.2 hn2)
        have HXL := Lib.hid (show wr.heap.size < (wr.alloc (.cells #[.int .i64 d, .int .i64 u, .int .i64 r, .string t'] 35)).heap.size by simp)
        have HXG := HXG0
        have X1 := Lib.hid (show (wr.alloc (.cells #[.int .i64 d, .int .i64 u, .int .i64 r, .string t'] 35)).cell? ⟨wr.heap.size, 1, none⟩ = some (.int .i64 u) by simp)
        have X2 := Lib.hid (show (wr.alloc (.cells #[.int .i64 d, .int .i64 u, .int .i64 r, .string t'] 35)).cell? ⟨wr.heap.size, 2, none⟩ = some (.int .i64 r) by simp)
        have X3 := Lib.hid (show (wr.alloc (.cells #[.int .i64 d, .int .i64 u, .int .i64 r, .string t'] 35)).cell? ⟨wr.heap.size, 3, none⟩ = some (.string t') by simp)
        clear hb0
        subst ejb
        go_wp2_with fail
        refine (HDO.out).mono ?_
        rintro e w5 ⟨a5, c5, G5, rfl, hs5, hG5, hk5⟩
        have x1 : w5.cell? ⟨wr.heap.size, 1, none⟩ = some (.int .i64 u) := (hk5.cell (a := ⟨wr.heap.size, 1, none⟩) HXL.out HXG.out).trans X1.out
        have x2 : w5.cell? ⟨wr.heap.size, 2, none⟩ = some (.int .i64 r) := (hk5.cell (a := ⟨wr.heap.size, 2, none⟩) HXL.out HXG.out).trans X2.out
        have x3 : w5.cell? ⟨wr.heap.size, 3, none⟩ = some (.string t') := (hk5.cell (a := ⟨wr.heap.size, 3, none⟩) HXL.out HXG.out).trans X3.out
        have HS5 := Lib.hid hs5
        have hg5 := HG.out.below hs5.world HG.out.lt
        have HAL := Lib.hid (alike_any w jb' G5 _ a5 c5 r u t' w5 hg5 hs5 HOK.out.2.2.2 HOK.out.2.2.1.1 HOK.out.2.2.1.2)
        clear hs5 hG5 hk5 hg5
        have hsl := step_len l d u r t'
        have HSL := Lib.hid hsl
        clear hsl
        go_wp2_with fail
        refine HAL.out.mono ?_
        rintro e w6 ⟨rfl, hb6⟩
        have hs6 := HS5.out.below hb6
        have hg6 := HG.out.below hs6.world HG.out.lt
        have HS6 := Lib.hid hs6
        have HAL2 := Lib.hid (alike_any w jb' G5 _ a5 c5 n m t w6 hg6 hs6 HT.out HN.out.1 HN.out.2)
        clear hs6 hg6 hb6 x1 x2 x3
        go_wp2_with fail
        refine HAL2.out.mono ?_
        rintro e w7 ⟨rfl, hb7⟩
        have HS7 := Lib.hid (HS6.out.below hb7)
        clear hb7
        go_wp2
        go_roundw
        case rel => exact ⟨k + 1, jb', G5, _, a5, c5, by omega, by go_num, rfl, rfl, HS7.out, by have := HSL.out; omega⟩
        case measure => simp [intOf]; omega
    · have HB := Lib.hid hst.world
      clear hst
      go_wp2
      go_ret
      exact ⟨rfl, HB.out⟩
theorem tokenDoes_any (v : Value) (xs : List Ac) (t : ByteArray) (n m : Int) (w : World) (hg : Hg w) (hx : Acts w v xs) (ht : t.size ≤ maxLen) (hn : I64 n) (hsz : xs.length * 40 ≤ 140737488351232) :
    Calls Tryd.prog 5 #[v, .string t, .int .i64 n, .int .i64 m] w (Yes w) := by
  obtain ⟨a1, c1, rfl, _⟩ := Sl.len hx.1
  exact tokenDoes_slices a1 c1 xs t n m w hg hx ht hn hsz
end Go.Proofs.YtbhkbdmjikgpgaaDoor
