/-
  Check, Mint and Copy of a book by contract; the conditions: the book's cells, and how many tokens there are.
  Printed by a program of this repository (wip/tok4.py).
-/
import Derived.Test.YtbhkbdmjikgpgaaDoorMint
namespace Go.Proofs.YtbhkbdmjikgpgaaDoor
open Go.RowKit Go.Extern.Stop Go.Stop Go.Extern

abbrev sMint : ByteArray := ⟨#[109, 105, 110, 116]⟩
abbrev sRights : ByteArray := ⟨#[114, 105, 103, 104, 116, 115]⟩
set_option maxHeartbeats 1000000 in
theorem check_none (jb : Nat) (F : Nat → Prop) (l : List Gr) (t : ByteArray) (n : Int) (w : World) (h : Bk w jb F l) (ht : t.size ≤ maxLen) (hh : hit l t = none) :
    Calls Tryd.prog 17 #[.pointer (some ⟨jb, 0, none⟩), .string t, .int .i64 n] w fun e w' => e = .returned (.tuple #[.int .i64 0, eE 280]) ∧ Below w.heap.size w w' := by
  have HF := Lib.hid (find_none jb F l t w h ht hh)
  clear h hh ht
  unfold eE
  go_enter Tryd.func17, Tryd.ntmps17
  go_wp2_with fail
  refine HF.out.mono ?_
  rintro e w1 ⟨rfl, hb⟩
  have HB := Lib.hid hb; clear hb
  go_wp2
  go_ret2
  exact ⟨rfl, HB.out⟩
set_option maxHeartbeats 1000000 in
theorem check_ok (jb : Nat) (F : Nat → Prop) (l : List Gr) (t : ByteArray) (n : Int) (g : Gr) (w : World) (h : Bk w jb F l) (ht : t.size ≤ maxLen) (hh : hit l t = some g) (h0 : -9223372036854775808 ≤ n) (h1 : n ≤ 9223372036854775807) (hk : lack n g.rts = 0) :
    Calls Tryd.prog 17 #[.pointer (some ⟨jb, 0, none⟩), .string t, .int .i64 n] w fun e w' => e = .returned (.tuple #[.int .i64 g.who, .nilIface]) ∧ Below w.heap.size w w' := by
  have HF := Lib.hid (find_some jb F l t g w h ht hh)
  have ha := (and_lack g.rts n h0 h1).2 hk
  have hne : (bits .and .i64 g.rts n != n) = false := by rw [ha]; simp
  clear h hh ht ha hk
  go_enter Tryd.func17, Tryd.ntmps17
  go_wp2_with fail
  refine HF.out.mono ?_
  rintro e w1 ⟨rfl, hb⟩
  have HB := Lib.hid hb; clear hb
  go_wp2
  go_ret2
  exact ⟨rfl, HB.out⟩
/-- A fault that is answered behind some other result. -/
def FaultAt (w : World) (s : ByteArray) (k n : Int) (r : Value → Ending) (e : Ending) (w' : World) : Prop := ∃ pb, e = r (eF pb) ∧ IsF w' pb s k n ∧ Below w.heap.size w w'
set_option maxHeartbeats 1000000 in
theorem check_lack (jb : Nat) (F : Nat → Prop) (l : List Gr) (t : ByteArray) (n : Int) (g : Gr) (w : World) (h : Bk w jb F l) (ht : t.size ≤ maxLen) (hh : hit l t = some g) (h0 : -9223372036854775808 ≤ n) (h1 : n ≤ 9223372036854775807) (hk : lack n g.rts ≠ 0) :
    Calls Tryd.prog 17 #[.pointer (some ⟨jb, 0, none⟩), .string t, .int .i64 n] w (FaultAt w sRights (lack n g.rts) 280 fun v => .returned (.tuple #[.int .i64 0, v])) := by
  have HF := Lib.hid (find_some jb F l t g w h ht hh)
  have ha := fun h => hk ((and_lack g.rts n h0 h1).1 h)
  have hne : (bits .and .i64 g.rts n != n) = true := bne_iff_ne.2 ha
  clear h hh ht ha hk
  go_enter Tryd.func17, Tryd.ntmps17
  go_wp2_with fail
  refine HF.out.mono ?_
  rintro e w1 ⟨rfl, hb⟩
  have HB := Lib.hid hb; clear hb
  go_wp2_with fail
  refine (wrap_E 280 _ _ _).mono ?_
  rintro e w2 ⟨rfl, hf, rfl⟩
  have HI := Lib.hid hf
  clear hf
  go_wp2
  go_ret2
  exact ⟨_, rfl, HI.out, HB.out.alloc HB.out.size _⟩

set_option maxHeartbeats 1000000 in
theorem mint_arg (jb : Nat) (t : ByteArray) (u r : Int) (w : World) (_ : t.size ≤ 9223372036854775807) (h : t.size ≠ 8 ∨ u < 0 ∨ r < 0 ∨ 15 < r) :
    Calls Tryd.prog 14 #[.pointer (some ⟨jb, 0, none⟩), .string t, .int .i64 u, .int .i64 r] w fun e w' => e = .returned (eE 1) ∧ w = w' := by
  unfold eE
  by_cases h8 : t.size = 8
  · have e8 : ((t.size : Int) != 8) = false := by rw [h8]; rfl
    have h' : u < 0 ∨ r < 0 ∨ 15 < r := by omega
    clear h h8
    by_cases hu : u < 0
    · go_enter Tryd.func14, Tryd.ntmps14
      go_wp2
      go_ret
      exact ⟨rfl, rfl⟩
    · have h2 : r < 0 ∨ 15 < r := by omega
      clear h'
      by_cases hr : r < 0
      · go_enter Tryd.func14, Tryd.ntmps14
        go_wp2
        go_ret
        exact ⟨rfl, rfl⟩
      · have h3 : 15 < r := by omega
        clear h2
        go_enter Tryd.func14, Tryd.ntmps14
        go_wp2
        go_ret
        exact ⟨rfl, rfl⟩
  · have e8 : ((t.size : Int) != 8) = true := bne_iff_ne.2 (by omega)
    clear h h8
    go_enter Tryd.func14, Tryd.ntmps14
    go_wp2
    go_ret
    exact ⟨rfl, rfl⟩
set_option maxHeartbeats 1000000 in
theorem mint_dup (jb : Nat) (F : Nat → Prop) (l : List Gr) (t : ByteArray) (u r : Int) (g : Gr) (w : World) (h : Bk w jb F l) (h8 : t.size = 8) (h1 : 0 ≤ u) (h2 : 0 ≤ r) (h3 : r ≤ 15) (hh : hit l t = some g) :
    Calls Tryd.prog 14 #[.pointer (some ⟨jb, 0, none⟩), .string t, .int .i64 u, .int .i64 r] w (FaultAt w sMint r 280 fun v => .returned v) := by
  have HF := Lib.hid (find_some jb F l t g w h (by unfold maxLen; omega) hh)
  have e8 : ((t.size : Int) != 8) = false := by rw [h8]; rfl
  have hm : t.size ≤ 9223372036854775807 := by omega
  clear h hh h8
  go_enter Tryd.func14, Tryd.ntmps14
  go_wp2_with fail
  refine HF.out.mono ?_
  rintro e w1 ⟨rfl, hb⟩
  have HB := Lib.hid hb; clear hb
  go_wp2_with fail
  refine (wrap_E 280 _ _ _).mono ?_
  rintro e w2 ⟨rfl, hf, rfl⟩
  have HI := Lib.hid hf
  clear hf
  go_wp2
  go_ret
  exact ⟨_, rfl, HI.out, HB.out.alloc HB.out.size _⟩
/-- What a book's act leaves: a book of these tokens; nothing else is written. -/
def BkR (w : World) (jb : Nat) (F : Nat → Prop) (l' : List Gr) (r : Ending) (e : Ending) (w' : World) : Prop :=
  e = r ∧ ∃ F', Bk w' jb F' l' ∧ (∀ k, F' k → F k ∨ w.heap.size ≤ k) ∧ Keeps w w' F
set_option maxRecDepth 100000 in
set_option maxHeartbeats 1000000 in
theorem mint_new (jb : Nat) (F : Nat → Prop) (l : List Gr) (t : ByteArray) (u r : Int) (w : World) (h : Bk w jb F l) (h8 : t.size = 8) (h1 : 0 ≤ u) (h2 : 0 ≤ r) (h3 : r ≤ 15) (hh : hit l t = none) (hn : l.length ≤ 7036874417560) :
    Calls Tryd.prog 14 #[.pointer (some ⟨jb, 0, none⟩), .string t, .int .i64 u, .int .i64 r] w (BkR w jb F (l ++ [⟨t, u, r⟩]) (.returned .nilIface)) := by
  have HF := Lib.hid (find_none jb F l t w h (by unfold maxLen; omega) hh)
  have e8 : ((t.size : Int) != 8) = false := by rw [h8]; rfl
  have hm : t.size ≤ 9223372036854775807 := by omega
  obtain ⟨a, c, k1, k2, k3, k4, k5, k6⟩ := h
  have K1 := Lib.hid k1
  have K2 := Lib.hid k2
  have K3 := Lib.hid k3
  have K4 := Lib.hid k4
  have K5 := Lib.hid k5
  have K6 := Lib.hid k6
  have H8 := Lib.hid h8
  obtain ⟨ti, hi, hz0, hz1, hz2⟩ := info_parts Tryd.info_cloneG
  clear hh h8 k1 k2 k3 k4 k5 k6
  go_enter Tryd.func14, Tryd.ntmps14
  go_wp2_with fail
  refine HF.out.mono ?_
  rintro e w1 ⟨rfl, hb⟩
  have j1 : w1.heap[jb]? = some (.cells #[.slice a l.length c] 30 (0, 0)) := (hb.block jb (lt_of_block K1.out)).trans K1.out
  have jc := cell_of_block (j := 0) j1 rfl
  have hlt1 : jb < w1.heap.size := lt_of_block j1
  have HM1 := Lib.hid ((K2.out.below hb fun k hk => (K2.out.lt k hk).2).alloc (.cells #[.string t, .int .i64 u, .int .i64 r] 58))
  have HS1 := Lib.hid (show Src Tryd.prog 3 28 (.slice (some ⟨w1.heap.size, 0, none⟩) 1 1) 1 (grFlat [⟨t, u, r⟩]) (w1.alloc (.cells #[.string t, .int .i64 u, .int .i64 r] 58)) from (Sl.lit w1 58 3 1 (grFlat [⟨t, u, r⟩]) (by unfold maxLen; omega) rfl).src (P := Tryd.prog) Tryd.underlying28 (grOne _))
  have J1 := Lib.hid j1
  have HB := Lib.hid hb
  clear j1 hb
  go_wp2_with (at_builtin; refine wpList_append_mid (v := .slice a l.length c) rfl _ _ 28 28 rfl ti (.agg #[.string ⟨#[]⟩, .int .i64 0, .int .i64 0]) 32 Tryd.underlying28 hi hz0 hz1 hz2 rfl rfl HM1.out _ rfl 1 _ HS1.out (by unfold maxLen; omega) (by omega) (Nat.zero_le _) ?_; intro a4 c4 w4 hmo hgo hbo; (have j4 := (hgo.block jb (by simp; omega) (fun e => (K4.out jb e.symm).2 rfl)).trans ((Below.heap_alloc _ _ _ hlt1).trans J1.out)); (have jc4 := cell_of_block (j := 0) j4 rfl); (have jf4 := free_of_block (j := 0) j4); have J4 := Lib.hid j4; have HMO := Lib.hid hmo; have HGO := Lib.hid hgo; have HBO := Lib.hid hbo; clear hmo hgo hbo j4 jc)
  go_ret
  have hz1 := HB.out.size
  have hlt4 : jb < w4.heap.size := lt_of_block J4.out
  have hgs := HGO.out.size
  simp only [World.size_alloc] at hgs
  have hown : ∀ k, (Value.slice a4 (l.length + 1) c4).ownBlock = some k → (F k ∧ k ≠ jb) ∨ k = w1.heap.size + 1 := fun k hk => by
    rcases HBO.out with e | e
    · exact .inl (K4.out k (e ▸ hk))
    · rw [e] at hk; cases hk; right; simp
  have hkp : Keeps w (w4.setCell ⟨jb, 0, none⟩ (.slice a4 (l.length + 1) c4)) F := by
    refine (((Keeps.of_below HB.out (S := F) fun b h _ => by omega).trans (Keeps.alloc w1 _ (fun _ => False)) (fun _ _ h => h.elim)).trans (Keeps.of_grown HGO.out (S := F) fun b hb => (K4.out b hb).1) (fun _ _ h => h)).trans (Keeps.setCell _ _ _ (S := F) K3.out) (fun _ _ h => h)
  refine ⟨rfl, fun k => k < w4.heap.size ∧ (F k ∨ k = w1.heap.size + 1), ⟨a4, c4, ?_, ?_, ⟨hlt4, .inl K3.out⟩, fun k hk => ?_, fun k hk => by simpa using hk.1, fun g hg => ?_⟩, fun k hk => ?_, hkp⟩
  · rw [List.length_append]; exact one_setCell J4.out
  · rw [List.length_append, grFlat_append]
    exact HMO.out.setCell _ fun e => by
      rcases hown jb e with h | h
      · exact h.2 rfl
      · omega
  · rw [List.length_append] at hk
    have hlk := (HMO.out.lt k hk).2
    rcases hown k hk with h | h
    · exact ⟨⟨hlk, .inl h.1⟩, h.2⟩
    · exact ⟨⟨hlk, .inr h⟩, by omega⟩
  · rcases List.mem_append.1 hg with h | h
    · exact K6.out g h
    · rw [List.mem_singleton.1 h]; unfold maxLen; have := H8.out; simp only; omega
  · rcases hk.2 with h | h
    · exact .inl h
    · right; omega
end Go.Proofs.YtbhkbdmjikgpgaaDoor
