/-
  Contracts: bytes turned into a text, Same of actuarylaw26 at rows that read alike, frame.Make; the conditions: what the slices read as, and how long they are.
  Printed by a program of this repository (wip/frame3.py).
-/
import Derived.Test.YtamkappanknklaaDoorJoin
import Derived.Laws.BytesString
import Derived.BigQuiet
namespace Go.Proofs.YtamkappanknklaaDoor
open Go.RowKit Go.Extern.Stop Go.Stop Go.Extern

/-- The text of some bytes. -/
def strOf (xs : List Int) : ByteArray := xs.foldl (fun r n => r.push (UInt8.ofNat n.toNat)) ByteArray.empty
theorem conv_bytes {v : Value} {xs : List Int} {W : World} (h : Bytes W v xs) : (convert 23 9 v).run Tryd.prog W = .ok (.string (strOf xs)) W := by
  obtain ⟨a, c, rfl, _, _, _⟩ := Sl.len h
  rw [run_convert_bytes_string W 23 9 5 a xs.length c Tryd.underlying23 Tryd.underlying5 Tryd.underlying9]
  rcases h.2 with ⟨_, _, e, hn, _⟩ | ⟨b, o, c', e, _, _, _, h4⟩
  · have hx : xs = [] := List.eq_nil_of_length_eq_zero hn
    subst hx
    cases a with
    | none => rfl
    | some a => exact run_bytesToString W a 0 c [] rfl
  · cases e
    refine run_bytesToString W ⟨b, o, none⟩ xs.length c xs ?_
    have hl : xs.length = (xs.map B8).length := by simp
    rw [hl]
    exact run_loadCells_list W ⟨b, o, none⟩ (xs.map B8) (fun j u hj => by rw [Addr.add_lit]; exact h4 j u hj)

/-- A slice value that reads as rows of bytes. -/
def RowsR (w : World) (v : Value) (xss : List (List Int)) : Prop :=
  ∃ vs, Sl w 1 v xss.length vs ∧ ∀ (i : Nat) (x : Value), vs[i]? = some x → ∃ xs, xss[i]? = some xs ∧ Bytes w x xs
theorem RowsR.ofV {w : World} {H : Nat} {v : Value} {xss : List (List Int)} {vs : List Value} (h : RowsV w H v xss vs) : RowsR w v xss :=
  ⟨vs, Sl.ofMid h.1, fun i x hx => by obtain ⟨xs, e, hb, _⟩ := h.2 i x hx; exact ⟨xs, e, hb⟩⟩
theorem RowsR.below {w w' : World} {v : Value} {xss : List (List Int)} (h : RowsR w v xss) (hb : Below w.heap.size w w') : RowsR w' v xss := by
  obtain ⟨vs, h1, h2⟩ := h
  exact ⟨vs, h1.below hb, fun i x hx => by obtain ⟨xs, e, hx⟩ := h2 i x hx; exact ⟨xs, e, Sl.below hx hb⟩⟩
/-- Its i-th cell, and what that reads as. -/
theorem RowsR.get {w : World} {a : Option Addr} {c n : Nat} {xss : List (List Int)} (h : RowsR w (.slice a n c) xss) (i : Nat) (hi : i < xss.length) :
    ∃ g o x xs, a = some ⟨g, o, none⟩ ∧ w.cell? ⟨g, o + i, none⟩ = some x ∧ xss[i]? = some xs ∧ Bytes w x xs := by
  obtain ⟨vs, h1, h2⟩ := h
  obtain ⟨b, o, c', e, _, _, _, h4⟩ := Sl.plain h1 (by omega)
  cases e
  have hv : vs[i]? = some (vs[i]'(by have := h1.1; omega)) := List.getElem?_eq_getElem _
  obtain ⟨xs, e, hx⟩ := h2 i _ hv
  exact ⟨b, o, _, xs, rfl, h4 i _ hv, e, hx⟩

set_option maxHeartbeats 2000000 in
theorem same_true (a1 a2 : Option Addr) (c1 c2 : Nat) (xss : List (List Int)) (w : World) (h1 : RowsR w (.slice a1 xss.length c1) xss) (h2 : RowsR w (.slice a2 xss.length c2) xss) (hl : xss.length ≤ 4294967296) :
    Calls Tryd.prog 12 #[.slice a1 xss.length c1, .slice a2 xss.length c2] w fun e w' => e = .returned (.bool true) ∧ ∃ n, w' = w.drewN n := by
  have H1 := Lib.hid h1
  have H2 := Lib.hid h2
  clear h1 h2
  go_enter Tryd.func12, Tryd.ntmps12
  go_wp2_with fail
  go_loopw [5] (fun i wr => ∃ k : Nat, k ≤ xss.length ∧ i = .int .i64 k ∧ ∃ n, wr = w.drewN n) (fun i _ => xss.length - (intOf i).toNat)
  case atStart => exact ⟨0, Nat.zero_le _, rfl, 0, rfl⟩
  case round =>
    obtain ⟨k, hk, rfl, n, rfl⟩ := hrel
    by_cases hlt : k < xss.length
    · obtain ⟨g1, o1, x1, xs, rfl, e1, r1, b1⟩ := H1.out.get k hlt
      obtain ⟨g2, o2, x2, ys, rfl, e2, r2, b2⟩ := H2.out.get k hlt
      obtain rfl : xs = ys := Option.some.inj (r1.symm.trans r2)
      have hc1 : ∀ m, (convert 23 9 x1).run Tryd.prog (w.drewN m) = .ok (.string (strOf xs)) (w.drewN m) := fun m => conv_bytes (W := w.drewN m) (Sl.same b1 (Nat.le_refl _) fun _ _ _ => rfl)
      have hc2 : ∀ m, (convert 23 9 x2).run Tryd.prog (w.drewN m) = .ok (.string (strOf xs)) (w.drewN m) := fun m => conv_bytes (W := w.drewN m) (Sl.same b2 (Nat.le_refl _) fun _ _ _ => rfl)
      clear r1 r2 b1 b2
      generalize strOf xs = st at *
      have i0 : (0 : Int) ≤ (k : Int) := by omega
      have i1 : (k : Int) < (xss.length : Int) := by omega
      go_wp2_with fail
      go_quiet (fail)
      go_wp2
      go_roundw
      case rel => exact ⟨k + 1, by omega, by go_num, _, rfl⟩
      case measure => simp [intOf]; omega
    · go_wp2
      go_ret
      exact ⟨rfl, _, rfl⟩


/-- What Make answers of a body that has a frame. -/
def MakeR (w : World) (xs : List Int) (e : Ending) (w' : World) : Prop :=
  ∃ a c, e = .returned (.tuple #[.slice a (frameOf xs).length c, .nilIface]) ∧ Mid w' w.heap.size 5 1 (.slice a (frameOf xs).length c) (frameOf xs).length ((frameOf xs).map B8) ∧ Below w.heap.size w w'
theorem make_bad (a : Option Addr) (c n : Nat) (w : World) (hn : n = 0 ∨ 65536 < n) (hm : n ≤ 140737488355328) : Calls Tryd.prog 9 #[.slice a n c] w fun e w' => e = .returned (.tuple #[.slice none 0 0, eE 260]) ∧ w' = w := by
  unfold eE
  rcases hn with rfl | hn
  · go_enter Tryd.func9, Tryd.ntmps9
    go_wp2
    go_ret2
    exact ⟨rfl, rfl⟩
  · have hz : ((n : Int) == 0) = false := beq_eq_false_iff_ne.2 (by omega)
    have hb : 65536 < (n : Int) := by omega
    go_enter Tryd.func9, Tryd.ntmps9
    go_wp2
    go_ret2
    exact ⟨rfl, rfl⟩
set_option maxRecDepth 100000 in
set_option maxHeartbeats 2000000 in
theorem make_ok (a : Option Addr) (c : Nat) (xs : List Int) (w : World) (h : Bytes w (.slice a xs.length c) xs) (h0 : 1 ≤ xs.length) (h1 : xs.length ≤ 65536) : Calls Tryd.prog 9 #[.slice a xs.length c] w (MakeR w xs) := by
  obtain ⟨i0, hi, hz0, hz1, hz2⟩ := info_parts Tryd.infoB
  have hz : ((xs.length : Int) == 0) = false := beq_eq_false_iff_ne.2 (by omega)
  have hb : ¬ 65536 < (xs.length : Int) := by omega
  have HX := Lib.hid h
  clear h
  generalize hxl : xs.length = n at *
  have HXL := Lib.hid hxl
  clear hxl
  have hM : Mid (w.alloc (.cells #[.int .u8 ((n : Int) / 16777216), .int .u8 ((n : Int) / 65536), .int .u8 ((n : Int) / 256 % 256), .int .u8 ((n : Int) % 256)] 5)) w.heap.size 5 1 (.slice (some ⟨w.heap.size, 0, none⟩) 4 4) 4 [.int .u8 ((n : Int) / 16777216), .int .u8 ((n : Int) / 65536), .int .u8 ((n : Int) / 256 % 256), .int .u8 ((n : Int) % 256)] := by
    have := Mid.new (base := w.heap.size) w 5 1 4 4 #[.int .u8 ((n : Int) / 16777216), .int .u8 ((n : Int) / 65536), .int .u8 ((n : Int) / 256 % 256), .int .u8 ((n : Int) % 256)] (Nat.le_refl _) (Nat.le_refl _) (by unfold maxLen; omega) (by simp)
    simpa using this
  have hS := (Sl.alloc HX.out (.cells #[.int .u8 ((n : Int) / 16777216), .int .u8 ((n : Int) / 65536), .int .u8 ((n : Int) / 256 % 256), .int .u8 ((n : Int) % 256)] 5)).src (P := Tryd.prog) Tryd.underlying23 (one_B8 xs)
  rw [HXL.out] at hS
  have HM := Lib.hid hM
  have HS := Lib.hid hS
  clear hM hS
  go_enter Tryd.func9, Tryd.ntmps9
  go_wp2_with (at_builtin; refine wpList_append_mid (v := .slice (some ⟨w.heap.size, 0, none⟩) 4 4) rfl _ _ 23 23 rfl i0 (.int .u8 0) 1 Tryd.underlying23 hi hz0 hz1 hz2 rfl rfl HM.out _ rfl n _ HS.out (by unfold maxLen; omega) (by omega) (by simp) ?_; intro a1 c1 w1 hmid hgrow hblk)
  go_ret2
  have hfr : ([.int .u8 ((n : Int) / 16777216), .int .u8 ((n : Int) / 65536), .int .u8 ((n : Int) / 256 % 256), .int .u8 ((n : Int) % 256)] : List Value) ++ xs.map B8 = (frameOf xs).map B8 := by
    have e := HXL.out
    unfold frameOf
    rw [e, List.map_append]
    congr 1
    have q1 : ((n / 16777216 % 256 : Nat) : Int) = (n : Int) / 16777216 := by omega
    have q2 : ((n / 65536 % 256 : Nat) : Int) = (n : Int) / 65536 := by omega
    have q3 : ((n / 256 % 256 : Nat) : Int) = (n : Int) / 256 % 256 := by omega
    have q4 : ((n % 256 : Nat) : Int) = (n : Int) % 256 := by omega
    simp only [q1, q2, q3, q4, List.map_cons, List.map_nil]
  have hlen : (frameOf xs).length = 4 + n := by unfold frameOf; simp [HXL.out]; omega
  rw [hfr] at hmid
  unfold MakeR
  rw [hlen]
  exact ⟨a1, c1, rfl, hmid, ((Below.refl w.heap.size w).alloc (Nat.le_refl _) _).grown hgrow (by simp) (fun k hk => by cases hk; simp)⟩

end Go.Proofs.YtamkappanknklaaDoor
