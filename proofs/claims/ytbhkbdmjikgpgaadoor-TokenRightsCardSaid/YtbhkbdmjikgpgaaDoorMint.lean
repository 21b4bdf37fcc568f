/-
  A book of tokens in memory, and Count, Check, Mint, Copy by contract; the conditions: the book's cells, and how many tokens there are.
  Printed by a program of this repository (wip/tok3.py).
-/
import Derived.Test.YtbhkbdmjikgpgaaDoorBook
import Derived.Test.YtbhkbdmjikgpgaaDoorMem3
import Derived.Test.YtbhkbdmjikgpgaaDoorErr2
import Derived.Lib.SliceRun
import Derived.OneCell
namespace Go.Proofs.YtbhkbdmjikgpgaaDoor
open Go.RowKit Go.Extern.Stop Go.Stop Go.Extern

theorem Tryd.info_cloneG : (Tryd.prog.info? 58).map (fun i => (i.zero, i.size, i.bytes)) = some (some (.agg #[.string ⟨#[]⟩, .int .i64 0, .int .i64 0]), 3, 32) := by kernel_rfl
set_option maxHeartbeats 1000000 in
theorem cloneG_nil (w : World) : Calls Tryd.prog 21 #[.slice none 0 0] w (OwnR w 58 3 0 []) := by
  have he := fun W => Lib.run_eql_slice_nil (P := Tryd.prog) W 28 58 none 0 0 0 0 Tryd.underlying28
  go_enter Tryd.func21, Tryd.ntmps21
  go_wp2
  go_ret
  exact ⟨none, 0, rfl, Mid.nil _ _ _ _, Below.refl _ _⟩
set_option maxHeartbeats 1000000 in
theorem cloneG_some (b : Addr) (c n : Nat) (cs : List Value) (w : World) (h : Sl w 3 (.slice (some b) n c) n cs) (h1 : ∀ u ∈ cs, u.oneCell' = true) (hn : n * 32 ≤ 140737488355328) : Calls Tryd.prog 21 #[.slice (some b) n c] w (OwnR w 58 3 n cs) := by
  have he := fun W => Lib.run_eql_slice_nil (P := Tryd.prog) W 28 58 (some b) n c 0 0 Tryd.underlying28
  obtain ⟨i0, hi, hz0, hz1, hz2⟩ := info_parts Tryd.info_cloneG
  have hM : Mid (w.alloc (.cells #[] 58)) w.heap.size 58 3 (.slice (some ⟨w.heap.size, 0, none⟩) 0 0) 0 [] := by
    have := Mid.new (base := w.heap.size) w 58 3 0 0 #[] (Nat.le_refl _) (Nat.le_refl _) (Nat.zero_le _) (by simp)
    simpa using this
  have hS := (Sl.alloc h (.cells #[] 58)).src (P := Tryd.prog) Tryd.underlying28 h1
  have HM := Lib.hid hM
  have HS := Lib.hid hS
  clear hM hS h h1
  go_enter Tryd.func21, Tryd.ntmps21
  go_wp2_with (at_builtin; refine wpList_append_mid (v := .slice (some ⟨w.heap.size, 0, none⟩) 0 0) rfl _ _ 28 28 rfl i0 (.agg #[.string ⟨#[]⟩, .int .i64 0, .int .i64 0]) 32 Tryd.underlying28 hi hz0 hz1 hz2 rfl rfl HM.out _ rfl n _ HS.out (by unfold maxLen; omega) (by omega) (by simp) ?_; intro a1 c1 w1 hmid hgrow hblk)
  go_ret
  rw [Nat.zero_add] at hmid
  refine ⟨a1, c1, rfl, by simpa using hmid, ?_⟩
  exact ((Below.refl w.heap.size w).alloc (Nat.le_refl _) _).grown hgrow (by simp) (fun k hk => by cases hk; simp)
theorem cloneG (v : Value) (n : Nat) (cs : List Value) (w : World) (h : Sl w 3 v n cs) (h1 : ∀ u ∈ cs, u.oneCell' = true) (hn : n * 32 ≤ 140737488355328) : Calls Tryd.prog 21 #[v] w (OwnR w 58 3 n cs) := by
  obtain ⟨a, c, rfl, _, _, h0⟩ := Sl.len h
  cases a with
  | none =>
    have hx : n = 0 := by
      rcases h.2 with ⟨_, _, _, e, _⟩ | ⟨_, _, _, e, _⟩
      · exact e
      · cases e
    subst hx
    have hc : cs = [] := List.eq_nil_of_length_eq_zero (by simpa using h.1)
    subst hc
    rw [h0 rfl]
    exact cloneG_nil w
  | some b => exact cloneG_some b c n cs w h h1 hn

/-- A book: its cell; its tokens; it lies in the blocks F alone. -/
def Bk (w : World) (jb : Nat) (F : Nat → Prop) (l : List Gr) : Prop :=
  ∃ (a : Option Addr) (c : Nat), w.heap[jb]? = some (.cells #[.slice a l.length c] 30 (0, 0)) ∧ Mid w 0 58 3 (.slice a l.length c) l.length (grFlat l) ∧ F jb ∧ (∀ k, (Value.slice a l.length c).ownBlock = some k → F k ∧ k ≠ jb) ∧ (∀ k, F k → k < w.heap.size) ∧ ∀ g, g ∈ l → g.tok.size ≤ maxLen
theorem Bk.keeps {w w' : World} {jb : Nat} {F S : Nat → Prop} {l : List Gr} (h : Bk w jb F l) (hk : Keeps w w' S) (hs : ∀ k, F k → ¬ S k) : Bk w' jb F l := by
  obtain ⟨a, c, h1, h2, h3, h4, h5, h6⟩ := h
  exact ⟨a, c, (hk.block jb (lt_of_block h1) (hs jb h3)).trans h1, h2.keeps hk fun k hv => hs k (h4 k hv).1, h3, h4, fun k h => by have := h5 k h; have := hk.size; omega, h6⟩
theorem Bk.below {w w' : World} {jb : Nat} {F : Nat → Prop} {l : List Gr} (h : Bk w jb F l) (hb : Below w.heap.size w w') : Bk w' jb F l := by
  obtain ⟨_, _, _, _, _, _, h5, _⟩ := id h
  exact h.keeps (Keeps.of_below hb (S := fun k => w.heap.size ≤ k) fun b h _ => h) fun k hF hn => by have := h5 k hF; omega
theorem Bk.new (w : World) (F : Nat → Prop) (hF : F w.heap.size) (h5 : ∀ k, F k → k ≤ w.heap.size) : Bk (w.alloc (.cells #[.slice none 0 0] 30)) w.heap.size F [] :=
  ⟨none, 0, heap_alloc_new w _, Mid.nil _ _ _ _, hF, fun k hk => (by cases hk), fun k hk => by have := h5 k hk; simp; omega, fun g hg => by cases hg⟩
theorem Bk.read {w : World} {jb : Nat} {F : Nat → Prop} {l : List Gr} (h : Bk w jb F l) : ∃ a c, w.cell? ⟨jb, 0, none⟩ = some (.slice a l.length c) ∧ Grs w (.slice a l.length c) l := by
  obtain ⟨a, c, h1, h2, _, _, _, h6⟩ := h
  exact ⟨a, c, cell_of_block h1 rfl, Sl.ofMid h2, h6⟩
theorem grOne (l : List Gr) : ∀ u ∈ grFlat l, u.oneCell' = true := fun u hu => by
  obtain ⟨g, _, hu⟩ := List.mem_flatMap.1 hu
  simp only [grCells, List.mem_cons, List.not_mem_nil, or_false] at hu
  rcases hu with rfl | rfl | rfl <;> rfl

theorem find_none (jb : Nat) (F : Nat → Prop) (l : List Gr) (t : ByteArray) (w : World) (h : Bk w jb F l) (ht : t.size ≤ maxLen) (hh : hit l t = none) :
    Calls Tryd.prog 12 #[.pointer (some ⟨jb, 0, none⟩), .string t] w fun e w' => e = .returned (.tuple #[.int .i64 0, .int .i64 0, .bool false]) ∧ Below w.heap.size w w' := by
  obtain ⟨a, c, h1, h2⟩ := h.read
  have := find_any jb a c l t w h1 h2 ht
  rw [hh] at this
  exact this
theorem find_some (jb : Nat) (F : Nat → Prop) (l : List Gr) (t : ByteArray) (g : Gr) (w : World) (h : Bk w jb F l) (ht : t.size ≤ maxLen) (hh : hit l t = some g) :
    Calls Tryd.prog 12 #[.pointer (some ⟨jb, 0, none⟩), .string t] w fun e w' => e = .returned (.tuple #[.int .i64 g.who, .int .i64 g.rts, .bool true]) ∧ Below w.heap.size w w' := by
  obtain ⟨a, c, h1, h2⟩ := h.read
  have := find_any jb a c l t w h1 h2 ht
  rw [hh] at this
  exact this

set_option maxHeartbeats 1000000 in
theorem count_any (jb : Nat) (F : Nat → Prop) (l : List Gr) (n : Int) (w : World) (h : Bk w jb F l) :
    Calls Tryd.prog 11 #[.pointer (some ⟨jb, 0, none⟩), .int .i64 n] w fun e w' => e = .returned (.int .i64 (cnt l n)) ∧ Below w.heap.size w w' := by
  obtain ⟨a, c, hj, hl⟩ := h.read
  clear h
  have hlen : l.length ≤ 9223372036854775807 := by
    obtain ⟨a', c', e, h1, h2, _⟩ := hl.1.len
    unfold maxLen at h2; omega
  have HL := Lib.hid hl
  clear hl
  go_enter Tryd.func11, Tryd.ntmps11
  go_wp2
  clear hj
  go_loopw [5, 13] (fun x i wr => ∃ k : Nat, k ≤ l.length ∧ i = .int .i64 k ∧ x = .int .i64 (cnt (l.take k) n) ∧ Below w.heap.size w wr) (fun _ i _ => l.length - (intOf i).toNat)
  case atStart => exact ⟨0, Nat.zero_le _, rfl, rfl, Below.refl _ _⟩
  case round =>
    obtain ⟨k, hk, rfl, rfl, hb⟩ := hrel
    by_cases hlt : k < l.length
    · obtain ⟨b, o, rfl, h1, h2, c0, c1, c2, _⟩ := (HL.out.below hb).get k hlt
      have hn := cnt_take l k hlt n
      have hcl := cnt_le (l.take k) n
      rw [List.length_take] at hcl
      have HB := Lib.hid hb
      clear hb h1
      have i0 : (0 : Int) ≤ (k : Int) := by omega
      have i1 : (k : Int) < (l.length : Int) := by omega
      generalize hG : l[k] = G at *
      clear hG
      obtain ⟨s, u, r⟩ := G
      simp only at c0 c1 c2 hn
      generalize cnt (l.take k) n = C at *
      by_cases he : u = n
      · have hd : (u == n) = true := beq_iff_eq.2 he
        rw [if_pos hd] at hn
        have HN := Lib.hid hn
        clear he hn
        go_wp2
        go_roundw
        case rel => exact ⟨k + 1, by omega, by go_num, by rw [HN.out]; go_num, HB.out.alloc HB.out.size _⟩
        case measure => simp [intOf]; omega
      · have hd : (u == n) = false := beq_eq_false_iff_ne.2 he
        rw [if_neg (by rw [hd]; decide)] at hn
        have HN := Lib.hid hn
        clear he hn
        go_wp2
        go_roundw
        case rel => exact ⟨k + 1, by omega, by go_num, by rw [HN.out]; rfl, HB.out.alloc HB.out.size _⟩
        case measure => simp [intOf]; omega
    · obtain rfl : k = l.length := by omega
      rw [List.take_length]
      have HB := Lib.hid hb
      clear hb
      go_wp2
      go_ret
      exact ⟨rfl, HB.out⟩

/-- What a token lacks. -/
def lack (n r : Int) : Int := bits .andNot .i64 n r
theorem wrap_inj (a b : BitVec 64) (h : IntKind.i64.wrap (a.toNat : Int) = IntKind.i64.wrap (b.toNat : Int)) : a = b := by
  rw [IntKind.wrap_i64, IntKind.wrap_i64] at h
  have h1 := a.isLt
  have h2 := b.isLt
  exact BitVec.eq_of_toNat_eq (by omega)
theorem and_lack (r n : Int) (h0 : -9223372036854775808 ≤ n) (h1 : n ≤ 9223372036854775807) : bits .and .i64 r n = n ↔ lack n r = 0 := by
  have hn : n = IntKind.i64.wrap ((BitVec.ofInt 64 n).toNat : Int) := by
    rw [IntKind.wrap_i64, BitVec.toNat_ofInt]
    omega
  have hz : (0 : Int) = IntKind.i64.wrap ((0#64).toNat : Int) := by decide
  have e1 : bits .and .i64 r n = IntKind.i64.wrap ((BitVec.ofInt 64 r &&& BitVec.ofInt 64 n).toNat : Int) := rfl
  have e2 : lack n r = IntKind.i64.wrap ((BitVec.ofInt 64 n &&& ~~~ BitVec.ofInt 64 r).toNat : Int) := rfl
  rw [e1, e2]
  generalize BitVec.ofInt 64 r = R at *
  generalize BitVec.ofInt 64 n = M at *
  constructor
  · intro h
    rw [hn] at h
    have := wrap_inj _ _ h
    have hm : M &&& ~~~ R = 0#64 := by
      ext i hi
      have := congrArg (fun x => x.getLsbD i) this
      simp only [BitVec.getLsbD_and] at this
      simp [← BitVec.getLsbD_eq_getElem]
      intro hM
      rw [hM] at this
      exact fun _ => by simpa using this
    rw [hm]; exact hz.symm
  · intro h
    rw [hz] at h
    have := wrap_inj _ _ h
    rw [hn]
    congr 2
    congr 1
    ext i hi
    have := congrArg (fun x => x.getLsbD i) this
    simp [hi] at this
    simp
    exact this
end Go.Proofs.YtbhkbdmjikgpgaaDoor
