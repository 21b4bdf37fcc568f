/-
  Contracts of package frame's functions and of slices.Clone at bytes; the conditions: the Joiner's two cells and the bytes that wait lie in blocks of its own; how long they are is bounded.
  Printed by a program of this repository (wip/frame2.py).
-/
import Derived.Test.YtamkappanknklaaDoorErr2
import Derived.Test.YtamkappanknklaaDoorMem2
import Derived.Test.YtamkappanknklaaDoorSplit
import Derived.WalkSpells
import Derived.LoopTactic
namespace Go.Proofs.YtamkappanknklaaDoor
open Go.RowKit Go.Extern.Stop Go.Stop Go.Extern

theorem Tryd.infoB : (Tryd.prog.info? 5).map (fun i => (i.zero, i.size, i.bytes)) = some (some (.int .u8 0), 1, 1) := by kernel_rfl
theorem Tryd.infoBB : (Tryd.prog.info? 23).map (fun i => (i.zero, i.size, i.bytes)) = some (some (.slice none 0 0), 1, 24) := by kernel_rfl

/-- Numbers of bytes. -/
def Byt (xs : List Int) : Prop := ∀ x, x ∈ xs → 0 ≤ x ∧ x ≤ 255
theorem Byt.get {xs : List Int} (h : Byt xs) (j : Nat) : 0 ≤ xs.getD j 0 ∧ xs.getD j 0 ≤ 255 := by
  rw [List.getD_eq_getElem?_getD]
  cases hx : xs[j]? with
  | none => simp
  | some x => exact h x (List.mem_of_getElem? hx)
theorem Byt.append {xs ys : List Int} (h : Byt xs) (k : Byt ys) : Byt (xs ++ ys) := fun x hx => (List.mem_append.1 hx).elim (h x) (k x)
theorem Byt.drop {xs : List Int} (h : Byt xs) (k : Nat) : Byt (xs.drop k) := fun x hx => h x (List.mem_of_mem_drop hx)
theorem Byt.take {xs : List Int} (h : Byt xs) (k : Nat) : Byt (xs.take k) := fun x hx => h x (List.mem_of_mem_take hx)
theorem Byt.nil : Byt [] := fun x hx => by cases hx

theorem size_short (jb n c : Nat) (a : Option Addr) (w : World) (hj : w.cell? ⟨jb, 0, none⟩ = some (.slice a n c)) (hn : n < 4) :
    Calls Tryd.prog 20 #[.pointer (some ⟨jb, 0, none⟩)] w fun e w' => e = .returned (.int .i64 (-1)) ∧ w' = w := by
  go_enter Tryd.func20, Tryd.ntmps20
  go_wp2
  go_ret
  exact ⟨rfl, rfl⟩
set_option maxHeartbeats 1000000 in
theorem size_long0 (jb g o n cap : Nat) (b0 b1 b2 b3 : Int) (w : World) (hj : w.cell? ⟨jb, 0, none⟩ = some (.slice (some ⟨g, o, none⟩) n cap)) (hn : 4 ≤ n) (hm : n ≤ 9223372036854775807)
    (h0 : w.cell? ⟨g, o, none⟩ = some (.int .u8 b0)) (h1 : w.cell? ⟨g, o + 1, none⟩ = some (.int .u8 b1)) (h2 : w.cell? ⟨g, o + 2, none⟩ = some (.int .u8 b2)) (h3 : w.cell? ⟨g, o + 3, none⟩ = some (.int .u8 b3))
    (l0 : 0 ≤ b0) (u0 : b0 ≤ 255) (l1 : 0 ≤ b1) (u1 : b1 ≤ 255) (l2 : 0 ≤ b2) (u2 : b2 ≤ 255) (l3 : 0 ≤ b3) (u3 : b3 ≤ 255) :
    Calls Tryd.prog 20 #[.pointer (some ⟨jb, 0, none⟩)] w fun e w' => e = .returned (.int .i64 (b0 * 16777216 + b1 * 65536 + b2 * 256 + b3)) ∧ ∃ k, w' = w.drewN k := by
  have i0 : (0 : Int) < (n : Int) := by omega
  have i1 : (1 : Int) < (n : Int) := by omega
  have i2 : (2 : Int) < (n : Int) := by omega
  have i3 : (3 : Int) < (n : Int) := by omega
  have hbits := be32_bits b0 b1 b2 b3 l0 u0 l1 u1 l2 u2 l3 u3
  have HB := Lib.hid hbits; clear hbits
  go_enter Tryd.func20, Tryd.ntmps20
  go_wp2_with fail
  go_quiet (fail)
  go_wp2
  go_ret
  refine ⟨?_, _, rfl⟩
  rw [← HB.out]
  rfl
theorem size_long (jb g o cap : Nat) (xs : List Int) (w : World) (hj : w.cell? ⟨jb, 0, none⟩ = some (.slice (some ⟨g, o, none⟩) xs.length cap)) (hn : ¬ xs.length < 4) (hm : xs.length ≤ maxLen) (hx : Byt xs)
    (hc : ∀ j x, xs[j]? = some x → w.cell? ⟨g, o + j, none⟩ = some (.int .u8 x)) :
    Calls Tryd.prog 20 #[.pointer (some ⟨jb, 0, none⟩)] w fun e w' => e = .returned (.int .i64 (be xs)) ∧ ∃ k, w' = w.drewN k := by
  have hg : ∀ j, j < 4 → xs[j]? = some (xs.getD j 0) := fun j hj4 => by
    rw [List.getD_eq_getElem?_getD, List.getElem?_eq_getElem (by omega)]; rfl
  unfold maxLen at hm
  unfold be
  exact size_long0 jb g o xs.length cap _ _ _ _ w hj (by omega) (by omega) (hc 0 _ (hg 0 (by omega))) (hc 1 _ (hg 1 (by omega))) (hc 2 _ (hg 2 (by omega))) (hc 3 _ (hg 3 (by omega)))
    (hx.get 0).1 (hx.get 0).2 (hx.get 1).1 (hx.get 1).2 (hx.get 2).1 (hx.get 2).2 (hx.get 3).1 (hx.get 3).2

/-- What slices.Clone answers: a slice of its own that reads as the given one. -/
def CloneR (w : World) (xs : List Int) (e : Ending) (w' : World) : Prop :=
  ∃ a c, e = .returned (.slice a xs.length c) ∧ Mid w' w.heap.size 5 1 (.slice a xs.length c) xs.length (xs.map B8) ∧ Below w.heap.size w w'
set_option maxHeartbeats 1000000 in
theorem clone_nil (w : World) : Calls Tryd.prog 22 #[.slice none 0 0] w (CloneR w []) := by
  have he := fun W => Lib.run_eql_slice_nil (P := Tryd.prog) W 23 5 none 0 0 0 0 Tryd.underlying23
  go_enter Tryd.func22, Tryd.ntmps22
  go_wp2
  go_ret
  exact ⟨none, 0, rfl, Mid.nil _ _ _ _, Below.refl _ _⟩
set_option maxHeartbeats 1000000 in
theorem clone_some (b : Addr) (c : Nat) (xs : List Int) (w : World) (h : Bytes w (.slice (some b) xs.length c) xs) (hn : xs.length ≤ 140737488355328) : Calls Tryd.prog 22 #[.slice (some b) xs.length c] w (CloneR w xs) := by
  have he := fun W => Lib.run_eql_slice_nil (P := Tryd.prog) W 23 5 (some b) xs.length c 0 0 Tryd.underlying23
  obtain ⟨i0, hi, hz0, hz1, hz2⟩ := info_parts Tryd.infoB
  have hM : Mid (w.alloc (.cells #[] 5)) w.heap.size 5 1 (.slice (some ⟨w.heap.size, 0, none⟩) 0 0) 0 [] := by
    have := Mid.new (base := w.heap.size) w 5 1 0 0 #[] (Nat.le_refl _) (Nat.le_refl _) (Nat.zero_le _) (by simp)
    simpa using this
  have hS := (Sl.alloc h (.cells #[] 5)).src (P := Tryd.prog) Tryd.underlying23 (one_B8 xs)
  have HM := Lib.hid hM
  have HS := Lib.hid hS
  clear hM hS h
  go_enter Tryd.func22, Tryd.ntmps22
  go_wp2_with (at_builtin; refine wpList_append_mid (v := .slice (some ⟨w.heap.size, 0, none⟩) 0 0) rfl _ _ 23 23 rfl i0 (.int .u8 0) 1 Tryd.underlying23 hi hz0 hz1 hz2 rfl rfl HM.out _ rfl xs.length _ HS.out (by unfold maxLen; omega) (by omega) (by simp) ?_; intro a1 c1 w1 hmid hgrow hblk)
  go_ret
  rw [Nat.zero_add] at hmid
  refine ⟨a1, c1, rfl, by simpa using hmid, ?_⟩
  exact ((Below.refl w.heap.size w).alloc (Nat.le_refl _) _).grown hgrow (by simp) (fun k hk => by cases hk; simp)
theorem clone_any (v : Value) (xs : List Int) (w : World) (h : Bytes w v xs) (hn : xs.length ≤ 140737488355328) : Calls Tryd.prog 22 #[v] w (CloneR w xs) := by
  obtain ⟨a, c, rfl, _, _, h0⟩ := Sl.len h
  cases a with
  | none =>
    have hx : xs = [] := by
      rcases h.2 with ⟨_, _, _, e, _⟩ | ⟨_, _, _, e, _⟩
      · exact List.eq_nil_of_length_eq_zero e
      · cases e
    subst hx
    rw [h0 rfl]
    exact clone_nil w
  | some b => exact clone_some b c xs w h hn


/-- A Joiner: its two cells; what waits; whether the stream has ended; it lies in the blocks F alone. -/
def J (w : World) (jb : Nat) (F : Nat → Prop) (rest : List Int) (dead : Bool) : Prop :=
  ∃ v, w.heap[jb]? = some (.cells #[v, .bool dead] 32 (0, 0)) ∧ Mid w 0 5 1 v rest.length (rest.map B8) ∧ F jb ∧ Byt rest ∧ ∀ k, v.ownBlock = some k → F k ∧ k ≠ jb
theorem J.keeps {w w' : World} {jb : Nat} {F S : Nat → Prop} {rest : List Int} {dead : Bool} (h : J w jb F rest dead) (hk : Keeps w w' S) (hs : ∀ k, F k → ¬ S k) : J w' jb F rest dead := by
  obtain ⟨v, h1, h2, h3, h4, h5⟩ := h
  exact ⟨v, (hk.block jb (Array.getElem?_eq_some_iff.1 h1).1 (hs jb h3)).trans h1, h2.same fun k hv => hk.block k (h2.lt k hv).2 (hs k (h5 k hv).1), h3, h4, h5⟩
theorem J.lt {w : World} {jb : Nat} {F : Nat → Prop} {rest : List Int} {dead : Bool} (h : J w jb F rest dead) : jb < w.heap.size := by
  obtain ⟨v, h1, _⟩ := h
  exact (Array.getElem?_eq_some_iff.1 h1).1
theorem J.mono {w : World} {jb : Nat} {F F2 : Nat → Prop} {rest : List Int} {dead : Bool} (h : J w jb F rest dead) (hf : ∀ k, k < w.heap.size → F k → F2 k) : J w jb F2 rest dead := by
  obtain ⟨v, h1, h2, h3, h4, h5⟩ := h
  exact ⟨v, h1, h2, hf _ (Array.getElem?_eq_some_iff.1 h1).1 h3, h4, fun k hk => ⟨hf k (h2.lt k hk).2 (h5 k hk).1, (h5 k hk).2⟩⟩
theorem J.new (w : World) (F : Nat → Prop) (hF : F w.heap.size) : J (w.alloc (.cells #[.slice none 0 0, .bool false] 32)) w.heap.size F [] false :=
  ⟨_, heap_alloc_new w _, by simpa using Mid.nil _ _ _ _, hF, Byt.nil, fun k hk => by cases hk⟩
theorem cell_of_block {w : World} {b j : Nat} {cs : Array Value} {t : TypeId} {u : Value} (h : w.heap[b]? = some (.cells cs t (0, 0))) (hj : cs[j]? = some u) : w.cell? ⟨b, j, none⟩ = some u := by
  simp [World.cell?, h, hj]
theorem free_of_block {w : World} {b j : Nat} {cs : Array Value} {t : TypeId} (h : w.heap[b]? = some (.cells cs t (0, 0))) : w.frozen? ⟨b, j, none⟩ = false := by
  simp [World.frozen?, h]
theorem block_setCell {w : World} {b j : Nat} {cs : Array Value} {t : TypeId} {u : Value} (h : w.heap[b]? = some (.cells cs t (0, 0))) : (w.setCell ⟨b, j, none⟩ u).heap[b]? = some (.cells (cs.setIfInBounds j u) t (0, 0)) := by
  simp [World.setCell, Array.getElem?_modify, h]

theorem dead_any (jb : Nat) (F : Nat → Prop) (rest : List Int) (dead : Bool) (w : World) (h : J w jb F rest dead) : Calls Tryd.prog 14 #[.pointer (some ⟨jb, 0, none⟩)] w fun e w' => e = .returned (.bool dead) ∧ w' = w := by
  obtain ⟨v, h1, _⟩ := h
  have c1 := cell_of_block (j := 1) h1 rfl
  clear h1
  go_enter Tryd.func14, Tryd.ntmps14
  go_wp2
  go_ret
  exact ⟨rfl, rfl⟩
theorem left_any (jb : Nat) (F : Nat → Prop) (rest : List Int) (dead : Bool) (w : World) (h : J w jb F rest dead) : Calls Tryd.prog 13 #[.pointer (some ⟨jb, 0, none⟩)] w fun e w' => e = .returned (.int .i64 rest.length) ∧ w' = w := by
  obtain ⟨v, h1, h2, _⟩ := h
  obtain ⟨a, c, rfl⟩ := h2.slice
  have c0 := cell_of_block (j := 0) h1 rfl
  clear h1 h2
  go_enter Tryd.func13, Tryd.ntmps13
  go_wp2
  go_ret
  exact ⟨rfl, rfl⟩
theorem feed_dead (jb : Nat) (F : Nat → Prop) (rest : List Int) (pv : Value) (w : World) (h : J w jb F rest true) : Calls Tryd.prog 11 #[.pointer (some ⟨jb, 0, none⟩), pv] w fun e w' => e = .returned (.tuple #[.slice none 0 0, eE 300]) ∧ w' = w := by
  obtain ⟨v, h1, _⟩ := h
  have c1 := cell_of_block (j := 1) h1 rfl
  clear h1
  unfold eE
  go_enter Tryd.func11, Tryd.ntmps11
  go_wp2
  go_ret2
  exact ⟨rfl, rfl⟩


/-- A slice of slices of bytes of the call's own: the outer row, and the bytes of each. -/
def RowsV (w : World) (H : Nat) (v : Value) (xss : List (List Int)) (vs : List Value) : Prop :=
  Mid w H 23 1 v xss.length vs ∧ ∀ (i : Nat) (x : Value), vs[i]? = some x → ∃ xs, xss[i]? = some xs ∧ Bytes w x xs ∧ x.oneCell' = true ∧ (∀ k, x.ownBlock = some k → k < w.heap.size) ∧ ∀ k, x.ownBlock = some k → H ≤ k ∧ v.ownBlock ≠ some k
theorem RowsV.nil (w : World) (H : Nat) : RowsV w H (.slice none 0 0) [] [] := by
  refine ⟨Mid.nil _ _ _ _, fun (i : Nat) (x : Value) (h : ([] : List Value)[i]? = some x) => ?_⟩
  simp at h
theorem RowsV.keeps {w w' : World} {H : Nat} {v : Value} {xss : List (List Int)} {vs : List Value} {S : Nat → Prop} (h : RowsV w H v xss vs) (hk : Keeps w w' S) (hs : ∀ k, H ≤ k → ¬ S k) : RowsV w' H v xss vs := by
  refine ⟨h.1.same fun k hv => hk.block k (h.1.lt k hv).2 (hs k (h.1.lt k hv).1), fun i x hx => ?_⟩
  obtain ⟨xs, e, hb, h1, hl, hf⟩ := h.2 i x hx
  exact ⟨xs, e, Sl.keeps hb hk fun k _ hv => hs k (hf k hv).1, h1, fun k hk2 => Nat.lt_of_lt_of_le (hl k hk2) hk.size, hf⟩
theorem RowsV.push {w w' : World} {H : Nat} {v v' : Value} {xss : List (List Int)} {vs : List Value} {x : Value} {xs : List Int} (h : RowsV w H v xss vs) (hx : Bytes w x xs) (h1 : x.oneCell' = true) (hxl : ∀ k, x.ownBlock = some k → k < w.heap.size)
    (hf : ∀ k, x.ownBlock = some k → H ≤ k ∧ v.ownBlock ≠ some k) (hm : Mid w' H 23 1 v' (xss.length + 1) (vs ++ [x])) (hg : w.grownBy w' v.ownBlock) (hb : v'.ownBlock = v.ownBlock ∨ v'.ownBlock = some w.heap.size) :
    RowsV w' H v' (xss ++ [xs]) (vs ++ [x]) := by
  have stays : ∀ (y : Value) (ys : List Int), Bytes w y ys → (∀ k, y.ownBlock = some k → k < w.heap.size) → (∀ k, y.ownBlock = some k → H ≤ k ∧ v.ownBlock ≠ some k) → Bytes w' y ys ∧ ∀ k, y.ownBlock = some k → H ≤ k ∧ v'.ownBlock ≠ some k := by
    intro y ys hy hyl hyf
    refine ⟨Sl.same hy hg.size fun k hlt hk => hg.block k hlt fun e => (hyf k hk).2 e.symm, fun k hk => ⟨(hyf k hk).1, ?_⟩⟩
    rcases hb with e | e
    · rw [e]; exact (hyf k hk).2
    · rw [e]; have := hyl k hk; simp; omega
  have hl : vs.length = xss.length := by simpa using h.1.1
  refine ⟨by simpa using hm, fun i y hy => ?_⟩
  rcases Nat.lt_or_ge i vs.length with hi | hi
  · rw [List.getElem?_append_left hi] at hy
    obtain ⟨ys, e, hb', h1', hl', hf'⟩ := h.2 i y hy
    exact ⟨ys, by rw [List.getElem?_append_left (by omega)]; exact e, (stays y ys hb' hl' hf').1, h1', fun k hk => Nat.lt_of_lt_of_le (hl' k hk) hg.size, (stays y ys hb' hl' hf').2⟩
  · have hi0 : i = vs.length := by
      have := (List.getElem?_eq_some_iff.1 hy).1
      simp at this; omega
    subst hi0
    simp at hy
    subst hy
    exact ⟨xs, by rw [List.getElem?_append_right (by omega)]; simp [hl], (stays x xs hx hxl hf).1, h1, fun k hk => Nat.lt_of_lt_of_le (hxl k hk) hg.size, (stays x xs hx hxl hf).2⟩
theorem Sl.one (w : World) (e : TypeId) (u : Value) : Sl (w.alloc (.cells #[u] e)) 1 (.slice (some ⟨w.heap.size, 0, none⟩) 1 1) 1 [u] :=
  ⟨rfl, .inr ⟨w.heap.size, 0, 1, rfl, Nat.le_refl _, by unfold maxLen; omega, by simp, fun j y hj => by
    have : j = 0 := by have := (List.getElem?_eq_some_iff.1 hj).1; simp at this; omega
    subst this
    simpa using hj⟩⟩

/-- The loop of Feed: what has come out, what waits, and where. -/
def FeedRel (W1 : World) (jb : Nat) (RB : Option Nat) (total : List Int) (ov : Value) (wr : World) : Prop :=
  ∃ (os : List (List Int)) (rest : List Int) (a : Option Addr) (c : Nat) (oa : Option Addr) (oc : Nat) (vs : List Value),
    wr.heap[jb]? = some (.cells #[.slice a rest.length c, .bool false] 32 (0, 0)) ∧ Mid wr 0 5 1 (.slice a rest.length c) rest.length (rest.map B8) ∧ (∀ k, (Value.slice a rest.length c).ownBlock = some k → some k = RB) ∧ Byt rest ∧ rest.length ≤ total.length ∧
    split total = (os ++ (split rest).1, (split rest).2) ∧ ov = .slice oa os.length oc ∧ RowsV wr W1.heap.size (.slice oa os.length oc) os vs ∧ Keeps W1 wr (fun k => k = jb)
/-- How many bytes wait. -/
def restLen (jb : Nat) (w : World) : Nat := match w.cell? ⟨jb, 0, none⟩ with | some (.slice _ n _) => n | _ => 0

/-- What Feed answers, and leaves. -/
def FeedPost (w : World) (jb : Nat) (F : Nat → Prop) (total : List Int) (e : Ending) (w' : World) : Prop :=
  ∃ (oa : Option Addr) (oc : Nat) (ev : Value) (vs : List Value) (F' : Nat → Prop), e = .returned (.tuple #[.slice oa (split total).1.length oc, ev]) ∧ RowsV w' w.heap.size (.slice oa (split total).1.length oc) (split total).1 vs ∧
    J w' jb F' (split total).2.1 (split total).2.2 ∧ (∀ k, F' k → F k ∨ w.heap.size ≤ k) ∧ (∀ k, (Value.slice oa (split total).1.length oc).ownBlock = some k → ¬ F' k) ∧ (∀ x, x ∈ vs → ∀ k, x.ownBlock = some k → ¬ F' k) ∧
    Keeps w w' F ∧ (((split total).2.2 = false ∧ ev = .nilIface) ∨ ((split total).2.2 = true ∧ ∃ fb, ev = eF fb ∧ IsF w' fb ⟨#[102, 114, 97, 109, 101]⟩ (split total).1.length 260 ∧ w.heap.size ≤ fb))
theorem RowsV.mono {w : World} {H H2 : Nat} {v : Value} {xss : List (List Int)} {vs : List Value} (h : RowsV w H v xss vs) (hH : H2 ≤ H) : RowsV w H2 v xss vs :=
  ⟨h.1.mono hH, fun i x hx => by
    obtain ⟨xs, e, hb, h1, hl, hf⟩ := h.2 i x hx
    exact ⟨xs, e, hb, h1, hl, fun k hk => ⟨Nat.le_trans hH (hf k hk).1, (hf k hk).2⟩⟩⟩
theorem feed_wait {w W1 wz : World} {jb : Nat} {F : Nat → Prop} {RB : Option Nat} {tot : List Int} {os : List (List Int)} {r : List Int} {a : Option Addr} {c : Nat} {oa : Option Addr} {oc : Nat} {vs : List Value} (hd : split tot = (os, r, false))
    (g1 : wz.heap[jb]? = some (.cells #[.slice a r.length c, .bool false] 32 (0, 0))) (g2 : Mid wz 0 5 1 (.slice a r.length c) r.length (r.map B8)) (g3 : ∀ k, (Value.slice a r.length c).ownBlock = some k → some k = RB) (g4 : Byt r)
    (g7 : RowsV wz W1.heap.size (.slice oa os.length oc) os vs) (g8 : Keeps W1 wz (fun k => k = jb)) (hK1 : Keeps w W1 F) (hF : F jb) (hjl : jb < W1.heap.size) (hRB : ∀ k, some k = RB → (F k ∨ w.heap.size ≤ k) ∧ k ≠ jb ∧ k < W1.heap.size) :
    FeedPost w jb F tot (.returned (.tuple #[.slice oa os.length oc, .nilIface])) wz := by
  unfold FeedPost
  rw [hd]
  refine ⟨oa, oc, .nilIface, vs, fun k => k = jb ∨ some k = RB, rfl, g7.mono hK1.size, ⟨_, g1, g2, .inl rfl, g4, fun k hk => ⟨.inr (g3 k hk), (hRB k (g3 k hk)).2.1⟩⟩, ?_, ?_, ?_, hK1.trans g8 (fun b _ hb => hb ▸ hF), .inl ⟨rfl, rfl⟩⟩
  · rintro k (rfl | hk)
    · exact .inl hF
    · exact (hRB k hk).1
  · rintro k hk (rfl | hk2)
    · have := (g7.1.lt k hk).1; omega
    · have := (g7.1.lt k hk).1; have := (hRB k hk2).2.2; omega
  · rintro x hx k hk (rfl | hk2)
    · obtain ⟨i, hi⟩ := List.mem_iff_getElem?.1 hx
      obtain ⟨xs, _, _, _, _, hf⟩ := g7.2 i x hi
      have := (hf k hk).1; omega
    · obtain ⟨i, hi⟩ := List.mem_iff_getElem?.1 hx
      obtain ⟨xs, _, _, _, _, hf⟩ := g7.2 i x hi
      have := (hf k hk).1; have := (hRB k hk2).2.2; omega
theorem feed_kill {w W1 wz wf : World} {jb fb : Nat} {F : Nat → Prop} {tot : List Int} {os : List (List Int)} {oa : Option Addr} {oc : Nat} {vs : List Value} (hd : split tot = (os, [], true))
    (g1 : wf.heap[jb]? = some (.cells #[.slice none 0 0, .bool true] 32 (0, 0))) (hx : IsF wf fb ⟨#[102, 114, 97, 109, 101]⟩ os.length 260)
    (g7 : RowsV wz W1.heap.size (.slice oa os.length oc) os vs) (g8 : Keeps W1 wz (fun k => k = jb)) (g9 : Keeps wz wf (fun k => k = jb)) (hK1 : Keeps w W1 F) (hF : F jb) (hjl : jb < W1.heap.size) (hfb : w.heap.size ≤ fb) :
    FeedPost w jb F tot (.returned (.tuple #[.slice oa os.length oc, eF fb])) wf := by
  unfold FeedPost
  rw [hd]
  refine ⟨oa, oc, eF fb, vs, fun k => k = jb, rfl, (g7.keeps g9 (fun k hk e => by omega)).mono hK1.size, ⟨_, g1, by simpa using Mid.nil _ _ _ _, rfl, Byt.nil, fun k hk => by cases hk⟩, fun k hk => .inl (hk ▸ hF), ?_, ?_,
    (hK1.trans g8 (fun b _ hb => hb ▸ hF)).trans g9 (fun b _ hb => hb ▸ hF), .inr ⟨rfl, fb, rfl, hx, hfb⟩⟩
  · rintro k hk rfl
    have := (g7.1.lt k hk).1; omega
  · rintro x hxm k hk rfl
    obtain ⟨i, hi⟩ := List.mem_iff_getElem?.1 hxm
    obtain ⟨xs, _, _, _, _, hf⟩ := g7.2 i x hi
    have := (hf k hk).1; omega
theorem Bytes.sub {w : World} {base g o c : Nat} {r : List Int} (h : Mid w base 5 1 (.slice (some ⟨g, o, none⟩) r.length c) r.length (r.map B8)) (lo n : Nat) (hn : lo + n ≤ r.length) :
    Bytes w (.slice (some ⟨g, o + lo, none⟩) n (c - lo)) ((r.drop lo).take n) := by
  have hl : ((r.drop lo).take n).length = n := by rw [List.length_take, List.length_drop]; omega
  unfold Bytes
  rw [hl]
  rcases h.form with ⟨e, _⟩ | ⟨g', o', c', e, _, hg, hnc, hcm⟩
  · cases e
  · cases e
    refine ⟨by simp; omega, .inr ⟨g, o + lo, c - lo, rfl, by omega, by omega, hg, fun j u hj => ?_⟩⟩
    have hj' : (r.map B8)[lo + j]? = some u := by
      rw [List.map_take, List.map_drop, List.getElem?_take] at hj
      split at hj
      · rw [List.getElem?_drop] at hj; exact hj
      · cases hj
    have := h.cell (lo + j) u hj'
    rwa [← Nat.add_assoc] at this
theorem restLen_set {w : World} {jb n c : Nat} {x y : Value} {t : TypeId} {a : Option Addr} (h : w.heap[jb]? = some (.cells #[x, y] t (0, 0))) : restLen jb (w.setCell ⟨jb, 0, none⟩ (.slice a n c)) = n := by
  unfold restLen
  rw [cell_of_block (j := 0) (block_setCell (j := 0) (u := .slice a n c) h) rfl]
  rfl
theorem one_slice (a : Option Addr) (n c : Nat) : (Value.slice a n c).oneCell' = true := rfl
theorem feed_round {W1 wr w2 w3 : World} {jb : Nat} {RB : Option Nat} {tot r xs : List Int} {os : List (List Int)} {g o c k : Nat} {oa : Option Addr} {oc : Nat} {vs : List Value} {a2 : Option Addr} {c2 : Nat} {a3 : Option Addr} {c3 : Nat} {a4 : Option Addr} {n4 c4 : Nat}
    (hsp : split tot = (os ++ (split r).1, (split r).2)) (hsr : split r = (xs :: (split (r.drop k)).1, (split (r.drop k)).2))
    (g1 : wr.heap[jb]? = some (.cells #[.slice (some ⟨g, o, none⟩) r.length c, .bool false] 32 (0, 0))) (g2 : Mid wr 0 5 1 (.slice (some ⟨g, o, none⟩) r.length c) r.length (r.map B8)) (g3 : some g = RB) (hgj : g ≠ jb) (hgW : g < W1.heap.size) (g4 : Byt r) (g5 : r.length ≤ tot.length)
    (g7 : RowsV wr W1.heap.size (.slice oa os.length oc) os vs) (g8 : Keeps W1 wr (fun b => b = jb)) (hjl : jb < W1.heap.size)
    (hb2 : Below wr.heap.size wr w2) (hm2 : Mid w2 wr.heap.size 5 1 (.slice a2 xs.length c2) xs.length (xs.map B8))
    (hm3 : Mid w3 W1.heap.size 23 1 (.slice a3 (os.length + 1) c3) (os.length + 1) (vs ++ [.slice a2 xs.length c2])) (hg3 : (w2.alloc (.cells #[.slice a2 xs.length c2] 23)).grownBy w3 (Value.slice oa os.length oc).ownBlock)
    (hb3 : (Value.slice a3 (os.length + 1) c3).ownBlock = (Value.slice oa os.length oc).ownBlock ∨ (Value.slice a3 (os.length + 1) c3).ownBlock = some (w2.alloc (.cells #[.slice a2 xs.length c2] 23)).heap.size)
    (h4 : ∀ w', w'.heap[g]? = wr.heap[g]? → Mid w' 0 5 1 (.slice a4 n4 c4) n4 ((r.drop k).map B8)) (h4b : ∀ b, (Value.slice a4 n4 c4).ownBlock = some b → b = g) (hn4 : n4 = (r.drop k).length) :
    FeedRel W1 jb RB tot (.slice a3 (os.length + 1) c3) (w3.setCell ⟨jb, 0, none⟩ (.slice a4 n4 c4)) := by
  subst hn4
  have hjw : jb < wr.heap.size := (Array.getElem?_eq_some_iff.1 g1).1
  have hgw : g < wr.heap.size := (g2.lt g rfl).2
  have hWw : W1.heap.size ≤ wr.heap.size := g8.size
  have hob : ∀ b, (Value.slice oa os.length oc).ownBlock = some b → W1.heap.size ≤ b ∧ b < wr.heap.size := g7.1.lt
  have hz2 : wr.heap.size ≤ w2.heap.size := hb2.size
  have hstay : ∀ b, b < W1.heap.size → w3.heap[b]? = wr.heap[b]? := fun b hb => by
    rw [hg3.block b (by simp; omega) (fun e => by have := hob b e.symm; omega), Below.heap_alloc _ _ _ (by omega), hb2.block b (by omega)]
  have hj3 : w3.heap[jb]? = some (.cells #[.slice (some ⟨g, o, none⟩) r.length c, .bool false] 32 (0, 0)) := (hstay jb hjl).trans g1
  have hr2 : RowsV (w2.alloc (.cells #[.slice a2 xs.length c2] 23)) W1.heap.size (.slice oa os.length oc) os vs :=
    (g7.keeps (Keeps.of_below hb2 (S := fun b => wr.heap.size ≤ b ∧ b < wr.heap.size) (fun b h1 h2 => ⟨h1, h2⟩)) (fun b _ h => by omega)).keeps (Keeps.alloc _ _ (fun _ => False)) (fun _ _ h => h)
  have hx2 : Bytes (w2.alloc (.cells #[.slice a2 xs.length c2] 23)) (.slice a2 xs.length c2) xs := Sl.ofMid (hm2.alloc _)
  have hpush := hr2.push hx2 rfl (fun b hb => by have := (hm2.lt b hb).2; simp; omega) (fun b hb => ⟨by have := (hm2.lt b hb).1; omega, fun e => by have := (hm2.lt b hb).1; have := hob b e; omega⟩) hm3 hg3 hb3
  have hK : Keeps W1 (w3.setCell ⟨jb, 0, none⟩ (.slice a4 (r.drop k).length c4)) (fun b => b = jb) := by
    have e1 : Keeps wr w2 (fun b => b = jb) := Keeps.of_below hb2 (fun b h1 h2 => by omega)
    have e2 : Keeps W1 (w2.alloc (.cells #[.slice a2 xs.length c2] 23)) (fun b => b = jb) := (g8.trans e1 (fun _ _ h => h)).trans (Keeps.alloc _ _ _) (fun _ _ h => h)
    exact (e2.trans (Keeps.of_grown hg3 (S := fun b => some b = (Value.slice oa os.length oc).ownBlock) (fun b hb => hb.symm)) (fun b hb h => by have := hob b h.symm; omega)).trans (Keeps.setCell _ _ _ (S := fun b => b = jb) rfl) (fun _ _ h => h)
  refine ⟨os ++ [xs], r.drop k, a4, c4, a3, c3, vs ++ [.slice a2 xs.length c2], ?_, ?_, ?_, g4.drop k, by rw [List.length_drop]; omega, ?_, by simp, ?_, hK⟩
  · exact block_setCell hj3
  · exact h4 _ ((Below.heap_setCell _ _ _ _ hgj).trans (hstay g hgW))
  · intro b hb; rw [h4b b hb]; exact g3
  · rw [hsp, hsr]; simp
  · have := hpush.keeps (Keeps.setCell w3 ⟨jb, 0, none⟩ (.slice a4 (r.drop k).length c4) (S := fun b => b = jb) rfl) (fun b hb e => by omega)
    simpa using this
set_option maxRecDepth 100000 in
set_option maxHeartbeats 4000000 in
theorem feed_live (jb : Nat) (F : Nat → Prop) (rest bs : List Int) (pv : Value) (w : World) (h : J w jb F rest false) (hp : Bytes w pv bs) (hb : Byt bs) (hlen : rest.length + bs.length ≤ 4294967296) :
    Calls Tryd.prog 11 #[.pointer (some ⟨jb, 0, none⟩), pv] w (FeedPost w jb F (rest ++ bs)) := by
  obtain ⟨i0, hi, hz0, hz1, hz2⟩ := info_parts Tryd.infoB
  obtain ⟨i1, hi1, hy0, hy1, hy2⟩ := info_parts Tryd.infoBB
  obtain ⟨v, h1, h2, h3, h4, h5⟩ := h
  obtain ⟨a0, c0, rfl⟩ := h2.slice
  have hjl : jb < w.heap.size := (Array.getElem?_eq_some_iff.1 h1).1
  have hc0 := cell_of_block (j := 0) h1 rfl
  have hc1 := cell_of_block (j := 1) h1 rfl
  have hS := Sl.src (P := Tryd.prog) Tryd.underlying23 hp (one_B8 bs)
  have HM := Lib.hid h2
  have HS := Lib.hid hS
  have HJ := Lib.hid h1
  have H5 := Lib.hid h5
  clear h1 h2 hS hp h5
  go_enter Tryd.func11, Tryd.ntmps11
  go_wp2_with (at_builtin; refine wpList_append_mid (v := .slice a0 rest.length c0) rfl _ _ 23 23 rfl i0 (.int .u8 0) 1 Tryd.underlying23 hi hz0 hz1 hz2 rfl rfl HM.out _ rfl bs.length _ HS.out (by unfold maxLen; omega) (by omega) (Nat.zero_le _) ?_; intro a1 c1 w1 hmid hgrow hblk; have hjb := (hgrow.block jb hjl (fun ee => (H5.out jb ee.symm).2 rfl)).trans HJ.out; have kc0 := cell_of_block (j := 0) hjb rfl; have kc1 := cell_of_block (j := 1) hjb rfl; have kf0 := free_of_block (j := 0) hjb; have HMID := Lib.hid hmid; have HGROW := Lib.hid hgrow; have HBLK := Lib.hid hblk; have HJB := Lib.hid hjb; clear hmid hgrow hblk hjb)
  have hbne : (Value.slice a1 (rest.length + bs.length) c1).ownBlock ≠ some jb := by
    intro ee
    rcases HBLK.out with e2 | e2
    · exact (H5.out jb (e2 ▸ ee)).2 rfl
    · rw [ee] at e2; simp at e2; omega
  have hK1 : Keeps w (w1.setCell ⟨jb, 0, none⟩ (.slice a1 (rest.length + bs.length) c1)) F :=
    (Keeps.of_grown HGROW.out (fun b hb => (H5.out b hb).1)).trans (Keeps.setCell _ _ _ (S := fun k => k = jb) rfl) (fun b _ hb => hb ▸ h3)
  have hM1 := HMID.out.setCell (a := ⟨jb, 0, none⟩) (.slice a1 (rest.length + bs.length) c1) hbne
  have hJ1 := block_setCell (j := 0) (u := .slice a1 (rest.length + bs.length) c1) HJB.out
  have hRB : ∀ k, some k = (Value.slice a1 (rest.length + bs.length) c1).ownBlock → (F k ∨ w.heap.size ≤ k) ∧ k ≠ jb ∧ k < w1.heap.size := fun k hk => by
    refine ⟨?_, fun e => hbne (by rw [← hk, e]), (HMID.out.lt k hk.symm).2⟩
    rcases HBLK.out with e2 | e2
    · exact .inl (H5.out k (e2 ▸ hk.symm)).1
    · rw [e2] at hk; exact .inr (by simp at hk; omega)
  rw [← List.map_append] at hM1
  rw [← List.length_append] at hM1 hJ1 hRB hK1
  rw [← List.length_append] at hlen
  have hbt : Byt (rest ++ bs) := h4.append hb
  have hsz1 : w1.heap.size = (w1.setCell ⟨jb, 0, none⟩ (.slice a1 (rest ++ bs).length c1)).heap.size := (World.size_setCell _ _ _).symm
  rw [hsz1] at hRB
  simp only [← List.length_append]
  clear HMID HGROW HBLK HJB kc0 kc1 kf0 HM HS HJ hc0 hc1 hbne hsz1
  generalize w1.setCell ⟨jb, 0, none⟩ (.slice a1 (rest ++ bs).length c1) = W1 at *
  generalize hRBe : (Value.slice a1 (rest ++ bs).length c1).ownBlock = RB at *
  generalize rest ++ bs = tot at *
  have HK1 := Lib.hid hK1
  have HM1 := Lib.hid hM1
  have HJ1 := Lib.hid hJ1
  have HRB := Lib.hid hRB
  have HRBE := Lib.hid hRBe
  clear hK1 hM1 hJ1 hRB hRBe
  have hjl1 : jb < W1.heap.size := (Array.getElem?_eq_some_iff.1 HJ1.out).1
  go_loopw [6] (fun ov wr => FeedRel W1 jb RB tot ov wr) (fun _ wr => restLen jb wr)
  case atStart => exact ⟨[], tot, a1, c1, none, 0, [], HJ1.out, HM1.out, fun k hk => by rw [← HRBE.out]; exact hk.symm, hbt, Nat.le_refl _, rfl, rfl, RowsV.nil _ _, Keeps.refl _ _⟩
  case round =>
    obtain ⟨os, r, a, c, oa, oc, vs, g1, g2, g3, g4, g5, g6, rfl, g7, g8⟩ := hrel
    have kc0 := cell_of_block (j := 0) g1 rfl
    have kc1 := cell_of_block (j := 1) g1 rfl
    have G1 := Lib.hid g1
    have G2 := Lib.hid g2
    have G3 := Lib.hid g3
    have G6 := Lib.hid g6
    have G7 := Lib.hid g7
    have G8 := Lib.hid g8
    clear g1 g2 g3 g6 g7 g8
    by_cases hs4 : r.length < 4
    · go_wp2_with fail
      refine (size_short jb r.length c a _ kc0 hs4).mono ?_
      rintro e w' ⟨rfl, rfl⟩
      go_wp2_with fail
      go_ret2
      exact feed_wait (by rw [G6.out, split_short hs4]; simp) G1.out G2.out G3.out g4 G7.out G8.out HK1.out h3 hjl1 HRB.out
    · rcases G2.out.form with ⟨_, h0, _⟩ | ⟨g, o, cap, hav, _, hgl, hnc, hcm⟩
      · omega
      obtain ⟨rfl, rfl⟩ : a = some ⟨g, o, none⟩ ∧ c = cap := by cases hav; exact ⟨rfl, rfl⟩
      clear hav
      have hcell := G2.out.cell
      have hcl : ∀ j x, r[j]? = some x → wr.cell? ⟨g, o + j, none⟩ = some (.int .u8 x) := fun j x hx => hcell j _ (by rw [List.getElem?_map, hx]; rfl)
      have hsize := size_long jb g o c r wr kc0 hs4 (Nat.le_trans hnc hcm) g4 hcl
      clear hcell hcl
      by_cases hbad : badLen (be r)
      · have hneg : ¬ be r < 0 := by
          have hx0 := g4.get 0
          have hx1 := g4.get 1
          have hx2 := g4.get 2
          have hx3 := g4.get 3
          unfold be; omega
        have hbadb : (be r == 0) = true ∨ ((be r == 0) = false ∧ 65536 < be r) := by
          unfold badLen at hbad
          by_cases h0 : be r = 0
          · exact .inl (beq_iff_eq.2 h0)
          · exact .inr ⟨beq_eq_false_iff_ne.2 h0, by omega⟩
        have hfin : split tot = (os, [], true) := by rw [G6.out, split_bad hs4 hbad]; simp
        have HFIN := Lib.hid hfin
        have HBAD := Lib.hid hbad
        have HSZ := Lib.hid hsize
        clear hfin hbad hsize g5
        generalize be r = nn at *
        rcases hbadb with hz | ⟨hz, hbig⟩
        all_goals
          go_wp2_with fail
          refine HSZ.out.mono ?_
          rintro e w' ⟨rfl, kk, rfl⟩
          have hjd : (wr.drewN kk).heap[jb]? = some (.cells #[.slice (some ⟨g, o, none⟩) r.length c, .bool false] 32 (0, 0)) := G1.out
          have kd1 := cell_of_block (j := 1) hjd rfl
          have kf1 := free_of_block (j := 1) hjd
          have hjd2 := block_setCell (j := 1) (u := .bool true) hjd
          have kd0 := cell_of_block (j := 0) hjd2 rfl
          have kf0 := free_of_block (j := 0) hjd2
          have HJ3 := Lib.hid (block_setCell (j := 0) (u := .slice none 0 0) hjd2)
          clear hjd hjd2
          go_wp2_with fail
          refine (wrap_E 260 _ _ _).mono ?_
          rintro e w' ⟨rfl, hx, rfl⟩
          have HX := Lib.hid hx; clear hx
          clear kd1 kf1 kd0 kf0
          go_wp2_with fail
          go_ret2
          have hjw : jb < wr.heap.size := by have := G8.out.size; omega
          refine feed_kill (wz := wr) HFIN.out ?_ (by have hxx := HX.out; simp only [World.size_setCell] at hxx; exact hxx) G7.out G8.out ?_ HK1.out h3 hjl1 (Nat.le_trans HK1.out.size (Nat.le_trans G8.out.size (Nat.le_of_eq (by simp))))
          · exact (Below.heap_alloc _ _ _ (by simpa using hjw)).trans HJ3.out
          · exact (((Keeps.drewN wr kk _).trans (Keeps.setCell _ ⟨jb, 1, none⟩ (.bool true) (S := fun k => k = jb) rfl) (fun b _ h => h)).trans (Keeps.setCell _ ⟨jb, 0, none⟩ (.slice none 0 0) (S := fun k => k = jb) rfl) (fun b _ h => h)).trans (Keeps.alloc _ _ _) (fun b _ h => h)
      · obtain ⟨n, hn⟩ : ∃ n : Nat, be r = n := Int.eq_ofNat_of_zero_le (by unfold badLen at hbad; omega)
        have hn1 : 1 ≤ n := by unfold badLen at hbad; omega
        have hn2 : n ≤ 65536 := by unfold badLen at hbad; omega
        have hneg : ¬ (n : Int) < 0 := by omega
        have hz : ((n : Int) == 0) = false := beq_eq_false_iff_ne.2 (by omega)
        have hbig : ¬ 65536 < (n : Int) := by omega
        have HBAD := Lib.hid hbad; clear hbad
        simp only [hn] at hsize
        have HSZ := Lib.hid hsize; clear hsize
        by_cases hw : r.length - 4 < n
        · have hfin : split tot = (os, r, false) := by rw [G6.out, split_wait hs4 HBAD.out (by rw [hn]; simpa using hw)]; simp
          have HFIN := Lib.hid hfin
          have HN := Lib.hid hn
          clear hfin hn
          have hwi : (r.length : Int) - 4 < n := by omega
          have hl63 : r.length ≤ 4294967296 := by omega
          go_wp2_with fail
          refine HSZ.out.mono ?_
          rintro e w' ⟨rfl, kk, rfl⟩
          have kd0 : (wr.drewN kk).cell? ⟨jb, 0, none⟩ = some (.slice (some ⟨g, o, none⟩) r.length c) := kc0
          go_wp2_with fail
          go_ret2
          exact feed_wait (wz := wr.drewN kk) HFIN.out G1.out (Mid.same G2.out fun _ _ => rfl) G3.out g4 (RowsV.keeps G7.out (Keeps.drewN wr kk (fun _ => False)) (fun _ _ h => h)) (G8.out.trans (Keeps.drewN wr kk _) (fun _ _ h => h)) HK1.out h3 hjl1 HRB.out
        · have hwi : ¬ (r.length : Int) - 4 < n := by omega
          go_wp2_with fail
          refine HSZ.out.mono ?_
          rintro e w' ⟨rfl, kk, rfl⟩
          have kd0 : (wr.drewN kk).cell? ⟨jb, 0, none⟩ = some (.slice (some ⟨g, o, none⟩) r.length c) := kc0
          have hl63 : r.length ≤ 4294967296 := by omega
          have hc63 : c ≤ 9223372036854775807 := by unfold maxLen at hcm; omega
          have hxl : ((r.drop 4).take n).length = n := by rw [List.length_take, List.length_drop]; omega
          have hsr : split r = ((r.drop 4).take n :: (split (r.drop (4 + n))).1, (split (r.drop (4 + n))).2) := by
            have := split_body hs4 HBAD.out (by rw [hn]; simpa using hw)
            rw [hn] at this; simpa using this
          have hosl : os.length ≤ tot.length := by
            have e1 := framed_ge _ tot (Nat.le_refl _)
            have e2 := congrArg (fun x => x.1.length) G6.out
            simp only [List.length_append] at e2
            omega
          have hbytes : Bytes (wr.drewN kk) (.slice (some ⟨g, o + 4, none⟩) n (c - 4)) ((r.drop 4).take n) := Bytes.sub (Mid.same G2.out fun _ _ => rfl) 4 n (by omega)
          have HSR := Lib.hid hsr
          have HBY := Lib.hid hbytes
          have HN := Lib.hid hn
          clear hsr hbytes hn
          generalize (r.drop 4).take n = xs at *
          have HXL := Lib.hid hxl
          clear hxl
          go_wp2_with fail
          refine (clone_any _ xs _ HBY.out (by have := HXL.out; omega)).mono ?_
          rintro e w2 ⟨a2, c2, rfl, hm2, hb2⟩
          have hb2' : Below wr.heap.size wr w2 := ⟨hb2.os, hb2.tape, hb2.output, hb2.size, hb2.block⟩
          have HM2 := Lib.hid (show Mid w2 wr.heap.size 5 1 (.slice a2 xs.length c2) xs.length (xs.map B8) from hm2)
          have HB2 := Lib.hid hb2'
          clear hb2 hm2 hb2'
          have HMo := Lib.hid ((Mid.same (w' := w2) G7.out.1 (fun b hb => HB2.out.block b (G7.out.1.lt b hb).2)).alloc (.cells #[.slice a2 xs.length c2] 23))
          have HSo := Lib.hid ((Sl.one w2 23 (.slice a2 xs.length c2)).src (P := Tryd.prog) Tryd.underlying22 (by simp [one_slice]))
          have hjd : jb < wr.heap.size := by have := G8.out.size; omega
          by_cases hcap : c = 4 + n
          all_goals
            go_wp2_with (at_builtin; refine wpList_append_mid (v := .slice oa os.length oc) rfl _ _ 22 22 rfl i1 (.slice none 0 0) 24 Tryd.underlying22 hi1 hy0 hy1 hy2 rfl rfl HMo.out _ rfl 1 _ HSo.out (by unfold maxLen; omega) (by omega) (by have := HB2.out.size; have := G8.out.size; simp; omega) ?_; intro a3 c3 w3 hm3 hg3 hb3; have hj3 := (hg3.block jb (by have := HB2.out.size; simp; omega) (fun e => by have := (G7.out.1.lt jb e.symm).1; omega)).trans ((Below.heap_alloc _ _ _ (by have := HB2.out.size; omega)).trans ((HB2.out.block jb hjd).trans G1.out)); have kd0 := cell_of_block (j := 0) hj3 rfl; have kf0 := free_of_block (j := 0) hj3; have HM3 := Lib.hid hm3; have HG3 := Lib.hid hg3; have HB3 := Lib.hid hb3; have HJ3 := Lib.hid hj3; clear hm3 hg3 hb3 hj3)
            have hgj : g ≠ jb := fun e => (HRB.out jb (e ▸ G3.out g rfl)).2.1 rfl
            have hgW : g < W1.heap.size := (HRB.out g (G3.out g rfl)).2.2
            have hl0 : restLen jb wr = r.length := by unfold restLen; rw [kc0]; rfl
            go_roundw
          · case rel =>
              refine feed_round (k := 4 + n) (xs := xs) G6.out HSR.out G1.out G2.out (G3.out g rfl) hgj hgW g4 g5 G7.out G8.out hjl1 HB2.out HM2.out HM3.out HG3.out HB3.out ?_ (fun b hb => by cases hb; rfl) (by rw [List.length_drop])
              intro w' hw'
              have hr0 : r.length = 4 + n := by omega
              have hd0 : r.drop (4 + n) = [] := List.drop_of_length_le (by omega)
              rw [hd0, hr0, Nat.sub_self]
              exact (Mid.same (w' := w') G2.out (fun k hk => by cases hk; exact hw')).empty
          · case measure => rw [hl0, restLen_set HJ3.out]; omega
          · case rel =>
              refine feed_round (k := 4 + n) (xs := xs) G6.out HSR.out G1.out G2.out (G3.out g rfl) hgj hgW g4 g5 G7.out G8.out hjl1 HB2.out HM2.out HM3.out HG3.out HB3.out ?_ (fun b hb => by cases hb; rfl) (by rw [List.length_drop])
              intro w' hw'
              have hd := (Mid.same (w' := w') G2.out (fun k hk => by cases hk; exact hw')).drop (4 + n) (by omega)
              simpa [List.map_drop] using hd
          · case measure => rw [hl0, restLen_set HJ3.out]; omega

end Go.Proofs.YtamkappanknklaaDoor
