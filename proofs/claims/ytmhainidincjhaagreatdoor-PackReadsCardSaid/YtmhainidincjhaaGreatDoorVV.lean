/-
 What the laws stand on, part V: contracts and plain laws of PRv, NDig, DMem, DBytes, DBuild, NPack, NText, DText, DPut, DParse, DTake, DByWord, DRead, DInt, DRText, DCut, NEx9; the conditions are each law's own.
-/
import Derived.Test.YtmhainidincjhaaGreatDoorVA
import Derived.Test.YtmhainidincjhaaGreatDoorVB
import Derived.Lib.Builder
import Derived.Test.YtmhainidincjhaaGreatDoorVShelf
import Derived.Deep.LoopGhost
import Derived.Test.YtmhainidincjhaaGreatDoorVW
import Derived.IntWalk
import Derived.Deep.QuietTactic
import Derived.BigQuiet
import Derived.OwnWalk
set_option linter.unusedVariables false
set_option linter.unusedSimpArgs false
set_option maxRecDepth 100000
set_option maxHeartbeats 16000000
namespace Go.Proofs.YtmhainidincjhaaGreatDoor
open Go.RowKit
theorem hu {w W : World} {b o : Nat} {v : Value} (hb : Below w.heap.size w W) (h : w.cell? ⟨b, o, none⟩ = some v) : W.cell? ⟨b, o, none⟩ = some v := (hb.cell (World.block_lt_of_cell? _ _ h)).trans h
theorem mid_under {w w' : World} {base : Nat} {e : TypeId} {size : Nat} {v : Value} {n : Nat} {xs : List Value} (hm : Mid w base e size v n xs) (hb : Below w.heap.size w w') : Mid w' base e size v n xs := hm.below hb fun k hk => (hm.lt k hk).2
structure Rv where
 s : Bool
 a : Option Addr
 l : Nat
 c : Nat
 b : Option Addr
 m : Nat
 d : Nat
 q : Rat
def Rv.cells (v : Rv) : List Value := [.bool v.s, .slice v.a v.l v.c, .slice v.b v.m v.d]
def Rv.val (v : Rv) : Value := .agg #[.bool v.s, .slice v.a v.l v.c, .slice v.b v.m v.d]
theorem rvCells_len (v : Rv) : v.cells.length = 3 := rfl
structure Rv.ok (w : World) (v : Rv) : Prop where
 s : v.s = decide (v.q.num < 0)
 l : v.l = lenW v.q.num.natAbs
 m : v.m = lenW (denN v.q.den)
 num : NatW w v.a v.c v.q.num.natAbs
 den : NatW w v.b v.d (denN v.q.den)
theorem Rv.ok.below {w w' : World} {v : Rv} (h : v.ok w) (hb : Below w.heap.size w w') : v.ok w' := ⟨h.s, h.l, h.m, h.num.below hb, h.den.below hb⟩
theorem Rv.ok.keeps {w w' : World} {v : Rv} {S : Nat → Prop} (h : v.ok w) (hk : Keeps w w' S) (hs : ∀ k, S k → ¬ WordB w k) : v.ok w' := ⟨h.s, h.l, h.m, h.num.keeps hk hs, h.den.keeps hk hs⟩
theorem Rv.ok.val {w : World} {v : Rv} (h : v.ok w) : v.val = ratV v.a v.c v.b v.d v.q := by
 unfold Rv.val ratV
 rw [← h.s, ← h.l, ← h.m]
def Rv.zero : Rv := ⟨false, none, 0, 0, none, 0, 0, 0⟩
def RvR (q : Rat) (w : World) (e : Ending) (w' : World) : Prop := ∃ v : Rv, e = .returned v.val ∧ v.ok w' ∧ v.q = q ∧ Below w.heap.size w w'
theorem RvR.of {q : Rat} {w w' : World} {e : Ending} (h : RetR q w e w') : RvR q w e w' := by
 obtain ⟨a, c, b, d, he, h1, h2, h3⟩ := h
 exact ⟨⟨decide (q.num < 0), a, lenW q.num.natAbs, c, b, lenW (denN q.den), d, q⟩, he, ⟨rfl, rfl, rfl, h1, h2⟩, rfl, h3⟩
theorem rv_get {w : World} {a : Option Addr} {c : Nat} {vs : List Rv} (h : Sl w 3 (.slice a vs.length c) vs.length (vs.flatMap Rv.cells)) (k : Nat) (hk : k < vs.length) :
  ∃ b o, a = some ⟨b, o, none⟩ ∧ b < w.heap.size ∧ w.cell? ⟨b, o + k * 3, none⟩ = some (.bool vs[k].s) ∧ w.cell? ⟨b, o + k * 3 + 1, none⟩ = some (.slice vs[k].a vs[k].l vs[k].c) ∧ w.cell? ⟨b, o + k * 3 + 2, none⟩ = some (.slice vs[k].b vs[k].m vs[k].d) := by
 obtain ⟨b, o, c', e, h1, h2, h3, h4⟩ := h.plain (by omega)
 cases e
 have hc := fun j u hj => h4 _ u (flat_at Rv.cells 3 rvCells_len vs k hk j u hj)
 have c0 := hc 0 _ rfl
 have c1 := hc 1 _ rfl
 have c2 := hc 2 _ rfl
 simp only [← Nat.add_assoc, Nat.add_zero] at c0 c1 c2
 exact ⟨b, o, rfl, h3, c0, c1, c2⟩
structure VecW (w : World) (a : Option Addr) (n c : Nat) (vs : List Rv) : Prop where
 len : vs.length = n
 sl : Sl w 3 (.slice a n c) n (vs.flatMap Rv.cells)
 ok : ∀ v, v ∈ vs → v.ok w
theorem VecW.below {w w' : World} {a : Option Addr} {n c : Nat} {vs : List Rv} (h : VecW w a n c vs) (hb : Below w.heap.size w w') : VecW w' a n c vs := ⟨h.len, h.sl.below hb, fun v hv => (h.ok v hv).below hb⟩
theorem VecW.get {w : World} {a : Option Addr} {n c : Nat} {vs : List Rv} (h : VecW w a n c vs) (k : Nat) (hk : k < n) : ∃ b o v, a = some ⟨b, o, none⟩ ∧ vs[k]? = some v ∧ b < w.heap.size ∧ w.cell? ⟨b, o + k * 3, none⟩ = some (.bool v.s) ∧ w.cell? ⟨b, o + k * 3 + 1, none⟩ = some (.slice v.a v.l v.c) ∧ w.cell? ⟨b, o + k * 3 + 2, none⟩ = some (.slice v.b v.m v.d) ∧ v.ok w := by
 obtain ⟨hl, hs, ho⟩ := h
 subst hl
 obtain ⟨b, o, e, hb, h0, h1, h2⟩ := rv_get hs k hk
 exact ⟨b, o, vs[k], e, List.getElem?_eq_getElem hk, hb, h0, h1, h2, ho _ (List.getElem_mem hk)⟩
def qs (vs : List Rv) : List Rat := vs.map (·.q)
theorem noWord_of {w : World} {b : Nat} {cs : Array Value} {ty : TypeId} {o : Nat × Nat} (h : w.heap[b]? = some (.cells cs ty o)) (ht : ty ≠ 164) : ¬ WordB w b := fun ⟨cs2, hc⟩ => by
 rw [h] at hc
 injection hc with hc
 injection hc with _ h2
 exact ht h2
theorem set3k (w : World) (z : Nat) (a b c : Value) : Keeps w (((w.setCell ⟨z, 0, none⟩ a).setCell ⟨z, 1, none⟩ b).setCell ⟨z, 2, none⟩ c) fun k => k = z :=
 ((Keeps.setCell _ _ _ (S := fun k => k = z) rfl).trans (Keeps.setCell _ _ _ (S := fun k => k = z) rfl) fun _ _ h => h).trans (Keeps.setCell _ _ _ (S := fun k => k = z) rfl) fun _ _ h => h
theorem grown_keeps {w3 w4 : World} {ob : Obj} {row : Option Nat} (h : (w3.alloc ob).grownBy w4 row) : Keeps w3 w4 fun k => row = some k :=
 (Keeps.alloc w3 ob (fun k => row = some k)).trans (Keeps.of_grown h (S := fun k => row = some k) fun b h => h) fun _ _ h => h
theorem Mid.noWord {w : World} {base : Nat} {e : TypeId} {size n : Nat} {v : Value} {xs : List Value} (h : Mid w base e size v n xs) (he : e ≠ 164) (k : Nat) (hk : v.ownBlock = some k) : ¬ WordB w k := by
 rcases h.2 with ⟨rfl, _⟩ | ⟨g, o, cap, cur, rfl, hb, hg, _⟩
 ·
  cases hk
 ·
  cases hk
  exact noWord_of hg he
structure VB (w0 : World) (l : List Rat) (a : Option Addr) (n c : Nat) (vs : List Rv) (W : World) : Prop where
 mid : Mid W w0.heap.size 45 3 (.slice a n c) n (vs.flatMap Rv.cells)
 len : vs.length = n
 ok : ∀ v, v ∈ vs → v.ok W
 q : qs vs = l
 bel : Below w0.heap.size w0 W
section
variable {w0 W W' : World} {l : List Rat} {a : Option Addr} {n c : Nat} {vs : List Rv}
theorem VB.nil (w0 : World) : VB w0 [] none 0 0 [] w0 := ⟨by simpa using Mid.nil w0 w0.heap.size 45 3, rfl, fun _ h => (by cases h), rfl, Below.refl _ _⟩
theorem VB.call (h : VB w0 l a n c vs W) (hb : Below W.heap.size W W') : VB w0 l a n c vs W' := ⟨mid_under h.mid hb, h.len, fun v hv => (h.ok v hv).below hb, h.q, bthen h.bel hb⟩
theorem VB.grown (h : VB w0 l a n c vs W) {ob : Obj} (hg : (W.alloc ob).grownBy W' (Value.slice a n c).ownBlock) : (∀ v : Rv, v.ok W → v.ok W') ∧ Below w0.heap.size w0 W' :=
 ⟨fun v hv => hv.keeps (grown_keeps hg) fun k hk => h.mid.noWord (by decide) k hk, (h.bel.alloc h.bel.size ob).grown hg (by have := h.bel.size; simp; omega) fun k hk => (h.mid.lt k hk).1⟩
theorem VB.push (h : VB w0 l a n c vs W) {ob : Obj} {v : Rv} {a' : Option Addr} {c' : Nat} (hv : v.ok W) (hm : Mid W' w0.heap.size 45 3 (.slice a' (n + 1) c') (n + 1) (vs.flatMap Rv.cells ++ v.cells)) (hg : (W.alloc ob).grownBy W' (Value.slice a n c).ownBlock) : VB w0 (l ++ [v.q]) a' (n + 1) c' (vs ++ [v]) W' := by
 obtain ⟨h1, h2⟩ := h.grown hg
 refine ⟨by rw [List.flatMap_append]; simpa using hm, by rw [List.length_append, h.len]; rfl, fun u hu => ?_, ?_, h2⟩
 ·
  rcases List.mem_append.1 hu with hu | hu
  ·
   exact h1 u (h.ok u hu)
  ·
   rw [List.mem_singleton.1 hu]; exact h1 v hv
 ·
  unfold qs
  rw [List.map_append, ← h.q]; rfl
end
end Go.Proofs.YtmhainidincjhaaGreatDoor
namespace Go.Proofs.YtmhainidincjhaaGreatDoor
def undig (B : Nat) (l : List Nat) : Nat := l.foldl (fun a d => a * B + d) 0
def ndig (B n : Nat) : Nat := if h : n = 0 ∨ B < 2 then 0 else ndig B (n / B) + 1
termination_by n
decreasing_by exact Nat.div_lt_self (by omega) (by omega)
def dig (B n : Nat) : List Nat := (List.range (ndig B n)).map fun j => n / B ^ (ndig B n - 1 - j) % B
theorem undig_nil (B : Nat) : undig B [] = 0 := rfl
theorem undig_snoc (B : Nat) (l : List Nat) (d : Nat) : undig B (l ++ [d]) = undig B l * B + d := by simp [undig, List.foldl_append]
theorem undig_from (B : Nat) (m : List Nat) (a : Nat) : m.foldl (fun a d => a * B + d) a = a * B ^ m.length + undig B m := by
 induction m generalizing a with
 | nil => simp [undig]
 | cons d m ih => 
  unfold undig
  rw [List.foldl_cons, List.foldl_cons, ih, ih (0 * B + d), List.length_cons, Nat.pow_succ]
  grind
theorem undig_append (B : Nat) (l m : List Nat) : undig B (l ++ m) = undig B l * B ^ m.length + undig B m := by
 unfold undig
 rw [List.foldl_append, undig_from]; rfl
theorem undig_cons (B d : Nat) (m : List Nat) : undig B (d :: m) = d * B ^ m.length + undig B m := by
 rw [show d :: m = [d] ++ m from rfl, undig_append]; simp [undig]
theorem undig_lt {B : Nat} (l : List Nat) (h : ∀ x ∈ l, x < B) : undig B l < B ^ l.length := by
 induction l with
 | nil => simp [undig]
 | cons d m ih =>
  rw [undig_cons, List.length_cons, Nat.pow_succ]
  have h1 := ih fun x hx => h x (List.mem_cons_of_mem _ hx)
  have h2 := h d List.mem_cons_self
  have h3 : (d + 1) * B ^ m.length ≤ B * B ^ m.length := Nat.mul_le_mul_right _ h2
  rw [Nat.add_mul] at h3
  rw [Nat.mul_comm (B ^ m.length) B]
  omega
theorem ndig_zero (B : Nat) : ndig B 0 = 0 := by rw [ndig]; simp
theorem ndig_pos {B n : Nat} (hB : 2 ≤ B) (h : n ≠ 0) : ndig B n = ndig B (n / B) + 1 := by rw [ndig, dif_neg (by omega)]
theorem lt_ndig {B : Nat} (hB : 2 ≤ B) (n : Nat) : n < B ^ ndig B n := by
 induction n using Nat.strongRecOn with
 | ind n ih =>
  by_cases h : n = 0
  ·
   subst h; exact Nat.pow_pos (by omega)
  ·
   rw [ndig_pos hB h, Nat.pow_succ]
   exact (Nat.div_lt_iff_lt_mul (by omega)).1 (ih (n / B) (Nat.div_lt_self (by omega) (by omega)))
theorem ndig_le {B : Nat} (hB : 2 ≤ B) {n : Nat} (h : n ≠ 0) : B ^ (ndig B n - 1) ≤ n := by
 induction n using Nat.strongRecOn with
 | ind n ih =>
  rw [ndig_pos hB h, Nat.add_sub_cancel]
  by_cases h1 : n / B = 0
  ·
   rw [h1, ndig_zero]; simp; omega
  ·
   have h2 := ih (n / B) (Nat.div_lt_self (by omega) (by omega)) h1
   have h3 : ndig B (n / B) = ndig B (n / B) - 1 + 1 := by rw [ndig_pos hB h1]; omega
   rw [h3, Nat.pow_succ]
   exact (Nat.le_div_iff_mul_le (by omega)).1 h2
theorem ndig_of {B : Nat} (hB : 2 ≤ B) {n k : Nat} (h1 : B ^ k ≤ n) (h2 : n < B ^ (k + 1)) : ndig B n = k + 1 := by
 have h0 : n ≠ 0 := fun e => by have := Nat.pow_pos (n := k) (show 0 < B by omega); omega
 have h3 := lt_ndig hB n
 have h4 := ndig_le hB h0
 have h5 : k < ndig B n := (Nat.pow_lt_pow_iff_right (by omega)).1 (Nat.lt_of_le_of_lt h1 h3)
 have h6 : ndig B n - 1 < k + 1 := (Nat.pow_lt_pow_iff_right (by omega)).1 (Nat.lt_of_le_of_lt h4 h2)
 omega
theorem ndig_lt {B : Nat} (hB : 2 ≤ B) {n k : Nat} (h : n < B ^ k) : ndig B n ≤ k := by
 by_cases h0 : n = 0
 ·
  subst h0; rw [ndig_zero]; omega
 ·
  have := (Nat.pow_lt_pow_iff_right (show 1 < B by omega)).1 (Nat.lt_of_le_of_lt (ndig_le hB h0) h)
  omega
theorem dig_len (B n : Nat) : (dig B n).length = ndig B n := by simp [dig]
theorem dig_at {B n j : Nat} (h : j < ndig B n) : (dig B n)[j]? = some (n / B ^ (ndig B n - 1 - j) % B) := by
 unfold dig; rw [List.getElem?_map, List.getElem?_range h]; rfl
theorem dig_lt {B : Nat} (hB : 2 ≤ B) (n : Nat) : ∀ x ∈ dig B n, x < B := fun x hx => by
 obtain ⟨j, _, rfl⟩ := List.mem_map.1 hx
 exact Nat.mod_lt _ (by omega)
theorem dig_zero (B : Nat) : dig B 0 = [] := by unfold dig; rw [ndig_zero]; rfl
theorem dig_step {B n : Nat} (hB : 2 ≤ B) (h : n ≠ 0) : dig B n = dig B (n / B) ++ [n % B] := by
 unfold dig
 rw [ndig_pos hB h, List.range_succ, List.map_append]
 congr 1
 ·
  apply List.map_congr_left
  intro j hj
  have hj := List.mem_range.1 hj
  rw [show ndig B (n / B) + 1 - 1 - j = (ndig B (n / B) - 1 - j) + 1 by omega, Nat.pow_succ, Nat.mul_comm, Nat.div_div_eq_div_mul]
 ·
  simp
theorem undig_dig {B : Nat} (hB : 2 ≤ B) (n : Nat) : undig B (dig B n) = n := by
 induction n using Nat.strongRecOn with
 | ind n ih =>
  by_cases h : n = 0
  ·
   subst h; rw [dig_zero]; rfl
  ·
   rw [dig_step hB h, undig_snoc, ih _ (Nat.div_lt_self (by omega) (by omega))]
   exact Nat.div_add_mod' n B
theorem dig_undig {B : Nat} (hB : 2 ≤ B) (l : List Nat) (h : ∀ x ∈ l, x < B) (h0 : ∀ x, l.head? = some x → x ≠ 0) : dig B (undig B l) = l := by
 induction hl : l.length generalizing l with
 | zero => rw [List.length_eq_zero_iff.1 hl]; exact dig_zero B
 | succ k ih =>
  have hne : l ≠ [] := fun e => by rw [e] at hl; simp at hl
  obtain ⟨m, d, rfl⟩ : ∃ m d, l = m ++ [d] := ⟨l.dropLast, l.getLast hne, (List.dropLast_concat_getLast hne).symm⟩
  have hd : d < B := h d (by simp)
  have hm : dig B (undig B m) = m := by
   refine ih m (fun x hx => h x (by simp [hx])) ?_ (by simpa using hl)
   intro x hx
   cases m with
   | nil => cases hx
   | cons y m => exact h0 x (by simpa using hx)
  have hn : undig B (m ++ [d]) ≠ 0 := by
   rw [undig_snoc]
   cases m with
   | nil => have := h0 d rfl; omega
   | cons y m =>
    have h1 := h0 y rfl
    intro e
    have h2 : undig B (y :: m) * B = 0 := by omega
    have h3 : undig B (y :: m) = 0 := by
     rcases Nat.mul_eq_zero.1 h2 with h | h <;> omega
    rw [undig_cons] at h3
    have h4 : 0 < B ^ m.length := Nat.pow_pos (by omega)
    have := Nat.mul_pos (show 0 < y by omega) h4
    omega
  rw [dig_step hB hn, undig_snoc, show (undig B m * B + d) / B = undig B m by rw [Nat.mul_comm, Nat.mul_add_div (by omega), Nat.div_eq_of_lt hd, Nat.add_zero], hm, show (undig B m * B + d) % B = d by rw [Nat.mul_comm, Nat.mul_add_mod, Nat.mod_eq_of_lt hd]]
theorem dig_head {B : Nat} (hB : 2 ≤ B) (n : Nat) : ∀ x, (dig B n).head? = some x → x ≠ 0 := fun x hx => by
 by_cases h : n = 0
 ·
  subst h; rw [dig_zero] at hx; cases hx
 ·
  have h1 : 0 < ndig B n := by rw [ndig_pos hB h]; omega
  rw [List.head?_eq_getElem?, dig_at h1] at hx
  injection hx with hx
  have h2 := ndig_le hB h
  have h3 := lt_ndig hB n
  rw [Nat.sub_zero] at hx
  have h4 : n / B ^ (ndig B n - 1) < B := by
   rw [Nat.div_lt_iff_lt_mul (Nat.pow_pos (by omega)), Nat.mul_comm, ← Nat.pow_succ, show (ndig B n - 1).succ = ndig B n by omega]
   exact h3
  rw [Nat.mod_eq_of_lt h4] at hx
  have h5 : 1 ≤ n / B ^ (ndig B n - 1) := (Nat.le_div_iff_mul_le (Nat.pow_pos (by omega))).2 (by omega)
  omega
theorem undig_at {B : Nat} (l : List Nat) (h : ∀ x ∈ l, x < B) {k : Nat} (hk : k < l.length) : l[l.length - 1 - k]? = some (undig B l / B ^ k % B) := by
 have hi : l.length - 1 - k < l.length := by omega
 have hs : l = l.take (l.length - 1 - k) ++ l[l.length - 1 - k] :: l.drop (l.length - 1 - k + 1) := by
  have h1 := List.drop_eq_getElem_cons hi
  rw [← h1, List.take_append_drop]
 have hx : l[l.length - 1 - k] < B := h _ (List.getElem_mem hi)
 have hd : undig B (l.drop (l.length - 1 - k + 1)) < B ^ k := by
  have := undig_lt (B := B) (l.drop (l.length - 1 - k + 1)) (fun x hx => h x (List.mem_of_mem_drop hx))
  rw [List.length_drop, show l.length - (l.length - 1 - k + 1) = k by omega] at this
  exact this
 have hl : (l.drop (l.length - 1 - k + 1)).length = k := by rw [List.length_drop]; omega
 have hv : undig B l = (undig B (l.take (l.length - 1 - k)) * B + l[l.length - 1 - k]) * B ^ k + undig B (l.drop (l.length - 1 - k + 1)) := by
  conv => lhs; rw [hs]
  rw [undig_append, undig_cons, List.length_cons, hl, Nat.pow_succ]
  grind
 rw [List.getElem?_eq_getElem hi, hv]
 congr 1
 have hp : 0 < B ^ k := Nat.pow_pos (by omega)
 rw [Nat.mul_comm _ (B ^ k), Nat.mul_add_div hp, Nat.div_eq_of_lt hd, Nat.add_zero, Nat.mul_comm _ B, Nat.mul_add_mod, Nat.mod_eq_of_lt hx]
theorem size_dig (n : Nat) : (bitLen n + 7) / 8 = ndig 256 n := by
 by_cases h : n = 0
 ·
  subst h; rw [ndig_zero]; rfl
 ·
  have h1 := bitLen_lt n
  have h2 := bitLen_ge h
  have h3 : 0 < bitLen n := by
   rcases Nat.eq_zero_or_pos (bitLen n) with e | e
   ·
    rw [e] at h1; simp at h1; omega
   ·
    exact e
  have h4 : (bitLen n + 7) / 8 = (bitLen n - 1) / 8 + 1 := by omega
  rw [h4, ndig_of (B := 256) (by omega) (k := (bitLen n - 1) / 8)]
  ·
   rw [show (256 : Nat) = 2 ^ 8 from rfl, ← Nat.pow_mul]
   exact Nat.le_trans (Nat.pow_le_pow_right (by omega) (by omega)) h2
  ·
   rw [show (256 : Nat) = 2 ^ 8 from rfl, ← Nat.pow_mul]
   exact Nat.lt_of_lt_of_le h1 (Nat.pow_le_pow_right (by omega) (by omega))
theorem byte_word (n k : Nat) : wordOf n (k / 8) / 2 ^ (8 * (k % 8)) % 256 = n / 256 ^ k % 256 := by
 unfold wordOf
 have h1 : (W64 : Nat) = 2 ^ (8 * (k % 8)) * 2 ^ (64 - 8 * (k % 8)) := by
  rw [← Nat.pow_add, show 8 * (k % 8) + (64 - 8 * (k % 8)) = 64 by omega]
 have h2 : (256 : Nat) ∣ 2 ^ (64 - 8 * (k % 8)) := ⟨2 ^ (64 - 8 * (k % 8) - 8), by rw [show (256 : Nat) = 2 ^ 8 from rfl, ← Nat.pow_add]; congr 1; omega⟩
 rw [show n / W64 ^ (k / 8) % W64 / 2 ^ (8 * (k % 8)) = n / W64 ^ (k / 8) / 2 ^ (8 * (k % 8)) % 2 ^ (64 - 8 * (k % 8)) by
  generalize n / W64 ^ (k / 8) = z
  rw [h1, Nat.mod_mul_right_div_self], Nat.mod_mod_of_dvd _ h2, Nat.div_div_eq_div_mul, W64_pow, ← Nat.pow_add, show (256 : Nat) ^ k = 2 ^ (8 * k) by rw [show (256 : Nat) = 2 ^ 8 from rfl, ← Nat.pow_mul]]
 congr 3
 omega
theorem byte_lay (v k j : Nat) : wordOf (v % 256 ^ (k + 1)) j = if j = k / 8 then wordOf (v % 256 ^ k) j + v / 256 ^ k % 256 * 2 ^ (8 * (k % 8)) else wordOf (v % 256 ^ k) j := by
 have hp : (256 : Nat) ^ k = W64 ^ (k / 8) * 2 ^ (8 * (k % 8)) := by
  rw [W64_pow, ← Nat.pow_add, show (256 : Nat) ^ k = 2 ^ (8 * k) by rw [show (256 : Nat) = 2 ^ 8 from rfl, ← Nat.pow_mul]]
  congr 1; omega
 have hs : v % 256 ^ (k + 1) = v % 256 ^ k + v / 256 ^ k % 256 * 2 ^ (8 * (k % 8)) * W64 ^ (k / 8) := by
  rw [Nat.pow_succ, Nat.mod_mul, hp]; grind
 have hd : v / 256 ^ k % 256 < 256 := Nat.mod_lt _ (by omega)
 have hl : v % 256 ^ k < 256 ^ k := Nat.mod_lt _ (Nat.pow_pos (by omega))
 rw [hs]
 generalize v / 256 ^ k % 256 = d at *
 generalize v % 256 ^ k = x at *
 have hdw : d * 2 ^ (8 * (k % 8)) + 2 ^ (8 * (k % 8)) ≤ W64 := by
  have h1 : (d + 1) * 2 ^ (8 * (k % 8)) ≤ 256 * 2 ^ (8 * (k % 8)) := Nat.mul_le_mul_right _ hd
  have h2 : 256 * 2 ^ (8 * (k % 8)) ≤ W64 := by
   rw [show (256 : Nat) = 2 ^ 8 from rfl, ← Nat.pow_add]
   exact Nat.le_trans (Nat.pow_le_pow_right (by omega) (show 8 + 8 * (k % 8) ≤ 64 by omega)) (by unfold W64; omega)
  rw [Nat.add_mul] at h1; omega
 have hx : x / W64 ^ (k / 8) < 2 ^ (8 * (k % 8)) := Nat.div_lt_of_lt_mul (by rwa [← hp])
 unfold wordOf
 by_cases h1 : j = k / 8
 ·
  rw [if_pos h1, h1, Nat.add_mul_div_right _ _ (W64_pos _)]
  rw [Nat.mod_eq_of_lt (a := x / W64 ^ (k / 8)) (by omega), Nat.mod_eq_of_lt (by omega)]
 ·
  rw [if_neg h1]
  by_cases h2 : j < k / 8
  ·
   obtain ⟨i, hi⟩ : ∃ i, k / 8 = j + 1 + i := ⟨k / 8 - j - 1, by omega⟩
   rw [hi, Nat.pow_add, Nat.pow_succ, show d * 2 ^ (8 * (k % 8)) * (W64 ^ j * W64 * W64 ^ i) = d * 2 ^ (8 * (k % 8)) * W64 ^ i * W64 * W64 ^ j by grind, Nat.add_mul_div_right _ _ (W64_pos _), Nat.add_mul_mod_self_right]
  ·
   have h3 : k / 8 + 1 ≤ j := by omega
   have hb : ∀ y, y < W64 ^ (k / 8 + 1) → y / W64 ^ j = 0 := fun y hy => Nat.div_eq_of_lt (Nat.lt_of_lt_of_le hy (pow_mono h3))
   rw [hb, hb]
   ·
    rw [Nat.pow_succ]
    have h4 : x < W64 ^ (k / 8) * 2 ^ (8 * (k % 8)) := by rwa [← hp]
    have h5 : 2 ^ (8 * (k % 8)) ≤ W64 := by omega
    exact Nat.lt_of_lt_of_le h4 (Nat.mul_le_mul_left _ h5)
   ·
    rw [Nat.pow_succ]
    have h4 : x < W64 ^ (k / 8) * 2 ^ (8 * (k % 8)) := by rwa [← hp]
    have h6 : d * 2 ^ (8 * (k % 8)) * W64 ^ (k / 8) + 2 ^ (8 * (k % 8)) * W64 ^ (k / 8) ≤ W64 * W64 ^ (k / 8) := by
     rw [← Nat.add_mul]; exact Nat.mul_le_mul_right _ hdw
    rw [Nat.mul_comm (W64 ^ (k / 8)) (2 ^ (8 * (k % 8)))] at h4
    rw [Nat.mul_comm (W64 ^ (k / 8)) W64]
    omega
theorem byte_or (v k : Nat) : wordOf (v % 256 ^ k) (k / 8) ||| v / 256 ^ k % 256 * 2 ^ (8 * (k % 8)) = wordOf (v % 256 ^ (k + 1)) (k / 8) := by
 rw [byte_lay, if_pos rfl, Nat.or_comm, Nat.add_comm]
 have hp : (256 : Nat) ^ k = W64 ^ (k / 8) * 2 ^ (8 * (k % 8)) := by
  rw [W64_pow, ← Nat.pow_add, show (256 : Nat) ^ k = 2 ^ (8 * k) by rw [show (256 : Nat) = 2 ^ 8 from rfl, ← Nat.pow_mul]]
  congr 1; omega
 have hx : v % 256 ^ k / W64 ^ (k / 8) < 2 ^ (8 * (k % 8)) := Nat.div_lt_of_lt_mul (by rw [← hp]; exact Nat.mod_lt _ (Nat.pow_pos (by omega)))
 have hw : wordOf (v % 256 ^ k) (k / 8) < 2 ^ (8 * (k % 8)) := Nat.lt_of_le_of_lt (Nat.mod_le _ _) hx
 rw [← Nat.shiftLeft_eq, Nat.shiftLeft_add_eq_or_of_lt hw]
end Go.Proofs.YtmhainidincjhaaGreatDoor
namespace Go.Proofs.YtmhainidincjhaaGreatDoor
open Go.RowKit
abbrev BN (x : Nat) : Value := .int .u8 x
def BytesN (w : World) (v : Value) (l : List Nat) : Prop := Sl w 1 v l.length (l.map BN)
theorem one_BN (l : List Nat) : ∀ u ∈ l.map BN, u.oneCell' = true := fun u hu => by
 obtain ⟨_, _, rfl⟩ := List.mem_map.1 hu; rfl
theorem BytesN.below {w w' : World} {v : Value} {l : List Nat} (h : BytesN w v l) (hb : Below w.heap.size w w') : BytesN w' v l := Sl.below h hb
theorem Sl.sub1 {w : World} {a : Option Addr} {n c : Nat} {cs : List Value} (h : Sl w 1 (.slice a n c) n cs) (l k : Nat) (hl : l ≤ k) (hk : k ≤ n) :
  Sl w 1 (.slice (if c = l then a else a.map (·.add l)) (k - l) (c - l)) (k - l) ((cs.take k).drop l) := by
 have hlen := h.1
 refine ⟨by rw [List.length_drop, List.length_take]; omega, ?_⟩
 obtain ⟨a', c', e, hnc, hcm, h0⟩ := h.len
 cases e
 by_cases hkl : k = l
 ·
  refine .inl ⟨_, _, rfl, by omega, by omega, fun ha => ?_⟩
  split at ha
  ·
   omega
  ·
   have : a = none := by simpa using ha
   have := h0 this
   omega
 ·
  obtain ⟨b, o, c'', e, _, _, hlt, hc⟩ := h.plain (by omega)
  cases e
  rw [if_neg (by omega)]
  refine .inr ⟨b, o + l, c - l, by rw [Option.map_some, Addr.add_lit], by omega, by omega, hlt, fun j u hj => ?_⟩
  rw [List.getElem?_drop, List.getElem?_take] at hj
  split at hj
  ·
   have := hc (l + j) u hj
   rwa [← Nat.add_assoc] at this
  ·
   cases hj
theorem BytesN.get {w : World} {a : Option Addr} {n c : Nat} {l : List Nat} (h : BytesN w (.slice a n c) l) (k : Nat) {x : Nat} (hk : l[k]? = some x) :
  ∃ b o, a = some ⟨b, o, none⟩ ∧ b < w.heap.size ∧ w.cell? ⟨b, o + k, none⟩ = some (.int .u8 x) := by
 have h1 : k < l.length := (List.getElem?_eq_some_iff.1 hk).1
 obtain ⟨b, o, c', e, _, _, hlt, hc⟩ := Sl.plain h (by omega)
 cases e
 exact ⟨b, o, rfl, hlt, hc k _ (by rw [List.getElem?_map, hk]; rfl)⟩
theorem BytesN.len {w : World} {a : Option Addr} {n c : Nat} {l : List Nat} (h : BytesN w (.slice a n c) l) : n = l.length ∧ n ≤ c ∧ c ≤ 9223372036854775807 ∧ (a = none → c = 0) := by
 obtain ⟨a', c', e, h1, h2, h3⟩ := Sl.len h
 cases e
 exact ⟨rfl, h1, by unfold maxLen at h2; omega, h3⟩
theorem BytesN.sub {w : World} {a : Option Addr} {n c : Nat} {bs : List Nat} (h : BytesN w (.slice a n c) bs) (l k : Nat) (hl : l ≤ k) (hk : k ≤ n) :
  BytesN w (.slice (if c = l then a else a.map (·.add l)) (k - l) (c - l)) ((bs.take k).drop l) := by
 have hn := h.len.1
 subst hn
 have h1 := Sl.sub1 h l k hl hk
 unfold BytesN
 rw [List.length_drop, List.length_take, Nat.min_eq_left hk, List.map_drop, List.map_take]
 exact h1
structure YS (W0 : World) (g : Nat) (xs : List Nat) (W : World) : Prop where
 blk : W.heap[g]? = some (.cells (xs.map BN).toArray 5 (0, 0))
 bel : Below W0.heap.size W0 W
 new : W0.heap.size ≤ g
section
variable {W0 W W' : World} {g : Nat} {xs : List Nat}
theorem YS.made (W0 : World) (xs : List Nat) : YS W0 W0.heap.size xs (W0.alloc (.cells (xs.map BN).toArray 5)) := ⟨heap_alloc_new _ _, belowBox _ _, Nat.le_refl _⟩
theorem YS.lt (h : YS W0 g xs W) : g < W.heap.size := (Array.getElem?_eq_some_iff.1 h.blk).1
theorem YS.below (h : YS W0 g xs W) (hb : Below W.heap.size W W') : YS W0 g xs W' := ⟨(hb.block g h.lt).trans h.blk, bthen h.bel hb, h.new⟩
theorem YS.drewN (h : YS W0 g xs W) (k : Nat) : YS W0 g xs (W.drewN k) := ⟨h.blk, belowDrawn h.bel _, h.new⟩
theorem YS.cell (h : YS W0 g xs W) {j : Nat} (hj : j < xs.length) : W.cell? ⟨g, j, none⟩ = some (BN xs[j]) := by
 simp only [World.cell?, h.blk, Option.isSome_none, Bool.false_eq_true, if_false]
 simp [List.getElem?_eq_getElem hj]
theorem YS.free (h : YS W0 g xs W) (j : Nat) : W.frozen? ⟨g, j, none⟩ = false := by simp [World.frozen?, h.blk]
theorem YS.set (h : YS W0 g xs W) (j x : Nat) : YS W0 g (xs.set j x) (W.setCell ⟨g, j, none⟩ (BN x)) :=
 ⟨by rw [heap_setCell_same W g j _ _ _ h.blk]; simp [List.map_set], h.bel.setCell h.new _, h.new⟩
theorem YS.sl (h : YS W0 g xs W) (hm : xs.length ≤ maxLen) : Sl W 1 (.slice (some ⟨g, 0, none⟩) xs.length xs.length) xs.length (xs.map BN) := by
 refine ⟨by simp, .inr ⟨g, 0, xs.length, rfl, Nat.le_refl _, hm, h.lt, fun j u hj => ?_⟩⟩
 rw [List.getElem?_map] at hj
 obtain ⟨x, hx, rfl⟩ := Option.map_eq_some_iff.1 hj
 obtain ⟨hl, rfl⟩ := List.getElem?_eq_some_iff.1 hx
 rw [Nat.zero_add]
 exact h.cell hl
theorem YS.old (h : YS W0 g xs W) {b o : Nat} {v : Value} (hc : W0.cell? ⟨b, o, none⟩ = some v) : W.cell? ⟨b, o, none⟩ = some v :=
 (h.bel.cell (p := ⟨b, o, none⟩) (World.block_lt_of_cell? _ _ hc)).trans hc
theorem YS.oldFree (h : YS W0 g xs W) {b o : Nat} (hb : b < W0.heap.size) (hc : W0.frozen? ⟨b, o, none⟩ = false) : W.frozen? ⟨b, o, none⟩ = false :=
 (h.bel.frozen (p := ⟨b, o, none⟩) hb).trans hc
theorem YS.nat (h : YS W0 g xs W) {a : Option Addr} {c n : Nat} (hn : NatW W0 a c n) : NatW W a c n := hn.below h.bel
end
section
variable {W0 W : World} {g : Nat} {xs : List Nat}
theorem YS.cell0 {W0 W : World} {g M : Nat} {f : Nat → Nat} (h : YS W0 g (fnL M f) W) {t : Nat} (ht : t < M) : W.cell? ⟨g, t, none⟩ = some (BN (f t)) := by
 rw [h.cell (show t < (fnL M f).length by rw [fnL_len]; exact ht), fnL_get]
theorem YS.bytes (h : YS W0 g xs W) (hm : xs.length ≤ maxLen) : BytesN W (.slice (some ⟨g, 0, none⟩) xs.length xs.length) xs := h.sl hm
theorem YS.mid (h : YS W0 g xs W) (hm : xs.length ≤ maxLen) : Mid W W0.heap.size 5 1 (.slice (some ⟨g, 0, none⟩) xs.length xs.length) xs.length (xs.map BN) := by
 refine ⟨by simp, .inr ⟨g, 0, xs.length, _, rfl, h.new, h.blk, Nat.le_refl _, hm, by simp, by simp [List.take_of_length_le]⟩⟩
end
theorem madeB (m : Nat) : madeCells (Value.cells (.int .u8 0)) m = ((List.replicate m 0).map BN).toArray := by
 apply Array.ext'
 apply List.ext_getElem
 ·
  simp [size_madeCells]
 ·
  intro i h1 h2
  simp [madeCells, Value.cells, Nat.mod_one]
def zeroB (n : Nat) : Array Value := ((List.replicate n 0).map BN).toArray
theorem Tryz.info_bytes : (Tryz.prog.info? 5).map (fun i => (i.zero, i.size, i.bytes)) = some (some (.int .u8 0), 1, 1) := by kernel_rfl
theorem make_bytes (k : Int) (K : Nat) (hk : k = K) (hb : K ≤ 140737488355328) (W : World) : (Instr.makeSlice 32 (.int .i64 k) (.int .i64 k)).run Tryz.prog W = .ok (.slice (some ⟨W.heap.size, 0, none⟩) K K) (W.alloc (.cells (zeroB K) 5)) := by
 subst hk
 obtain ⟨ti, hi, hz0, hz1, hz2⟩ := info_parts Tryz.info_bytes
 have := run_make (P := Tryz.prog) W 32 5 ti _ Tryz.underlying32 hi hz0 .i64 .i64 (K : Int) (K : Int) (by omega) (by omega) (by rw [hz2]; omega) (by omega)
 rw [Int.toNat_natCast, hz1, Nat.mul_one, madeB] at this
 exact this
theorem ndig_words {n K : Nat} (h : lenW n ≤ K) : ndig 256 n ≤ 8 * K := by
 refine ndig_lt (by omega) (Nat.lt_of_lt_of_le (lt_pow_of h) ?_)
 rw [W64_pow, show (256 : Nat) = 2 ^ 8 from rfl, ← Nat.pow_mul]
 exact Nat.pow_le_pow_right (by omega) (by omega)
theorem size_any (a : Option Addr) (c n : Nat) (w : World) (ha : NatW w a c n) (hs : lenW n ≤ 1099511627776) : Calls Tryz.prog 80 #[.agg #[.slice a (lenW n) c]] w fun e w' => e = .returned (.int .i64 (ndig 256 n)) ∧ Below w.heap.size w w' := by
 have HB := Lib.hid (fun W (h : NatW W a c n) => nbits_any a c n W h (by omega))
 have hq : ((bitLen n : Int) + 7).tdiv 8 = (ndig 256 n : Int) := by
  rw [← size_dig, Int.tdiv_eq_ediv_of_nonneg (by omega)]; omega
 have hbl := bits_le n
 have hb2 : bitLen n ≤ 70368744177664 := by omega
 have hb3 : ndig 256 n ≤ 8796093022208 := by have := ndig_words hs; omega
 have HA := Lib.hid (ha.alloc (.cells #[.slice a (lenW n) c] 41))
 clear ha hbl hs
 go_enter Tryz.func80, Tryz.ntmps80
 go_wp2_with fail
 refine (HB.out _ HA.out).mono ?_
 rintro e w1 ⟨rfl, hb⟩
 go_wp2_with fail
 go_ret
 exact ⟨rfl, (belowBox _ _).trans (hb.mono (by simp))⟩
def bytF (n M k j : Nat) : Nat := if M - k ≤ j then n / 256 ^ (M - 1 - j) % 256 else 0
theorem bytF_all (n : Nat) : fnL (ndig 256 n) (bytF n (ndig 256 n) (ndig 256 n)) = dig 256 n := by
 unfold fnL dig
 apply List.map_congr_left
 intro j _
 unfold bytF
 rw [if_pos (by omega)]
theorem bytF_zero (n M : Nat) : fnL M (bytF n M 0) = List.replicate M 0 := by
 rw [← fnL_zero]
 exact fnL_congr fun j hj => by unfold bytF; rw [if_neg (by omega), wordOf_zero]
theorem bytes_any (a : Option Addr) (c n : Nat) (w : World) (ha : NatW w a c n) (hs : lenW n ≤ 1099511627776) : Calls Tryz.prog 140 #[.agg #[.slice a (lenW n) c]] w (OwnR w 5 1 (ndig 256 n) ((dig 256 n).map BN)) := by
 have hSz := fun W (h : NatW W a c n) => size_any a c n W h hs
 have hWd := fun W k (h : NatW W a c n) hk => word_any a c n k W h hk
 have hM8 := ndig_words hs
 have hall := bytF_all n
 have hbs := ((BS.begin [⟨a, c, n⟩] (fun y hy => by rw [List.mem_singleton.1 hy]; exact ha)).alloc (p := w.heap.size) rfl 41 [.slice a (lenW n) c] rfl)
 obtain ⟨M, hM⟩ : ∃ M, ndig 256 n = M := ⟨_, rfl⟩
 obtain ⟨L, hL⟩ : ∃ L, lenW n = L := ⟨_, rfl⟩
 rw [hM] at hSz hM8 hall ⊢
 rw [hL] at hSz hWd hbs ⊢
 have HSz := Lib.hid hSz
 have HWd := Lib.hid hWd
 have HBS := Lib.hid hbs
 have HALL := Lib.hid hall
 have hmk := make_bytes (M : Int) M rfl (by omega)
 have hM9 : M ≤ 8796093022208 := by omega
 clear ha hSz hWd hbs hM hL hall hs hM8
 go_enter Tryz.func140, Tryz.ntmps140
 go_wp2_with fail
 refine (HSz.out _ (HBS.out.nat 0 rfl)).mono ?_
 rintro e w1 ⟨rfl, hb1⟩
 have HN1 := Lib.hid (HBS.out.call hb1)
 clear hb1
 have HMADE := Lib.hid (YS.made w1 (List.replicate M 0))
 have HKS := Lib.hid (fun (xs : List Nat) (W : World) (h : YS w1 w1.heap.size xs W) => (h.old (HN1.out.cell 0 0 rfl rfl) : W.cell? ⟨w.heap.size, 0, none⟩ = some (.slice a L c)))
 have HA := Lib.hid (HN1.out.nat 0 rfl)
 go_wp2_with fail
 go_loopw [11] (fun v11 wr => ∃ k : Nat, k ≤ M ∧ v11 = .int .i64 k ∧ YS w1 w1.heap.size (fnL M (bytF n M k)) wr) (fun v11 _ => M - (intOf v11).toNat)
 case atStart => exact ⟨0, Nat.zero_le _, rfl, by rw [bytF_zero]; exact HMADE.out⟩
 case round =>
  obtain ⟨k, hkM, rfl, hns⟩ := hrel
  by_cases hlt : k < M
  ·
   have hdiv : (k : Int).tdiv 8 = ((k / 8 : Nat) : Int) := by rw [Int.tdiv_eq_ediv_of_nonneg (by omega)]; omega
   have hmod : (k : Int).tmod 8 = ((k % 8 : Nat) : Int) := by rw [Int.tmod_eq_emod_of_nonneg (by omega)]; omega
   have hm8 : k % 8 ≤ 7 := by omega
   have hd8 : k / 8 ≤ 8796093022208 := by omega
   have i0 : (0 : Int) ≤ (M : Int) - 1 - (k : Int) := by omega
   have i1 : (M : Int) - 1 - (k : Int) < (M : Int) := by omega
   have k0 := HKS.out _ _ hns
   have HWi := Lib.hid (fun (W : World) (h : YS w1 w1.heap.size (fnL M (bytF n M k)) W) => (HWd.out W (k / 8) (HA.out.below h.bel) (by omega)).mono fun e w' (h1 : _ ∧ _) => (⟨h1.1, h.below h1.2⟩ : e = .returned (UV (wordOf n (k / 8))) ∧ YS w1 w1.heap.size (fnL M (bytF n M k)) w'))
   have HNS := Lib.hid hns
   clear hns
   go_wp2_with fail
   refine (HWi.out _ HNS.out).mono ?_
   rintro e w3 ⟨rfl, hn3⟩
   have hc := hn3.cell0 (show M - 1 - k < M by omega)
   have hf := hn3.free (M - 1 - k)
   have HN3 := Lib.hid hn3
   clear hn3 k0
   go_wp2_with fail
   go_roundw
   case rel =>
    refine ⟨k + 1, by omega, by go_num, ?_⟩
    have e := fnL_set (v := n / 256 ^ k % 256) (f := bytF n M k) (g := bytF n M (k + 1)) (show M - 1 - k < M by omega) (by unfold bytF; rw [if_pos (by omega), show M - 1 - (M - 1 - k) = k by omega]) (fun j _ hj => by
     unfold bytF
     by_cases h1 : M - k ≤ j
     ·
      rw [if_pos h1, if_pos (by omega)]
     ·
      rw [if_neg h1, if_neg (by omega)])
    rw [← e, show ((wordOf n (k / 8) : Nat) : Int) / 2 ^ (8 * (k % 8)) % 256 = ((n / 256 ^ k % 256 : Nat) : Int) by rw [← byte_word]; push_cast; rfl]
    exact HN3.out.set _ _
   case measure => simp [intOf]; omega
  ·
   obtain rfl : k = M := by omega
   have hlen := fnL_len k (bytF n k k)
   have hsl := hns.mid (by rw [hlen]; unfold maxLen; omega)
   rw [hlen] at hsl
   have HSL := Lib.hid hsl
   have HBL := Lib.hid hns.bel
   clear hns hsl
   go_wp2_with fail
   go_ret
   refine ⟨_, _, rfl, ?_, ?_⟩
   ·
    rw [← HALL.out]; exact HSL.out.mono HN1.out.bel.size
   ·
    exact bthen HN1.out.bel HBL.out
theorem Tryz.sizeBuilder : (Tryz.prog.info? 250).map (·.size) = some 2 := by kernel_rfl
theorem Tryz.liesBuilder : liesAt Tryz.prog Tryz.prog.depth 250 (2 / Tryz.prog.cellsOf 250) 0 250 1 = true := by kernel_rfl
abbrev IsB (B b : Nat) (bs : List Nat) (w : World) : Prop := Lib.IsBuilder 250 5 B b (bs.map BN) w
theorem copyCheck_new (B b : Nat) (bs : List Value) (w : World) (h : Lib.BuilderAt 250 5 B b (.pointer none) bs w) : Calls Tryz.prog 184 #[.pointer (some ⟨b, 0, none⟩)] w fun e w' => e = .returned (.tuple #[]) ∧ Lib.BuilderAt 250 5 B b (.pointer (some ⟨b, 0, none⟩)) bs w' ∧ Below B w w' := by
 obtain ⟨j, hj, hjs⟩ := Option.map_eq_some_iff.1 Tryz.sizeBuilder
 have c0 := h.cell0
 have hs := h.shape
 have f0 := h.frozen0
 have HU := Lib.hid (h.used (.pointer (some ⟨b, 0, none⟩)))
 have hB := h.1
 clear h
 go_enter Tryz.func184, Tryz.ntmps184
 go_wp2
 rw [Lib.run_to_unsafe w ⟨b, 0, none⟩ Tryz.underlying248 Tryz.underlying274 hj (by rw [hjs]; decide) hs (Nat.zero_lt_succ 1)]
 simp only [Result.andThen]
 rw [Oper.upon_value]
 go_wp2
 rw [run_callFunc_extern Tryz.func203 (by kernel_rfl) (by kernel_rfl) (by kernel_rfl) (e := Extern.AbiNoEscape.same) (by kernel_rfl), Lib.run_noEscape]
 simp only [Result.andThen]
 rw [Oper.upon_value]
 go_wp2
 rw [Lib.run_from_unsafe w ⟨b, 0, none⟩ Tryz.underlying274 Tryz.underlying248 hj hs Tryz.liesBuilder]
 simp only [Result.andThen]
 rw [Oper.upon_value]
 go_wp2
 go_end0
 exact ⟨rfl, HU.out, (Below.refl B w).setCell (p := ⟨b, 0, none⟩) hB _⟩
theorem copyCheck_old (B b : Nat) (bs : List Value) (w : World) (h : Lib.BuilderAt 250 5 B b (.pointer (some ⟨b, 0, none⟩)) bs w) : Calls Tryz.prog 184 #[.pointer (some ⟨b, 0, none⟩)] w fun e w' => e = .returned (.tuple #[]) ∧ Lib.BuilderAt 250 5 B b (.pointer (some ⟨b, 0, none⟩)) bs w' ∧ Below B w w' := by
 obtain ⟨j, hj, hjs⟩ := Option.map_eq_some_iff.1 Tryz.sizeBuilder
 have c0 := h.cell0
 have H := Lib.hid h
 clear h
 go_enter Tryz.func184, Tryz.ntmps184
 go_wp2
 rw [Lib.run_neq_ptr_same w _ Tryz.underlying248 hj]
 go_wp2
 go_end0
 exact ⟨rfl, H.out, Below.refl B _⟩
theorem copyCheck_any (B b : Nat) (bs : List Value) (w : World) (h : Lib.IsBuilder 250 5 B b bs w) : Calls Tryz.prog 184 #[.pointer (some ⟨b, 0, none⟩)] w fun e w' => e = .returned (.tuple #[]) ∧ Lib.BuilderAt 250 5 B b (.pointer (some ⟨b, 0, none⟩)) bs w' ∧ Below B w w' := by
 rcases h with h | h
 ·
  exact copyCheck_new B b bs w h
 ·
  exact copyCheck_old B b bs w h
theorem writeByte_any (B b : Nat) (bs : List Nat) (c : Nat) (w : World) (h : IsB B b bs w) (hl : bs.length + 1 ≤ 140737488355328) (hB : B ≤ w.heap.size) : Calls Tryz.prog 143 #[.pointer (some ⟨b, 0, none⟩), BN c] w fun e w' => e = .returned .nilIface ∧ IsB B b (bs ++ [c]) w' ∧ Below B w w' := by
 obtain ⟨i0, hi, hz0, hz1, hz2⟩ := info_parts Tryz.info_bytes
 have HC := Lib.hid (copyCheck_any B b (bs.map BN) w h)
 clear h
 go_enter Tryz.func143, Tryz.ntmps143
 go_wp2_with fail
 refine HC.out.mono ?_
 rintro e w1 ⟨rfl, ⟨hBb, v, hbk, hown, hne⟩, hb1⟩
 have c0 : w1.cell? ⟨b, 0, none⟩ = some (.pointer (some ⟨b, 0, none⟩)) := by rw [Lib.cell_of_heap hbk]; rfl
 have c1 : w1.cell? ⟨b, 1, none⟩ = some v := by rw [Lib.cell_of_heap hbk]; rfl
 go_wp2_with (at_builtin; refine wpList_append_own _ rfl _ _ 32 rfl B 5 i0 (.int .u8 0) 1 1 Tryz.underlying32 hi hz0 hz1 hz2 rfl (by decide) _ _ _ rfl (hown.alloc _) ⟨w1.heap.size, 0, none⟩ 1 1 [BN c] rfl rfl ?c1 ?c2 ?c3 ?c4 ?c5 ?_)
 case c1 =>
  intro j u hj
  match j, hj with
  | 0, hj => simp at hj; subst hj; simp [Addr.add]
 case c2 => intro u hu; simp at hu; subst hu; rfl
 case c3 => rw [List.length_map]; unfold maxLen; omega
 case c4 => rw [List.length_map]; omega
 case c5 => have := hb1.size; simp; omega
 intro v' w2 hown' hgrow _
 have hlt : b < w1.heap.size := lt_of_block hbk
 have hb2 : w2.heap[b]? = some (.cells #[.pointer (some ⟨b, 0, none⟩), v] 250 (0, 0)) := by
  rw [hgrow.block b (by simp; omega) (fun e => hne e.symm), Below.heap_alloc _ _ _ hlt]
  exact hbk
 have d0 : w2.cell? ⟨b, 0, none⟩ = some (.pointer (some ⟨b, 0, none⟩)) := by rw [Lib.cell_of_heap hb2]; rfl
 have d1 : w2.cell? ⟨b, 1, none⟩ = some v := by rw [Lib.cell_of_heap hb2]; rfl
 have f1 : w2.frozen? ⟨b, 1, none⟩ = false := Lib.frozen_of_heap hb2 1
 obtain ⟨g, cap, rfl⟩ : ∃ g cap, v' = .slice (some ⟨g, 0, none⟩) (bs.length + 1) cap := by
  rcases hown'.2 with ⟨_, h0⟩ | ⟨g, cap, cur, hv, _⟩
  ·
   omega
  ·
   exact ⟨g, cap, hv⟩
 go_wp2_with fail
 go_ret
 refine ⟨rfl, .inr ?_, ?_⟩
 ·
  have := Lib.BuilderAt.put (T := 250) (e := 5) hBb hb2 (bs' := bs.map BN ++ [BN c]) (by simpa using hown') (by decide)
  simpa using this
 ·
  exact ((hb1.alloc (by have := hb1.size; omega) _).grown hgrow (by have := hb1.size; simp; omega) (fun k hk => (hown.lt k hk).1)).setCell (p := ⟨b, 1, none⟩) hBb _
theorem IsB.fresh (w : World) : IsB w.heap.size w.heap.size [] (w.alloc (.cells #[.pointer none, .slice none 0 0] 250)) :=
 .inl ⟨Nat.le_refl _, .slice none 0 0, heap_alloc_new _ _, ⟨by simp, .inl ⟨rfl, rfl⟩⟩, by simp [Value.ownBlock]⟩
theorem IsB.lt {B b : Nat} {bs : List Nat} {w : World} (h : IsB B b bs w) : B ≤ b ∧ b < w.heap.size := by
 rcases h with ⟨h0, v, hv, _⟩ | ⟨h0, v, hv, _⟩ <;> exact ⟨h0, lt_of_block hv⟩
theorem IsB.below {B b : Nat} {bs : List Nat} {w w' : World} (h : IsB B b bs w) (hb : Below w.heap.size w w') : IsB B b bs w' := by
 have key : ∀ p, Lib.BuilderAt 250 5 B b p (bs.map BN) w → Lib.BuilderAt 250 5 B b p (bs.map BN) w' := fun p ⟨h0, v, hv, ho, hn⟩ => by
  refine ⟨h0, v, (hb.block b (lt_of_block hv)).trans hv, ⟨ho.1, ?_⟩, hn⟩
  rcases ho.2 with h1 | ⟨g, cap, cur, h1, h2, h3, h4⟩
  ·
   exact .inl h1
  ·
   exact .inr ⟨g, cap, cur, h1, h2, (hb.block g (lt_of_block h3)).trans h3, h4⟩
 exact h.imp (key _) (key _)
end Go.Proofs.YtmhainidincjhaaGreatDoor
namespace Go.Proofs.YtmhainidincjhaaGreatDoor
structure Flt where
 n : Int
 at? : Option (List Nat × Int)
def sDiv : List Nat := [100, 105, 118, 105, 115, 111, 114]
def sNum : List Nat := [110, 117, 109, 98, 101, 114]
def partB (n : Nat) : Option (List Nat) := if 255 < ndig 256 n then none else some (ndig 256 n :: dig 256 n)
def tagR (q : Rat) : Nat := if q = 0 then 0 else (if q.den = 1 then 1 else 3) + (if q.num < 0 then 1 else 0)
def encR (q : Rat) : Except Flt (List Nat) :=
 if q = 0 then .ok [0]
 else match (if q.den = 1 then some [] else partB q.den) with
  | none => .error ⟨3, some (sDiv, ndig 256 q.den)⟩
  | some d => match partB q.num.natAbs with
   | none => .error ⟨3, some (sNum, ndig 256 q.num.natAbs)⟩
   | some p => .ok (tagR q :: (d ++ p))
def takeB (b : List Nat) : Except Int (Nat × List Nat) :=
 match b with
 | [] => .error 90
 | n :: r => if r.length < n then .error 90 else if (r.take n).head? = some 0 ∨ undig 256 (r.take n) = 0 then .error 91 else .ok (undig 256 (r.take n), r.drop n)
def sgnI (t p : Nat) : Int := if t % 2 = 0 then -(p : Int) else (p : Int)
def decR (b : List Nat) : Except Flt (Rat × Nat) :=
 match b with
 | [] => .error ⟨90, none⟩
 | t :: r => if t = 0 then .ok (0, 1) else if 4 < t then .error ⟨91, none⟩ else
  match (if 3 ≤ t then takeB r else .ok (1, r)) with
  | .error e => .error ⟨e, some (sDiv, 1)⟩
  | .ok (d, r2) => match takeB r2 with
   | .error e => .error ⟨e, some (sNum, (((t :: r).length - r2.length : Nat) : Int))⟩
   | .ok (p, r3) => if tagR (Rat.divInt (sgnI t p) d) = t ∧ (Rat.divInt (sgnI t p) d).den = d then .ok (Rat.divInt (sgnI t p) d, (t :: r).length - r3.length) else .error ⟨91, none⟩
theorem take_part {n : Nat} (h0 : n ≠ 0) {l : List Nat} (h : partB n = some l) (more : List Nat) : takeB (l ++ more) = .ok (n, more) := by
 unfold partB at h
 split at h
 ·
  cases h
 ·
  injection h with h
  subst h
  have hl := dig_len 256 n
  have ht : (dig 256 n ++ more).take (ndig 256 n) = dig 256 n := by rw [← hl, List.take_left]
  have hd : (dig 256 n ++ more).drop (ndig 256 n) = more := by rw [← hl, List.drop_left]
  unfold takeB
  simp only [List.cons_append]
  rw [if_neg (by rw [List.length_append, hl]; omega), ht, hd, undig_dig (by omega), if_neg]
  rintro (h | h)
  ·
   exact dig_head (by omega) n 0 h rfl
  ·
   exact h0 h
theorem part_take {b : List Nat} (hb : ∀ x ∈ b, x < 256) {n : Nat} {r : List Nat} (h : takeB b = .ok (n, r)) : n ≠ 0 ∧ ∃ l, partB n = some l ∧ b = l ++ r ∧ 1 ≤ l.length := by
 cases b with
 | nil => cases h
 | cons k b =>
  unfold takeB at h
  simp only at h
  split at h
  ·
   cases h
  ·
   split at h
   ·
    cases h
   ·
    rename_i h1 h2
    injection h with h
    injection h with h3 h4
    have hk : k < 256 := hb k List.mem_cons_self
    have hlt : (b.take k).length = k := by rw [List.length_take]; omega
    have hx := dig_undig (B := 256) (by omega) (b.take k) (fun x hx => hb x (List.mem_cons_of_mem _ (List.mem_of_mem_take hx))) (fun x hx e => h2 (.inl (by rw [hx, e])))
    rw [h3] at hx
    have hn : ndig 256 n = k := by rw [← dig_len, hx, hlt]
    refine ⟨fun e => h2 (.inr (by rw [h3, e])), _, by unfold partB; rw [if_neg (by omega)], ?_, by simp⟩
    rw [hn, hx, ← h4, List.cons_append, List.take_append_drop]
theorem part_len {n : Nat} {l : List Nat} (h : partB n = some l) : l.length = ndig 256 n + 1 ∧ ndig 256 n ≤ 255 := by
 unfold partB at h
 split at h
 ·
  cases h
 ·
  injection h with h; subst h; exact ⟨by rw [List.length_cons, dig_len], by omega⟩
theorem tagR_zero : tagR 0 = 0 := by unfold tagR; rw [if_pos rfl]
theorem tagR_ne {q : Rat} (h : q ≠ 0) : tagR q = (if q.den = 1 then 1 else 3) + (if q.num < 0 then 1 else 0) := by unfold tagR; rw [if_neg h]
theorem tagR_facts {q : Rat} (h : q ≠ 0) : 1 ≤ tagR q ∧ tagR q ≤ 4 ∧ (3 ≤ tagR q ↔ q.den ≠ 1) ∧ (tagR q % 2 = 0 ↔ q.num < 0) := by
 rw [tagR_ne h]
 split <;> split <;> simp_all
theorem sgn_back {q : Rat} (h : q ≠ 0) : Rat.divInt (sgnI (tagR q) q.num.natAbs) q.den = q := by
 have h1 := (tagR_facts h).2.2.2
 have : sgnI (tagR q) q.num.natAbs = q.num := by
  unfold sgnI
  split
  ·
   rename_i h2; have := h1.1 h2; omega
  ·
   rename_i h2
   have : ¬ q.num < 0 := fun h3 => h2 (h1.2 h3)
   omega
 rw [this]
 exact Rat.num_divInt_den q
theorem dec_enc {q : Rat} {l : List Nat} (h : encR q = .ok l) (more : List Nat) : decR (l ++ more) = .ok (q, l.length) := by
 unfold encR at h
 split at h
 ·
  rename_i h0; subst h0; injection h with h; subst h; rfl
 ·
  rename_i h0
  split at h
  ·
   cases h
  ·
   rename_i d hd
   split at h
   ·
    cases h
   ·
    rename_i p hp
    injection h with h
    subst h
    obtain ⟨f1, f2, f3, f4⟩ := tagR_facts h0
    have hn0 : q.num.natAbs ≠ 0 := fun e => h0 (Rat.num_eq_zero.1 (by omega))
    have hb : decR (tagR q :: (d ++ p) ++ more) = decR (tagR q :: (d ++ (p ++ more))) := by rw [List.cons_append, List.append_assoc]
    have hd2 : (if 3 ≤ tagR q then takeB (d ++ (p ++ more)) else .ok (1, d ++ (p ++ more))) = .ok (q.den, p ++ more) := by
     by_cases h1 : q.den = 1
     ·
      rw [if_pos h1] at hd
      injection hd with hd
      rw [if_neg (fun h2 => f3.1 h2 h1), ← hd, h1]; rfl
     ·
      rw [if_neg h1] at hd
      rw [if_pos (f3.2 h1)]
      exact take_part q.den_nz hd _
    rw [hb]
    unfold decR
    simp only
    rw [if_neg (by omega), if_neg (by omega), hd2]
    simp only
    rw [take_part hn0 hp]
    simp only
    rw [sgn_back h0, if_pos ⟨rfl, rfl⟩]
    congr 2
    simp only [List.length_cons, List.length_append]
    omega
theorem enc_dec {b : List Nat} (hb : ∀ x ∈ b, x < 256) {q : Rat} {n : Nat} (h : decR b = .ok (q, n)) : encR q = .ok (b.take n) ∧ 1 ≤ n ∧ n ≤ b.length := by
 cases b with
 | nil => cases h
 | cons t r =>
  unfold decR at h
  simp only at h
  have hr : ∀ x ∈ r, x < 256 := fun x hx => hb x (List.mem_cons_of_mem _ hx)
  split at h
  ·
   rename_i h0
   injection h with h
   injection h with h1 h2
   subst h1 h2 h0
   exact ⟨by unfold encR; rw [if_pos rfl]; rfl, by omega, by simp⟩
  ·
   rename_i ht0
   split at h
   ·
    cases h
   ·
    rename_i ht4
    split at h
    ·
     cases h
    ·
     rename_i d r2 hd
     split at h
     ·
      cases h
     ·
      rename_i p r3 hp
      split at h
      ·
       rename_i hq
       injection h with h
       injection h with h1 h2
       rw [h1] at hq
       obtain ⟨hq1, hq2⟩ := hq
       have hne : q ≠ 0 := fun e => by rw [e, tagR_zero] at hq1; exact ht0 hq1.symm
       have f := tagR_facts hne
       rw [hq1] at f
       have hdd : ∃ dl, (if q.den = 1 then some [] else partB q.den) = some dl ∧ r = dl ++ r2 := by
        by_cases h3 : 3 ≤ t
        ·
         rw [if_pos h3] at hd
         obtain ⟨_, l, hl, hr2, _⟩ := part_take hr hd
         exact ⟨l, by rw [if_neg (f.2.2.1.1 h3), hq2]; exact hl, hr2⟩
        ·
         rw [if_neg h3] at hd
         injection hd with hd
         injection hd with hd1 hd2
         exact ⟨[], by rw [if_pos (by omega)], hd2.symm ▸ rfl⟩
       obtain ⟨dl, hdl, hr2⟩ := hdd
       have hr2' : ∀ x ∈ r2, x < 256 := fun x hx => hr x (by rw [hr2]; exact List.mem_append_right _ hx)
       obtain ⟨hp0, pl, hpl, hr3, hpl1⟩ := part_take hr2' hp
       have hnum : q.num.natAbs = p := by
        have hsg : Rat.divInt (sgnI t p) q.den = Rat.divInt q.num q.den := by rw [Rat.num_divInt_den, hq2, h1]
        have hdn : (q.den : Int) ≠ 0 := by have := q.den_nz; omega
        have h5 : sgnI t p = q.num := by
         have h6 := (Rat.divInt_eq_divInt_iff hdn hdn).1 hsg
         exact Int.eq_of_mul_eq_mul_right hdn h6
        rw [← h5]
        unfold sgnI
        split <;> omega
       have hlen : (t :: r).length - r3.length = (dl ++ pl).length + 1 := by
        rw [hr2, hr3]; simp only [List.length_cons, List.length_append]; omega
       rw [hlen] at h2
       refine ⟨?_, by omega, ?_⟩
       ·
        unfold encR
        rw [if_neg hne, hdl]
        simp only
        rw [hnum, hpl]
        simp only
        rw [hq1, ← h2, List.take_succ_cons, hr2, hr3, ← List.append_assoc, List.take_left]
       ·
        rw [← h2, hr2, hr3]; simp only [List.length_cons, List.length_append]; omega
      ·
       cases h
theorem take_length {b : List Nat} {n : Nat} {r : List Nat} (h : takeB b = .ok (n, r)) : r.length < b.length := by
 cases b with
 | nil => cases h
 | cons k b =>
  unfold takeB at h
  simp only at h
  split at h
  ·
   cases h
  ·
   split at h
   ·
    cases h
   ·
    injection h with h
    injection h with h1 h2
    rw [← h2, List.length_drop, List.length_cons]; omega
theorem enc_size (q : Rat) : (255 < ndig 256 q.num.natAbs ∨ (q.den ≠ 1 ∧ 255 < ndig 256 q.den) → ∃ f, encR q = .error f ∧ f.n = 3) ∧ (¬ (255 < ndig 256 q.num.natAbs ∨ (q.den ≠ 1 ∧ 255 < ndig 256 q.den)) → ∃ l, encR q = .ok l ∧ l.length = if q = 0 then 1 else if q.den = 1 then 2 + ndig 256 q.num.natAbs else 3 + ndig 256 q.num.natAbs + ndig 256 q.den) := by
 unfold encR
 by_cases h0 : q = 0
 ·
  subst h0
  rw [if_pos rfl]
  refine ⟨fun h => ?_, fun _ => ⟨[0], rfl, rfl⟩⟩
  rcases h with h | ⟨h, _⟩
  ·
   rw [show (0 : Rat).num.natAbs = 0 from rfl, ndig_zero] at h; omega
  ·
   exact absurd rfl h
 ·
  rw [if_neg h0]
  by_cases h1 : q.den = 1
  ·
   rw [if_pos h1]
   simp only
   by_cases h2 : 255 < ndig 256 q.num.natAbs
   ·
    rw [show partB q.num.natAbs = none by unfold partB; rw [if_pos h2]]
    exact ⟨fun _ => ⟨_, rfl, rfl⟩, fun h => absurd (Or.inl h2) h⟩
   ·
    rw [show partB q.num.natAbs = some (ndig 256 q.num.natAbs :: dig 256 q.num.natAbs) by unfold partB; rw [if_neg h2]]
    refine ⟨fun h => ?_, fun _ => ⟨_, rfl, ?_⟩⟩
    ·
     rcases h with h | ⟨h, _⟩
     ·
      exact absurd h h2
     ·
      exact absurd h1 h
    ·
     rw [if_neg h0, if_pos h1]
     simp only [List.length_cons, List.length_append, List.length_nil, dig_len]; omega
  ·
   rw [if_neg h1]
   by_cases h3 : 255 < ndig 256 q.den
   ·
    rw [show partB q.den = none by unfold partB; rw [if_pos h3]]
    exact ⟨fun _ => ⟨_, rfl, rfl⟩, fun h => absurd (Or.inr ⟨h1, h3⟩) h⟩
   ·
    rw [show partB q.den = some (ndig 256 q.den :: dig 256 q.den) by unfold partB; rw [if_neg h3]]
    simp only
    by_cases h2 : 255 < ndig 256 q.num.natAbs
    ·
     rw [show partB q.num.natAbs = none by unfold partB; rw [if_pos h2]]
     exact ⟨fun _ => ⟨_, rfl, rfl⟩, fun h => absurd (Or.inl h2) h⟩
    ·
     rw [show partB q.num.natAbs = some (ndig 256 q.num.natAbs :: dig 256 q.num.natAbs) by unfold partB; rw [if_neg h2]]
     refine ⟨fun h => ?_, fun _ => ⟨_, rfl, ?_⟩⟩
     ·
      rcases h with h | ⟨_, h⟩
      ·
       exact absurd h h2
      ·
       exact absurd h h3
     ·
      rw [if_neg h0, if_neg h1]
      simp only [List.length_cons, List.length_append, dig_len]; omega
def textN (n : Nat) : List Nat := if n = 0 then [48] else (dig 10 n).map (· + 48)
def readN (s : List Nat) : Option Nat := if s = [] ∨ (1 < s.length ∧ s.head? = some 48) then none else if ∀ c, c ∈ s → 48 ≤ c ∧ c ≤ 57 then some (undig 10 (s.map (· - 48))) else none
def textZ (z : Int) : List Nat := if z < 0 then 45 :: textN z.natAbs else textN z.natAbs
def readZ (s : List Nat) : Option Int := if s.head? = some 45 then (match readN s.tail with | none => none | some n => if n = 0 then none else some (-(n : Int))) else (match readN s with | none => none | some n => some (n : Int))
def textR (q : Rat) : List Nat := if q.den = 1 then textZ q.num else textZ q.num ++ 47 :: textN q.den
def readR (s : List Nat) : Except Flt Rat :=
 match readZ (s.takeWhile (· != 47)) with
 | none => .error ⟨91, some (sNum, 0)⟩
 | some z => match s.dropWhile (· != 47) with
  | [] => .ok (z : Rat)
  | _ :: t => match readN t with
   | none => .error ⟨91, some (sDiv, (((s.takeWhile (· != 47)).length : Nat) : Int) + 1)⟩
   | some d => if d = 0 then .error ⟨91, some (sDiv, (((s.takeWhile (· != 47)).length : Nat) : Int) + 1)⟩ else if textR (Rat.divInt z d) = s then .ok (Rat.divInt z d) else .error ⟨91, none⟩
theorem textN_digits (n : Nat) : ∀ c, c ∈ textN n → 48 ≤ c ∧ c ≤ 57 := fun c hc => by
 unfold textN at hc
 split at hc
 ·
  rw [List.mem_singleton.1 hc]; omega
 ·
  obtain ⟨d, hd, rfl⟩ := List.mem_map.1 hc
  have := dig_lt (B := 10) (by omega) n d hd
  omega
theorem text_read {s : List Nat} {n : Nat} (h : readN s = some n) : textN n = s := by
 unfold readN at h
 split at h
 ·
  cases h
 ·
  rename_i h1
  split at h
  ·
   rename_i h2
   injection h with h
   have hback : (s.map (· - 48)).map (· + 48) = s := by
    rw [List.map_map]
    conv => rhs; rw [← List.map_id s]
    apply List.map_congr_left
    intro c hc
    have := h2 c hc
    simp only [Function.comp, id]; omega
   cases s with
   | nil => exact absurd (Or.inl rfl) h1
   | cons c t =>
    by_cases hc : c = 48
    ·
     subst hc
     cases t with
     | cons d t => exact absurd (Or.inr ⟨by simp, rfl⟩) h1
     | nil => subst h; rfl
    ·
     have h3 := h2 c List.mem_cons_self
     have h4 := dig_undig (B := 10) (by omega) ((c :: t).map (· - 48)) (fun x hx => by
      obtain ⟨y, hy, rfl⟩ := List.mem_map.1 hx
      have := h2 y hy; omega) (fun x hx => by
      have hx' : c - 48 = x := Option.some.inj hx
      omega)
     rw [h] at h4
     unfold textN
     rw [if_neg, h4, hback]
     intro e
     rw [e, dig_zero] at h4
     cases h4
  ·
   cases h
theorem text_readZ {s : List Nat} {z : Int} (h : readZ s = some z) : textZ z = s := by
 unfold readZ at h
 split at h
 ·
  rename_i h0
  split at h
  ·
   cases h
  ·
   rename_i n hn
   split at h
   ·
    cases h
   ·
    rename_i hne
    injection h with h
    subst h
    unfold textZ
    rw [if_pos (by omega), show (-(n : Int)).natAbs = n by omega, text_read hn]
    cases s with
    | nil => cases h0
    | cons c t => injection h0 with h0; rw [h0]; rfl
 ·
  split at h
  ·
   cases h
  ·
   rename_i n hn
   injection h with h
   subst h
   unfold textZ
   rw [if_neg (by omega), show ((n : Int)).natAbs = n by omega, text_read hn]
theorem textR_read {s : List Nat} {q : Rat} (h : readR s = .ok q) : textR q = s := by
 unfold readR at h
 split at h
 ·
  cases h
 ·
  rename_i z hz
  split at h
  ·
   rename_i hd
   injection h with h
   subst h
   have h1 := text_readZ hz
   have h2 : s.takeWhile (· != 47) = s := by
    have := List.takeWhile_append_dropWhile (p := (· != 47)) (l := s)
    rw [hd, List.append_nil] at this
    exact this
   unfold textR
   rw [if_pos (by simp), show ((z : Rat)).num = z from rfl, h1, h2]
  ·
   split at h
   ·
    cases h
   ·
    split at h
    ·
     cases h
    ·
     split at h
     ·
      rename_i ht
      injection h with h
      subst h
      exact ht
     ·
      cases h
end Go.Proofs.YtmhainidincjhaaGreatDoor
namespace Go.Proofs.YtmhainidincjhaaGreatDoor
open Go.RowKit
def strB (l : List Nat) : ByteArray := ⟨(l.map UInt8.ofNat).toArray⟩
theorem cells_str {l : List Nat} (h : ∀ c, c ∈ l → c < 256) : Lib.byteCells (l.map UInt8.ofNat) = l.map BN := by
 unfold Lib.byteCells
 rw [List.map_map]
 apply List.map_congr_left
 intro c hc
 have := h c hc
 simp only [Function.comp, BN]
 congr 1
 rw [UInt8.toNat_ofNat']
 omega
theorem BS.keeps {w W W' : World} {bs : List Bk} {ns : List Nm} {S : Nat → Prop} (h : BS w bs ns W) (hk : Keeps W W' S) (h1 : ∀ k, S k → w.heap.size ≤ k) (h2 : ∀ k, S k → ∀ b, b ∈ bs → b.p ≠ k) (h3 : ∀ k, S k → ¬ WordB W k) : BS w bs ns W' :=
 ⟨h.bel.trans (hk.below h.bel.size h1), fun b hb => ⟨(hk.block b.p (lt_of_block (h.box b hb).1) fun hs => h2 _ hs b hb rfl).trans (h.box b hb).1, (h.box b hb).2⟩, h.nod, fun x hx => (h.num x hx).keeps hk h3⟩
structure YB (w : World) (bs : List Bk) (ns : List Nm) (a : Option Addr) (n c : Nat) (xs : List Nat) (W : World) : Prop where
 st : BS w bs ns W
 mid : Mid W w.heap.size 5 1 (.slice a n c) n (xs.map BN)
 nod : ∀ k, (Value.slice a n c).ownBlock = some k → ∀ b, b ∈ bs → b.p ≠ k
section
variable {w W W' : World} {bs : List Bk} {ns : List Nm} {a : Option Addr} {n c : Nat} {xs : List Nat}
theorem YB.start (h : BS w bs ns W) : YB w bs ns none 0 0 [] W := ⟨h, Mid.nil _ _ _ _, fun k hk => by cases hk⟩
theorem YB.call (h : YB w bs ns a n c xs W) (hb : Below W.heap.size W W') : YB w bs ns a n c xs W' := ⟨h.st.call hb, mid_under h.mid hb, h.nod⟩
theorem YB.got (h : YB w bs ns a n c xs W) {a2 : Option Addr} {c2 m : Nat} (hn : NatW W a2 c2 m) : YB w bs (ns ++ [⟨a2, c2, m⟩]) a n c xs W := ⟨h.st.got hn, h.mid, h.nod⟩
theorem YB.alloc (h : YB w bs ns a n c xs W) {p : Nat} (hp : W.heap.size = p) (T : TypeId) (cs : List Value) {o : Obj} (ho : o = .cells cs.toArray T (0, 0)) : YB w (bs ++ [⟨p, T, cs⟩]) ns a n c xs (W.alloc o) :=
 ⟨h.st.alloc hp T cs ho, h.mid.alloc _, fun k hk b hb => by
  rcases List.mem_append.1 hb with hb | hb
  ·
   exact h.nod k hk b hb
  ·
   rw [List.mem_singleton.1 hb]
   have := (h.mid.lt k hk).2
   simp only; omega⟩
theorem YB.set (h : YB w bs ns a n c xs W) (i j : Nat) {b : Bk} {u0 : Value} (hi : bs[i]? = some b) (hj : b.cs[j]? = some u0) (h0 : ∀ x, u0 ≠ .int .u64 x) (v : Value) : YB w (bs.set i ⟨b.p, b.T, b.cs.set j v⟩) ns a n c xs (W.setCell ⟨b.p, j, none⟩ v) :=
 ⟨h.st.set i j hi hj h0 v, h.mid.setCell v fun e => h.nod b.p e b (List.mem_of_getElem? hi) rfl, fun k hk b2 hb2 => by
  rcases List.mem_or_eq_of_mem_set hb2 with hb2 | rfl
  ·
   exact h.nod k hk b2 hb2
  ·
   exact h.nod k hk b (List.mem_of_getElem? hi)⟩
theorem YB.only (h : YB w bs ns a n c xs W) {bs' : List Bk} {ns' : List Nm} (hb : bs'.Sublist bs) (hn : ∀ x, x ∈ ns' → x ∈ ns) : YB w bs' ns' a n c xs W := ⟨h.st.only hb hn, h.mid, fun k hk b hb2 => h.nod k hk b (hb.subset hb2)⟩
theorem YB.push (h : YB w bs ns a n c xs W) {ob : Obj} {a' : Option Addr} {c' : Nat} {ys : List Nat} {m : Nat} (hm : Mid W' w.heap.size 5 1 (.slice a' (n + m) c') (n + m) (xs.map BN ++ ys.map BN)) (hg : (W.alloc ob).grownBy W' (Value.slice a n c).ownBlock) (hb : (Value.slice a' (n + m) c').ownBlock = (Value.slice a n c).ownBlock ∨ (Value.slice a' (n + m) c').ownBlock = some (W.alloc ob).heap.size) : YB w bs ns a' (n + m) c' (xs ++ ys) W' := by
 refine ⟨h.st.keeps (grown_keeps hg) (fun k hk => (h.mid.lt k hk).1) (fun k hk => h.nod k hk) (fun k hk => h.mid.noWord (by decide) k hk), by rw [List.map_append]; exact hm, fun k hk b hbb => ?_⟩
 rcases hb with e | e
 ·
  exact h.nod k (by rw [← e]; exact hk) b hbb
 ·
  rw [hk] at e
  injection e with e
  have := lt_of_block (h.st.box b hbb).1
  simp at e
  omega
theorem YB.len (h : YB w bs ns a n c xs W) : xs.length = n := by simpa using h.mid.1
theorem YB.bytes (h : YB w bs ns a n c xs W) : BytesN W (.slice a n c) xs := by
 have := Sl.ofMid h.mid
 unfold BytesN
 rw [h.len]; exact this
end
def decF (n i : Nat) : Nat := n / 10 ^ i % 10 + 48
theorem dec_digit (n j i : Nat) (h : i < 19) : n / 10 ^ (19 * j) % 10000000000000000000 / 10 ^ i % 10 + 48 = decF n (19 * j + i) := by
 unfold decF
 have h1 : (10000000000000000000 : Nat) = 10 ^ i * 10 ^ (19 - i) := by rw [← Nat.pow_add, show i + (19 - i) = 19 by omega]
 have h2 : (10 : Nat) ∣ 10 ^ (19 - i) := ⟨10 ^ (19 - i - 1), by rw [← Nat.pow_succ']; exact congrArg (fun z => 10 ^ z) (show 19 - i = 19 - i - 1 + 1 by omega)⟩
 rw [h1, Nat.mod_mul_right_div_self, Nat.mod_mod_of_dvd _ h2, Nat.div_div_eq_div_mul, ← Nat.pow_add]
theorem pow10_words {n j : Nat} (h : n / 10 ^ (19 * j) ≠ 0) : j ≤ 2 * lenW n := by
 have h1 : 10 ^ (19 * j) ≤ n := by
  rcases Nat.lt_or_ge n (10 ^ (19 * j)) with h2 | h2
  ·
   exact absurd (Nat.div_eq_of_lt h2) h
  ·
   exact h2
 have h2 := lt_lenW n
 rw [W64_pow] at h2
 have h3 : (2 : Nat) ^ (63 * j) ≤ 10 ^ (19 * j) := by
  rw [Nat.pow_mul, Nat.pow_mul]
  exact Nat.pow_le_pow_left (by decide) j
 have h4 := (Nat.pow_lt_pow_iff_right (show 1 < 2 by omega)).1 (Nat.lt_of_le_of_lt (Nat.le_trans h3 h1) h2)
 omega
theorem dec_next (n j : Nat) : n / 10 ^ (19 * j) / 10000000000000000000 = n / 10 ^ (19 * (j + 1)) := by
 rw [Nat.div_div_eq_div_mul, show 19 * (j + 1) = 19 * j + 19 by omega, Nat.pow_add]
theorem fnL_snoc (M : Nat) (f : Nat → Nat) : fnL M f ++ [f M] = fnL (M + 1) f := by unfold fnL; rw [List.range_succ, List.map_append]; rfl
theorem text_zero (a : Option Addr) (c : Nat) (w : World) : Calls Tryz.prog 84 #[.agg #[.slice a (lenW 0) c]] w fun e w' => e = .returned (.string (strB (textN 0))) ∧ Below w.heap.size w w' := by
 have HZ := Lib.hid (fun W => nzero_is a c 0 W rfl)
 have HE := Lib.hid (show strB (textN 0) = ⟨#[48]⟩ from rfl)
 rw [HE.out]
 go_enter Tryz.func84, Tryz.ntmps84
 go_wp2_with fail
 refine (HZ.out _).mono ?_
 rintro e w1 ⟨rfl, hb⟩
 go_wp2_with fail
 go_ret
 exact ⟨rfl, (belowBox _ _).trans (hb.mono (by simp))⟩
theorem text_pos (a : Option Addr) (c n : Nat) (w : World) (ha : NatW w a c n) (h0 : n ≠ 0) (hs : lenW n ≤ 1099511627776) : Calls Tryz.prog 84 #[.agg #[.slice a (lenW n) c]] w fun e w' => e = .returned (.string (strB (textN n))) ∧ Below w.heap.size w w' := by
 obtain ⟨i0, hi, hz0, hz1, hz2⟩ := info_parts Tryz.info_bytes
 have HZ := Lib.hid (fun W => nzero_no a c n W h0)
 have HB := Lib.hid (fun (a1 : Option Addr) (c1 y : Nat) (W : World) (h : NatW W a1 c1 y) (hy : y ≤ n) => byWord_any a1 c1 y 10000000000000000000 W h (by omega) (by unfold W64; omega) (Nat.le_trans (lenW_mono hy) (by omega)))
 have HS := Lib.hid hs
 have HBS := Lib.hid ((BS.begin [⟨a, c, n⟩] (fun y hy => by rw [List.mem_singleton.1 hy]; exact ha)).alloc (p := w.heap.size) rfl 41 [.slice a (lenW n) c] rfl)
 have HN0 := Lib.hid h0
 clear ha h0 hs
 go_enter Tryz.func84, Tryz.ntmps84
 go_wp2_with fail
 refine (HZ.out _).mono ?_
 rintro e w1 ⟨rfl, hb1⟩
 have HN1 := Lib.hid (HBS.out.call hb1)
 clear hb1
 go_wp2_with fail
 go_loopg [3] n (fun y v3 wr => ∃ (j : Nat) (a1 : Option Addr) (c1 : Nat) (a2 : Option Addr) (c2 : Nat), y = n / 10 ^ (19 * j) ∧ j ≤ 2 * lenW n + 1 ∧ v3 = .slice a2 (19 * j) c2 ∧ YB w [⟨w.heap.size, 41, [.slice a1 (lenW y) c1]⟩] [⟨a1, c1, y⟩] a2 (19 * j) c2 (fnL (19 * j) (decF n)) wr)
 case atStart => exact ⟨0, a, c, none, 0, by rw [Nat.mul_zero, Nat.pow_zero, Nat.div_one], by omega, rfl, YB.start HN1.out⟩
 case round =>
  obtain ⟨y, rfl⟩ : ∃ y, y = gk := ⟨_, rfl⟩
  obtain ⟨j, a1, c1, a2, c2, hy, hj, rfl, hyb⟩ := hrel
  have HY := Lib.hid hy
  have HYB := Lib.hid hyb
  clear hy hyb HN1
  by_cases h0 : y = 0
  ·
   have HZ1 := Lib.hid (fun W => nzero_is a1 c1 y W h0)
   have hn := HN0.out
   have hlt : n < 10 ^ (19 * j) := by
    rcases Nat.lt_or_ge n (10 ^ (19 * j)) with h2 | h2
    ·
     exact h2
    ·
     have h3 : 1 ≤ n / 10 ^ (19 * j) := (Nat.le_div_iff_mul_le (Nat.pow_pos (by omega))).2 (by omega)
     rw [← HY.out, h0] at h3; omega
   obtain ⟨L, hL⟩ : ∃ L, ndig 10 n = L := ⟨_, rfl⟩
   have hLM : L ≤ 19 * j := by rw [← hL]; exact ndig_lt (by omega) hlt
   have hL1 : 1 ≤ L := by rw [← hL, ndig_pos (by omega) hn]; omega
   have HTX := Lib.hid (fun t (ht : t < L) => show (textN n)[t]? = some (decF n (L - 1 - t)) by
    unfold textN decF
    rw [if_neg hn, List.getElem?_map, dig_at (by omega), hL]; rfl)
   have HTL := Lib.hid (show (textN n).length = L by unfold textN; rw [if_neg hn, List.length_map, dig_len, hL])
   have HD48 := Lib.hid (fun k (hk : L ≤ k) => show decF n k = 48 by
    unfold decF
    have h1 := lt_ndig (B := 10) (by omega) n
    rw [hL] at h1
    rw [Nat.div_eq_of_lt (Nat.lt_of_lt_of_le h1 (Nat.pow_le_pow_right (by omega) hk))])
   have HDNE := Lib.hid (show decF n (L - 1) ≠ 48 by
    intro e
    have h1 := dig_head (B := 10) (by omega) n (n / 10 ^ (L - 1) % 10) (by rw [List.head?_eq_getElem?, dig_at (by omega), hL]; rfl)
    unfold decF at e; omega)
   have hj4 : 19 * j ≤ 41781441855523 := by have := HS.out; omega
   have k0 := HYB.out.st.cell 0 0 rfl rfl
   clear h0 hlt hL hn
   obtain ⟨M, hM⟩ : ∃ M, 19 * j = M := ⟨_, rfl⟩
   rw [hM] at HYB hLM hj4 ⊢
   clear hM HY hj
   go_wp2_with fail
   refine (HZ1.out _).mono ?_
   rintro e w2 ⟨rfl, hb2⟩
   replace HYB := Lib.hid (HYB.out.call hb2)
   clear hb2 k0 HZ1 HB HZ HBS
   have HIB := Lib.hid (IsB.fresh w2)
   have HBE := Lib.hid (belowBox w2 (.cells #[.pointer none, .slice none 0 0] 250))
   obtain ⟨b, hb⟩ : ∃ b, w2.heap.size = b := ⟨_, rfl⟩
   obtain ⟨W1, hW1⟩ : ∃ W1, w2.alloc (.cells #[.pointer none, .slice none 0 0] 250) = W1 := ⟨_, rfl⟩
   rw [hW1, hb] at HIB HBE
   have HBY := Lib.hid (show ∀ W, Below b W1 W → BytesN W (.slice a2 M c2) (fnL M (decF n)) from fun W h => by
    have h1 := HYB.out.bytes
    have h2 : Below w2.heap.size w2 W := by rw [hb]; exact HBE.out.trans h
    exact h1.below h2)
   have HW1 := Lib.hid hW1
   have HBB := Lib.hid hb
   have HBW := Lib.hid (show Below w.heap.size w w2 from HYB.out.st.bel)
   have hwb : w2.heap.size ≤ b := by omega
   clear hW1 hb
   go_upto_region 14 with fail
   (try simp only [HW1.out])
   (try simp only [HBB.out])
   clear HYB HW1 HBB
   go_loopw [8] (fun v8 wr => ∃ k : Nat, L - 1 ≤ k ∧ k < M ∧ v8 = .int .i64 k ∧ W1 = wr) (fun v8 _ => (intOf v8).toNat)
   case atStart => exact ⟨M - 1, by omega, by omega, congrArg (Value.int .i64) (by omega), by trivial⟩
   case round =>
    obtain ⟨k, hk1, hk2, rfl, rfl⟩ := hrel
    obtain ⟨gb, o, ea, hlt, hc⟩ := (HBY.out W1 (Below.refl _ _)).get k (fnL_at (decF n) hk2)
    have i0 : (0 : Int) ≤ (k : Int) := by omega
    have i1 : (k : Int) < (M : Int) := by omega
    obtain ⟨d, hd⟩ : ∃ d, decF n k = d := ⟨_, rfl⟩
    rw [hd] at hc
    by_cases he : L ≤ k
    ·
     have hd48 : d = 48 := by rw [← hd]; exact HD48.out k he
     subst hd48
     have ea' : a2 = some ⟨gb, o, none⟩ := ea
     clear ea hlt hd
     subst ea'
     go_wp2_with fail
     go_roundw
     case rel => exact ⟨k - 1, by omega, by omega, congrArg (Value.int .i64) (by omega), by trivial⟩
     case measure => simp [intOf]; omega
    ·
     obtain rfl : k = L - 1 := by omega
     have hdn : ((d : Int) == 48) = false := beq_eq_false_iff_ne.2 (by have := HDNE.out; omega)
     have ea' : a2 = some ⟨gb, o, none⟩ := ea
     clear ea hlt hd
     subst ea'
     go_upto_region 16 with fail
     clear hc hdn
     go_loopw [8] (fun v8 wr => ∃ (t : Nat) (zi : Int), t ≤ L ∧ zi = (L : Int) - 1 - (t : Int) ∧ v8 = .int .i64 zi ∧ IsB b b ((textN n).take t) wr ∧ Below b W1 wr) (fun v8 _ => (intOf v8 + 1).toNat)
     case atStart => exact ⟨0, ((L - 1 : Nat) : Int), by omega, by omega, rfl, HIB.out, Below.refl _ _⟩
     case round =>
      obtain ⟨t, zi, ht, hz, rfl, hib, hbl⟩ := hrel
      by_cases hlt : t < L
      ·
       obtain ⟨q, hq⟩ : ∃ q : Nat, (q : Int) = zi := ⟨L - 1 - t, by omega⟩
       subst hq
       have hqt : L - 1 - t = q := by omega
       obtain ⟨gb2, o2, ea2, hlt2, hc⟩ := (HBY.out wr hbl).get q (fnL_at (decF n) (show q < M by omega))
       have ea3 : (⟨gb, o, none⟩ : Addr) = ⟨gb2, o2, none⟩ := Option.some.inj ea2
       cases ea3
       have htx := HTX.out t hlt
       rw [hqt] at htx
       have i2 : (0 : Int) ≤ (q : Int) := by omega
       have i3 : (q : Int) < (M : Int) := by omega
       have HWB := Lib.hid (writeByte_any b b ((textN n).take t) (decF n q) wr hib (by rw [List.length_take, HTL.out]; omega) (Nat.le_of_lt hib.lt.2))
       have HTK := Lib.hid (show (textN n).take t ++ [decF n q] = (textN n).take (t + 1) by rw [List.take_add_one, htx]; rfl)
       have HBL := Lib.hid hbl
       have hz2 : (q : Int) - 1 = (L : Int) - 1 - ((t + 1 : Nat) : Int) := by omega
       have HZ2 := Lib.hid hz2
       clear hz hz2 ea2 hlt2 htx hib hbl hqt
       obtain ⟨d, hd⟩ : ∃ d, decF n q = d := ⟨_, rfl⟩
       rw [hd] at hc HWB HTK
       clear hd
       go_wp2_with fail
       refine HWB.out.mono ?_
       rintro e w5 ⟨rfl, hib, hbl⟩
       rw [HTK.out] at hib
       have HIB5 := Lib.hid hib
       have HBL5 := Lib.hid (HBL.out.trans hbl)
       clear hib hbl hc
       go_wp2_with fail
       go_roundw
       case rel => exact ⟨t + 1, (q : Int) - 1, by omega, HZ2.out, rfl, HIB5.out, HBL5.out⟩
       case measure => simp [intOf]; try omega
      ·
       obtain rfl : L = t := by omega
       obtain rfl : zi = -1 := by omega
       rw [List.take_of_length_le (by rw [HTL.out]; exact Nat.le_refl _)] at hib
       have HST := Lib.hid (show Calls Tryz.prog 144 #[.pointer (some ⟨b, 0, none⟩)] wr fun e w' => e = .returned (.string (strB (textN n))) ∧ Below b wr w' from Tryz.Builder_String_any b b ((textN n).map UInt8.ofNat) wr (by rw [cells_str (fun c hc => by have := textN_digits n c hc; omega)]; exact hib) (Nat.le_of_lt hib.lt.2))
       have HBL := Lib.hid hbl
       clear hib hbl hz hlt
       go_wp2_with fail
       refine HST.out.mono ?_
       rintro e w6 ⟨rfl, hb6⟩
       have HB6 := Lib.hid hb6
       clear hb6
       go_wp2_with fail
       go_ret
       refine ⟨rfl, ?_⟩
       exact HBW.out.trans ((HBE.out.trans (HBL.out.trans HB6.out)).mono (Nat.le_trans HBW.out.size hwb))
  ·
   have HZ1 := Lib.hid (fun W => nzero_no a1 c1 y W h0)
   have hyn : y ≤ n := by rw [HY.out]; exact Nat.div_le_self _ _
   have HB1 := Lib.hid (fun (W : World) (h : NatW W a1 c1 y) => HB.out a1 c1 y W h hyn)
   have hj2 : j ≤ 2 * lenW n := pow10_words (by rw [← HY.out]; exact h0)
   clear hyn
   have k0 := HYB.out.st.cell 0 0 rfl rfl
   go_wp2_with fail
   refine (HZ1.out _).mono ?_
   rintro e w2 ⟨rfl, hb2⟩
   replace HYB := Lib.hid (HYB.out.call hb2)
   clear hb2 k0
   have k0 := HYB.out.st.cell 0 0 rfl rfl
   go_wp2_with fail
   refine (HB1.out _ (HYB.out.st.nat 0 rfl)).mono ?_
   rintro e w3 ⟨a3, c3, rfl, hn3, hb3⟩
   clear k0
   replace HYB := Lib.hid (((HYB.out.call hb3).got hn3).alloc (p := w3.heap.size) rfl 41 [.slice a3 (lenW (y / 10000000000000000000)) c3] rfl)
   clear hn3 hb3
   go_wp2_with fail
   go_loopw [3, 5, 20] (fun v3 v5 v20 wi => ∃ (i : Nat) (a4 : Option Addr) (c4 : Nat), i ≤ 19 ∧ v20 = .int .i64 i ∧ v5 = UV (y % 10000000000000000000 / 10 ^ i) ∧ v3 = .slice a4 (19 * j + i) c4 ∧ YB w ([⟨w.heap.size, 41, [.slice a1 (lenW y) c1]⟩] ++ [⟨w3.heap.size, 41, [.slice a3 (lenW (y / 10000000000000000000)) c3]⟩]) ([⟨a1, c1, y⟩] ++ [⟨a3, c3, y / 10000000000000000000⟩]) a4 (19 * j + i) c4 (fnL (19 * j + i) (decF n)) wi) (fun _ _ v20 _ => 19 - (intOf v20).toNat)
   case atStart => exact ⟨0, a2, c2, by omega, rfl, by rw [Nat.pow_zero, Nat.div_one], rfl, HYB.out⟩
   case round =>
    obtain ⟨i, a4, c4, hi19, rfl, rfl, rfl, hyi⟩ := hrel
    by_cases hlt : i < 19
    ·
     have hdd := dec_digit n j i hlt
     rw [← HY.out] at hdd
     have hnx : y % 10000000000000000000 / 10 ^ (i + 1) = y % 10000000000000000000 / 10 ^ i / 10 := by rw [Nat.pow_succ, Nat.div_div_eq_div_mul]
     obtain ⟨X, hX⟩ : ∃ X, y % 10000000000000000000 / 10 ^ i = X := ⟨_, rfl⟩
     rw [hX] at hdd hnx ⊢
     obtain ⟨d, hd⟩ : ∃ d, decF n (19 * j + i) = d := ⟨_, rfl⟩
     have hfs := fnL_snoc (19 * j + i) (decF n)
     rw [hd] at hdd hfs
     have hXw : X < 10000000000000000000 := by rw [← hX]; exact Nat.lt_of_le_of_lt (Nat.div_le_self _ _) (Nat.mod_lt _ (by omega))
     have hmod : (X : Int).tmod 10 = ((X % 10 : Nat) : Int) := by rw [Int.tmod_eq_emod_of_nonneg (by omega)]; omega
     have hdiv : (X : Int).tdiv 10 = ((X / 10 : Nat) : Int) := by rw [Int.tdiv_eq_ediv_of_nonneg (by omega)]; omega
     have hX9 : X % 10 ≤ 9 := by omega
     have hde : (48 : Int) + (X : Int) % 10 = (d : Int) := by omega
     have hd57 : d ≤ 57 := by omega
     have HNX := Lib.hid hnx
     have HFS := Lib.hid hfs
     have HYI := Lib.hid hyi
     clear hX hdd hd hnx hfs hyi
     have HM3 := Lib.hid (HYI.out.mid.alloc (.cells #[.int .u8 d] 5))
     have HS3 := Lib.hid ((Sl.lit wr 5 1 1 [BN d] (by unfold maxLen; omega) rfl).src (P := Tryz.prog) Tryz.underlying32 (one_BN [d]))
     have HW3 := Lib.hid (Nat.le_trans HYI.out.st.bel.size (belowBox wr (.cells #[.int .u8 d] 5)).size)
     have hsz : 19 * j + i + 1 ≤ 41781441855523 := by have := HS.out; omega
     go_wp2_with (at_builtin; refine wpList_append_mid (v := .slice a4 (19 * j + i) c4) rfl _ _ 32 32 rfl i0 (.int .u8 0) 1 Tryz.underlying32 hi hz0 hz1 hz2 rfl rfl HM3.out _ rfl 1 _ HS3.out (by unfold maxLen; omega) (by omega) HW3.out ?_; intro a5 c5 w5 hmo hgo hbo; have HP := Lib.hid (HYI.out.push (ys := [d]) hmo hgo hbo); clear hmo hgo hbo)
     go_roundw
     case rel => exact ⟨i + 1, a5, c5, by omega, by go_num, by rw [HNX.out]; exact congrArg (Value.int .u64) (by omega), rfl, by rw [← Nat.add_assoc, ← HFS.out]; exact HP.out⟩
     case measure => simp [intOf]; omega
    ·
     obtain rfl : i = 19 := by omega
     have HYI := Lib.hid hyi
     clear hyi hlt hi19
     have ⟨k0, f0⟩ := HYI.out.st.cf1 0 rfl
     have k1 := HYI.out.st.cell 1 0 rfl rfl
     have HP := Lib.hid (HYI.out.set 0 0 rfl rfl (fun _ => by simp) (.slice a3 (lenW (y / 10000000000000000000)) c3))
     go_wp2_with fail
     go_roundg (y / 10000000000000000000)
     case measure => exact Nat.div_lt_self (by omega) (by omega)
     case rel => exact ⟨j + 1, a3, c3, a4, c4, by rw [HY.out, dec_next], by omega, rfl, HP.out.only (by simp) (fun x hx => by rw [List.mem_singleton.1 hx]; simp)⟩
end Go.Proofs.YtmhainidincjhaaGreatDoor
namespace Go.Proofs.YtmhainidincjhaaGreatDoor
open Go.RowKit Go.Extern.Stop Go.Stop Go.Extern
theorem signZ_neg {z : Int} (h : z < 0) : signZ z = -1 := by unfold signZ; rw [if_pos h]
theorem signZ_pos {z : Int} (h : ¬ z < 0) (h0 : z ≠ 0) : signZ z = 1 := by unfold signZ; rw [if_neg h, if_neg h0]
theorem isint_any (a b : Option Addr) (c d : Nat) (q : Rat) (w : World) : Calls Tryz.prog 49 #[ratV a c b d q] w fun e w' => e = .returned (.bool (decide (q.den = 1))) ∧ Below w.heap.size w w' := by
 have HC := Lib.hid (fun (W : World) => (show Calls Tryz.prog 69 #[.agg #[.slice b (lenW (denN q.den)) d]] W _ from nzero_any b d (denN q.den) W))
 rw [show decide (q.den = 1) = decide (denN q.den = 0) from decide_eq_decide.2 (denN_zero q).symm]
 obtain ⟨bb, hbb⟩ : ∃ bb, decide (denN q.den = 0) = bb := ⟨_, rfl⟩
 rw [hbb] at HC ⊢
 clear hbb
 unfold ratV
 obtain ⟨sg, hsg⟩ : ∃ z, decide (q.num < 0) = z := ⟨_, rfl⟩
 obtain ⟨lm, hlm⟩ : ∃ z, lenW q.num.natAbs = z := ⟨_, rfl⟩
 obtain ⟨ld, hld⟩ : ∃ z, lenW (denN q.den) = z := ⟨_, rfl⟩
 rw [hsg, hlm, hld]
 rw [hld] at HC
 clear hsg hlm hld
 go_enter Tryz.func49, Tryz.ntmps49
 go_wp2_with fail
 refine (HC.out _).mono ?_
 rintro e w1 ⟨rfl, hb⟩
 have HB := Lib.hid (bthen (belowBox w (.cells #[.bool sg, .slice a lm c, .slice b ld d] 45)) hb)
 clear hb
 go_wp2_with fail
 go_ret
 exact ⟨rfl, HB.out⟩
theorem rsign_any (a b : Option Addr) (c d : Nat) (q : Rat) (w : World) : Calls Tryz.prog 139 #[ratV a c b d q] w fun e w' => e = .returned (.int .i64 (signZ q.num)) ∧ Below w.heap.size w w' := by
 have HC := Lib.hid (fun (W : World) => (show Calls Tryz.prog 109 #[.agg #[.bool (decide (q.num < 0)), .slice a (lenW q.num.natAbs) c]] W _ from isign_any q.num a c W))
 obtain ⟨zz, hzz⟩ : ∃ zz, signZ q.num = zz := ⟨_, rfl⟩
 rw [hzz] at HC ⊢
 clear hzz
 unfold ratV
 obtain ⟨sg, hsg⟩ : ∃ z, decide (q.num < 0) = z := ⟨_, rfl⟩
 obtain ⟨lm, hlm⟩ : ∃ z, lenW q.num.natAbs = z := ⟨_, rfl⟩
 obtain ⟨ld, hld⟩ : ∃ z, lenW (denN q.den) = z := ⟨_, rfl⟩
 rw [hsg, hlm, hld]
 rw [hsg, hlm] at HC
 clear hsg hlm hld
 go_enter Tryz.func139, Tryz.ntmps139
 go_wp2_with fail
 refine (HC.out _).mono ?_
 rintro e w1 ⟨rfl, hb⟩
 have HB := Lib.hid (bthen (belowBox w (.cells #[.bool sg, .slice a lm c, .slice b ld d] 45)) hb)
 clear hb
 go_wp2_with fail
 go_ret
 exact ⟨rfl, HB.out⟩
theorem num_any (a b : Option Addr) (c d : Nat) (q : Rat) (w : World) : Calls Tryz.prog 45 #[ratV a c b d q] w fun e w' => e = .returned (.agg #[.bool (decide (q.num < 0)), .slice a (lenW q.num.natAbs) c]) ∧ Below w.heap.size w w' := by
 unfold ratV
 obtain ⟨sg, hsg⟩ : ∃ z, decide (q.num < 0) = z := ⟨_, rfl⟩
 obtain ⟨lm, hlm⟩ : ∃ z, lenW q.num.natAbs = z := ⟨_, rfl⟩
 obtain ⟨ld, hld⟩ : ∃ z, lenW (denN q.den) = z := ⟨_, rfl⟩
 rw [hsg, hlm, hld]
 clear hsg hlm hld
 go_enter Tryz.func45, Tryz.ntmps45
 go_wp2
 refine bodyPost_ret (v := .agg #[.bool sg, .slice a lm c]) (by simp [results, Tryz.results45, go_sem]) rfl ?_
 exact ⟨rfl, bthen (belowBox w _) (belowBox _ _)⟩
theorem tag_zero (a b : Option Addr) (c d : Nat) (q : Rat) (w : World) (h0 : q = 0) : Calls Tryz.prog 77 #[ratV a c b d q] w fun e w' => e = .returned (.int .u8 0) ∧ Below w.heap.size w w' := by
 have hZ := fun W => rzero_any a b c d (lenW (denN q.den)) q W
 have hI := fun W => isint_any a b c d q W
 have hS := fun W => rsign_any a b c d q W
 rw [decide_eq_true h0] at hZ
 unfold ratV at hI hS ⊢
 obtain ⟨sg, hsg⟩ : ∃ z, decide (q.num < 0) = z := ⟨_, rfl⟩
 obtain ⟨lm, hlm⟩ : ∃ z, lenW q.num.natAbs = z := ⟨_, rfl⟩
 obtain ⟨ld, hld⟩ : ∃ z, lenW (denN q.den) = z := ⟨_, rfl⟩
 rw [hsg, hlm, hld] at hZ hI hS ⊢
 obtain ⟨w1, hw1⟩ : ∃ w1, w.alloc (.cells #[.bool sg, .slice a lm c, .slice b ld d] 45) = w1 := ⟨_, rfl⟩
 have hbx := (belowBox w (.cells #[.bool sg, .slice a lm c, .slice b ld d] 45))
 have hbk := heap_alloc_new w (.cells #[.bool sg, .slice a lm c, .slice b ld d] 45)
 rw [hw1] at hbx hbk
 have HW1 := Lib.hid hw1
 have HZ := Lib.hid hZ
 have HI := Lib.hid hI
 have HS := Lib.hid hS
 have HB := Lib.hid hbx
 have HK := Lib.hid (fun (W : World) (hb : Below w1.heap.size w1 W) => (hb.block w.heap.size (lt_of_block hbk)).trans hbk)
 have k0 := cell_of_block (j := 0) hbk rfl
 have k1 := cell_of_block (j := 1) hbk rfl
 have k2 := cell_of_block (j := 2) hbk rfl
 clear hw1 hZ hI hS hsg hlm hld hbx hbk
 go_enter Tryz.func77, Tryz.ntmps77
 go_upto_region 1 with fail
 (try simp only [HW1.out])
 go_wp2_with fail
 refine (HZ.out w1).mono ?_
 rintro e w2 ⟨rfl, hb2⟩
 have HB2 := Lib.hid hb2
 clear hb2 k0 k1 k2
 go_wp2_with fail
 go_ret
 exact ⟨rfl, bthen HB.out HB2.out⟩
theorem tag_t1 (a b : Option Addr) (c d : Nat) (q : Rat) (w : World) (h0 : q ≠ 0) (h1 : q.den = 1) (h2 : ¬ q.num < 0) : Calls Tryz.prog 77 #[ratV a c b d q] w fun e w' => e = .returned (.int .u8 1) ∧ Below w.heap.size w w' := by
 have hZ := fun W => rzero_any a b c d (lenW (denN q.den)) q W
 have hI := fun W => isint_any a b c d q W
 have hS := fun W => rsign_any a b c d q W
 rw [decide_eq_false h0] at hZ
 rw [decide_eq_true h1] at hI
 rw [signZ_pos h2 (fun e => h0 (Rat.num_eq_zero.1 e))] at hS
 unfold ratV at hI hS ⊢
 obtain ⟨sg, hsg⟩ : ∃ z, decide (q.num < 0) = z := ⟨_, rfl⟩
 obtain ⟨lm, hlm⟩ : ∃ z, lenW q.num.natAbs = z := ⟨_, rfl⟩
 obtain ⟨ld, hld⟩ : ∃ z, lenW (denN q.den) = z := ⟨_, rfl⟩
 rw [hsg, hlm, hld] at hZ hI hS ⊢
 obtain ⟨w1, hw1⟩ : ∃ w1, w.alloc (.cells #[.bool sg, .slice a lm c, .slice b ld d] 45) = w1 := ⟨_, rfl⟩
 have hbx := (belowBox w (.cells #[.bool sg, .slice a lm c, .slice b ld d] 45))
 have hbk := heap_alloc_new w (.cells #[.bool sg, .slice a lm c, .slice b ld d] 45)
 rw [hw1] at hbx hbk
 have HW1 := Lib.hid hw1
 have HZ := Lib.hid hZ
 have HI := Lib.hid hI
 have HS := Lib.hid hS
 have HB := Lib.hid hbx
 have HK := Lib.hid (fun (W : World) (hb : Below w1.heap.size w1 W) => (hb.block w.heap.size (lt_of_block hbk)).trans hbk)
 have k0 := cell_of_block (j := 0) hbk rfl
 have k1 := cell_of_block (j := 1) hbk rfl
 have k2 := cell_of_block (j := 2) hbk rfl
 clear hw1 hZ hI hS hsg hlm hld hbx hbk
 go_enter Tryz.func77, Tryz.ntmps77
 go_upto_region 1 with fail
 (try simp only [HW1.out])
 go_wp2_with fail
 refine (HZ.out w1).mono ?_
 rintro e w2 ⟨rfl, hb2⟩
 have HB2 := Lib.hid hb2
 clear hb2 k0 k1 k2
 have k0 := cell_of_block (j := 0) (HK.out w2 HB2.out) rfl
 have k1 := cell_of_block (j := 1) (HK.out w2 HB2.out) rfl
 have k2 := cell_of_block (j := 2) (HK.out w2 HB2.out) rfl
 go_wp2_with fail
 refine (HI.out w2).mono ?_
 rintro e w3 ⟨rfl, hb3⟩
 have HB3 := Lib.hid (bthen HB2.out hb3)
 clear hb3 k0 k1 k2
 have k0 := cell_of_block (j := 0) (HK.out w3 HB3.out) rfl
 have k1 := cell_of_block (j := 1) (HK.out w3 HB3.out) rfl
 have k2 := cell_of_block (j := 2) (HK.out w3 HB3.out) rfl
 go_wp2_with fail
 refine (HS.out w3).mono ?_
 rintro e w4 ⟨rfl, hb4⟩
 have HB4 := Lib.hid (bthen HB3.out hb4)
 clear hb4 k0 k1 k2
 go_wp2_with fail
 go_ret
 exact ⟨rfl, bthen HB.out HB4.out⟩
theorem tag_t2 (a b : Option Addr) (c d : Nat) (q : Rat) (w : World) (h0 : q ≠ 0) (h1 : q.den = 1) (h2 : q.num < 0) : Calls Tryz.prog 77 #[ratV a c b d q] w fun e w' => e = .returned (.int .u8 2) ∧ Below w.heap.size w w' := by
 have hZ := fun W => rzero_any a b c d (lenW (denN q.den)) q W
 have hI := fun W => isint_any a b c d q W
 have hS := fun W => rsign_any a b c d q W
 rw [decide_eq_false h0] at hZ
 rw [decide_eq_true h1] at hI
 rw [signZ_neg h2] at hS
 unfold ratV at hI hS ⊢
 obtain ⟨sg, hsg⟩ : ∃ z, decide (q.num < 0) = z := ⟨_, rfl⟩
 obtain ⟨lm, hlm⟩ : ∃ z, lenW q.num.natAbs = z := ⟨_, rfl⟩
 obtain ⟨ld, hld⟩ : ∃ z, lenW (denN q.den) = z := ⟨_, rfl⟩
 rw [hsg, hlm, hld] at hZ hI hS ⊢
 obtain ⟨w1, hw1⟩ : ∃ w1, w.alloc (.cells #[.bool sg, .slice a lm c, .slice b ld d] 45) = w1 := ⟨_, rfl⟩
 have hbx := (belowBox w (.cells #[.bool sg, .slice a lm c, .slice b ld d] 45))
 have hbk := heap_alloc_new w (.cells #[.bool sg, .slice a lm c, .slice b ld d] 45)
 rw [hw1] at hbx hbk
 have HW1 := Lib.hid hw1
 have HZ := Lib.hid hZ
 have HI := Lib.hid hI
 have HS := Lib.hid hS
 have HB := Lib.hid hbx
 have HK := Lib.hid (fun (W : World) (hb : Below w1.heap.size w1 W) => (hb.block w.heap.size (lt_of_block hbk)).trans hbk)
 have k0 := cell_of_block (j := 0) hbk rfl
 have k1 := cell_of_block (j := 1) hbk rfl
 have k2 := cell_of_block (j := 2) hbk rfl
 clear hw1 hZ hI hS hsg hlm hld hbx hbk
 go_enter Tryz.func77, Tryz.ntmps77
 go_upto_region 1 with fail
 (try simp only [HW1.out])
 go_wp2_with fail
 refine (HZ.out w1).mono ?_
 rintro e w2 ⟨rfl, hb2⟩
 have HB2 := Lib.hid hb2
 clear hb2 k0 k1 k2
 have k0 := cell_of_block (j := 0) (HK.out w2 HB2.out) rfl
 have k1 := cell_of_block (j := 1) (HK.out w2 HB2.out) rfl
 have k2 := cell_of_block (j := 2) (HK.out w2 HB2.out) rfl
 go_wp2_with fail
 refine (HI.out w2).mono ?_
 rintro e w3 ⟨rfl, hb3⟩
 have HB3 := Lib.hid (bthen HB2.out hb3)
 clear hb3 k0 k1 k2
 have k0 := cell_of_block (j := 0) (HK.out w3 HB3.out) rfl
 have k1 := cell_of_block (j := 1) (HK.out w3 HB3.out) rfl
 have k2 := cell_of_block (j := 2) (HK.out w3 HB3.out) rfl
 go_wp2_with fail
 refine (HS.out w3).mono ?_
 rintro e w4 ⟨rfl, hb4⟩
 have HB4 := Lib.hid (bthen HB3.out hb4)
 clear hb4 k0 k1 k2
 go_wp2_with fail
 go_ret
 exact ⟨rfl, bthen HB.out HB4.out⟩
theorem tag_t3 (a b : Option Addr) (c d : Nat) (q : Rat) (w : World) (h0 : q ≠ 0) (h1 : ¬ q.den = 1) (h2 : ¬ q.num < 0) : Calls Tryz.prog 77 #[ratV a c b d q] w fun e w' => e = .returned (.int .u8 3) ∧ Below w.heap.size w w' := by
 have hZ := fun W => rzero_any a b c d (lenW (denN q.den)) q W
 have hI := fun W => isint_any a b c d q W
 have hS := fun W => rsign_any a b c d q W
 rw [decide_eq_false h0] at hZ
 rw [decide_eq_false h1] at hI
 rw [signZ_pos h2 (fun e => h0 (Rat.num_eq_zero.1 e))] at hS
 unfold ratV at hI hS ⊢
 obtain ⟨sg, hsg⟩ : ∃ z, decide (q.num < 0) = z := ⟨_, rfl⟩
 obtain ⟨lm, hlm⟩ : ∃ z, lenW q.num.natAbs = z := ⟨_, rfl⟩
 obtain ⟨ld, hld⟩ : ∃ z, lenW (denN q.den) = z := ⟨_, rfl⟩
 rw [hsg, hlm, hld] at hZ hI hS ⊢
 obtain ⟨w1, hw1⟩ : ∃ w1, w.alloc (.cells #[.bool sg, .slice a lm c, .slice b ld d] 45) = w1 := ⟨_, rfl⟩
 have hbx := (belowBox w (.cells #[.bool sg, .slice a lm c, .slice b ld d] 45))
 have hbk := heap_alloc_new w (.cells #[.bool sg, .slice a lm c, .slice b ld d] 45)
 rw [hw1] at hbx hbk
 have HW1 := Lib.hid hw1
 have HZ := Lib.hid hZ
 have HI := Lib.hid hI
 have HS := Lib.hid hS
 have HB := Lib.hid hbx
 have HK := Lib.hid (fun (W : World) (hb : Below w1.heap.size w1 W) => (hb.block w.heap.size (lt_of_block hbk)).trans hbk)
 have k0 := cell_of_block (j := 0) hbk rfl
 have k1 := cell_of_block (j := 1) hbk rfl
 have k2 := cell_of_block (j := 2) hbk rfl
 clear hw1 hZ hI hS hsg hlm hld hbx hbk
 go_enter Tryz.func77, Tryz.ntmps77
 go_upto_region 1 with fail
 (try simp only [HW1.out])
 go_wp2_with fail
 refine (HZ.out w1).mono ?_
 rintro e w2 ⟨rfl, hb2⟩
 have HB2 := Lib.hid hb2
 clear hb2 k0 k1 k2
 have k0 := cell_of_block (j := 0) (HK.out w2 HB2.out) rfl
 have k1 := cell_of_block (j := 1) (HK.out w2 HB2.out) rfl
 have k2 := cell_of_block (j := 2) (HK.out w2 HB2.out) rfl
 go_wp2_with fail
 refine (HI.out w2).mono ?_
 rintro e w3 ⟨rfl, hb3⟩
 have HB3 := Lib.hid (bthen HB2.out hb3)
 clear hb3 k0 k1 k2
 have k0 := cell_of_block (j := 0) (HK.out w3 HB3.out) rfl
 have k1 := cell_of_block (j := 1) (HK.out w3 HB3.out) rfl
 have k2 := cell_of_block (j := 2) (HK.out w3 HB3.out) rfl
 go_wp2_with fail
 refine (HS.out w3).mono ?_
 rintro e w4 ⟨rfl, hb4⟩
 have HB4 := Lib.hid (bthen HB3.out hb4)
 clear hb4 k0 k1 k2
 go_wp2_with fail
 go_ret
 exact ⟨rfl, bthen HB.out HB4.out⟩
theorem tag_t4 (a b : Option Addr) (c d : Nat) (q : Rat) (w : World) (h0 : q ≠ 0) (h1 : ¬ q.den = 1) (h2 : q.num < 0) : Calls Tryz.prog 77 #[ratV a c b d q] w fun e w' => e = .returned (.int .u8 4) ∧ Below w.heap.size w w' := by
 have hZ := fun W => rzero_any a b c d (lenW (denN q.den)) q W
 have hI := fun W => isint_any a b c d q W
 have hS := fun W => rsign_any a b c d q W
 rw [decide_eq_false h0] at hZ
 rw [decide_eq_false h1] at hI
 rw [signZ_neg h2] at hS
 unfold ratV at hI hS ⊢
 obtain ⟨sg, hsg⟩ : ∃ z, decide (q.num < 0) = z := ⟨_, rfl⟩
 obtain ⟨lm, hlm⟩ : ∃ z, lenW q.num.natAbs = z := ⟨_, rfl⟩
 obtain ⟨ld, hld⟩ : ∃ z, lenW (denN q.den) = z := ⟨_, rfl⟩
 rw [hsg, hlm, hld] at hZ hI hS ⊢
 obtain ⟨w1, hw1⟩ : ∃ w1, w.alloc (.cells #[.bool sg, .slice a lm c, .slice b ld d] 45) = w1 := ⟨_, rfl⟩
 have hbx := (belowBox w (.cells #[.bool sg, .slice a lm c, .slice b ld d] 45))
 have hbk := heap_alloc_new w (.cells #[.bool sg, .slice a lm c, .slice b ld d] 45)
 rw [hw1] at hbx hbk
 have HW1 := Lib.hid hw1
 have HZ := Lib.hid hZ
 have HI := Lib.hid hI
 have HS := Lib.hid hS
 have HB := Lib.hid hbx
 have HK := Lib.hid (fun (W : World) (hb : Below w1.heap.size w1 W) => (hb.block w.heap.size (lt_of_block hbk)).trans hbk)
 have k0 := cell_of_block (j := 0) hbk rfl
 have k1 := cell_of_block (j := 1) hbk rfl
 have k2 := cell_of_block (j := 2) hbk rfl
 clear hw1 hZ hI hS hsg hlm hld hbx hbk
 go_enter Tryz.func77, Tryz.ntmps77
 go_upto_region 1 with fail
 (try simp only [HW1.out])
 go_wp2_with fail
 refine (HZ.out w1).mono ?_
 rintro e w2 ⟨rfl, hb2⟩
 have HB2 := Lib.hid hb2
 clear hb2 k0 k1 k2
 have k0 := cell_of_block (j := 0) (HK.out w2 HB2.out) rfl
 have k1 := cell_of_block (j := 1) (HK.out w2 HB2.out) rfl
 have k2 := cell_of_block (j := 2) (HK.out w2 HB2.out) rfl
 go_wp2_with fail
 refine (HI.out w2).mono ?_
 rintro e w3 ⟨rfl, hb3⟩
 have HB3 := Lib.hid (bthen HB2.out hb3)
 clear hb3 k0 k1 k2
 have k0 := cell_of_block (j := 0) (HK.out w3 HB3.out) rfl
 have k1 := cell_of_block (j := 1) (HK.out w3 HB3.out) rfl
 have k2 := cell_of_block (j := 2) (HK.out w3 HB3.out) rfl
 go_wp2_with fail
 refine (HS.out w3).mono ?_
 rintro e w4 ⟨rfl, hb4⟩
 have HB4 := Lib.hid (bthen HB3.out hb4)
 clear hb4 k0 k1 k2
 go_wp2_with fail
 go_ret
 exact ⟨rfl, bthen HB.out HB4.out⟩
theorem tag_any (a b : Option Addr) (c d : Nat) (q : Rat) (w : World) : Calls Tryz.prog 77 #[ratV a c b d q] w fun e w' => e = .returned (.int .u8 (tagR q)) ∧ Below w.heap.size w w' := by
 by_cases h0 : q = 0
 ·
  rw [show tagR q = 0 by rw [h0]; exact tagR_zero]; exact tag_zero a b c d q w h0
 ·
  rw [tagR_ne h0]
  by_cases h1 : q.den = 1 <;> by_cases h2 : q.num < 0
  ·
   rw [if_pos h1, if_pos h2]; exact tag_t2 a b c d q w h0 h1 h2
  ·
   rw [if_pos h1, if_neg h2]; exact tag_t1 a b c d q w h0 h1 h2
  ·
   rw [if_neg h1, if_pos h2]; exact tag_t4 a b c d q w h0 h1 h2
  ·
   rw [if_neg h1, if_neg h2]; exact tag_t3 a b c d q w h0 h1 h2
theorem YB.push0 {w W W' : World} {bs : List Bk} {ns : List Nm} {a : Option Addr} {n c : Nat} {xs : List Nat} (h : YB w bs ns a n c xs W) {a' : Option Addr} {c' : Nat} {ys : List Nat} {m : Nat} (hm : Mid W' w.heap.size 5 1 (.slice a' (n + m) c') (n + m) (xs.map BN ++ ys.map BN)) (hg : W.grownBy W' (Value.slice a n c).ownBlock) (hb : (Value.slice a' (n + m) c').ownBlock = (Value.slice a n c).ownBlock ∨ (Value.slice a' (n + m) c').ownBlock = some W.heap.size) : YB w bs ns a' (n + m) c' (xs ++ ys) W' := by
 refine ⟨h.st.keeps (Keeps.of_grown hg (S := fun z => (Value.slice a n c).ownBlock = some z) fun z hz => hz) (fun k hk => (h.mid.lt k hk).1) (fun k hk => h.nod k hk) (fun k hk => h.mid.noWord (by decide) k hk), by rw [List.map_append]; exact hm, fun k hk b hbb => ?_⟩
 rcases hb with e | e
 ·
  exact h.nod k (by rw [← e]; exact hk) b hbb
 ·
  rw [hk] at e
  injection e with e
  have := lt_of_block (h.st.box b hbb).1
  omega
theorem put_big (o : Option Addr) (n k : Nat) (a : Option Addr) (c m : Nat) (w : World) (ha : NatW w a c m) (hs : lenW m ≤ 1099511627776) (hb : 255 < ndig 256 m) : Calls Tryz.prog 78 #[.slice o n k, .agg #[.slice a (lenW m) c]] w fun e w' => e = .returned (.tuple #[.slice none 0 0, eE 3]) ∧ Below w.heap.size w w' := by
 have HBY := Lib.hid (fun (W : World) (h : NatW W a c m) => bytes_any a c m W h hs)
 have HA := Lib.hid (ha.alloc (.cells #[.slice a (lenW m) c] 41))
 obtain ⟨L, hL⟩ : ∃ L, ndig 256 m = L := ⟨_, rfl⟩
 rw [hL] at HBY hb
 have hbi : (255 : Int) < (L : Int) := by omega
 clear ha hs hL
 unfold eE
 go_enter Tryz.func78, Tryz.ntmps78
 go_wp2_with fail
 refine (HBY.out _ HA.out).mono ?_
 rintro e w1 ⟨a1, c1, rfl, _, hb1⟩
 have HB := Lib.hid (bthen (belowBox w (.cells #[.slice a (lenW m) c] 41)) hb1)
 clear hb1
 go_wp2_with fail
 refine bodyPost_ret (v := .tuple #[.slice none 0 0, eE 3]) (by simp [results, Tryz.results78, go_sem, eE]) rfl ?_
 exact ⟨rfl, HB.out⟩
theorem put_ok {w0 : World} {bs : List Bk} {ns : List Nm} (o : Option Addr) (n k : Nat) (xs : List Nat) (a : Option Addr) (c m : Nat) (w : World) (h : YB w0 bs ns o n k xs w) (ha : NatW w a c m) (hs : lenW m ≤ 1099511627776) (hb : ndig 256 m ≤ 255) (hn : n ≤ 100000) : Calls Tryz.prog 78 #[.slice o n k, .agg #[.slice a (lenW m) c]] w fun e w' => ∃ a2 c2, e = .returned (.tuple #[.slice a2 (n + 1 + ndig 256 m) c2, .nilIface]) ∧ YB w0 bs ns a2 (n + 1 + ndig 256 m) c2 (xs ++ [ndig 256 m] ++ dig 256 m) w' ∧ Below w0.heap.size w w' := by
 obtain ⟨i0, hi, hz0, hz1, hz2⟩ := info_parts Tryz.info_bytes
 have HBY := Lib.hid (fun (W : World) (h : NatW W a c m) => bytes_any a c m W h hs)
 have HA := Lib.hid (ha.alloc (.cells #[.slice a (lenW m) c] 41))
 have hDL := dig_len 256 m
 obtain ⟨D, hD⟩ : ∃ D, dig 256 m = D := ⟨_, rfl⟩
 obtain ⟨L, hL⟩ : ∃ L, ndig 256 m = L := ⟨_, rfl⟩
 rw [hL, hD] at HBY
 rw [hD, hL] at hDL
 rw [hL] at hb
 rw [hL, hD]
 have hbi : ¬ (255 : Int) < (L : Int) := by omega
 have HY := Lib.hid (h.alloc (p := w.heap.size) rfl 41 [.slice a (lenW m) c] rfl)
 have HBX := Lib.hid (show Below w0.heap.size w (w.alloc (.cells #[.slice a (lenW m) c] 41)) from (belowBox w _).mono h.st.bel.size)
 have HDL := Lib.hid hDL
 clear ha hs hL hD h hDL
 go_enter Tryz.func78, Tryz.ntmps78
 go_wp2_with fail
 refine (HBY.out _ HA.out).mono ?_
 rintro e w1 ⟨a1, c1, rfl, hm1, hb1⟩
 have HY1 := Lib.hid (HY.out.call hb1)
 have HBZ := Lib.hid (HBX.out.trans (hb1.mono HY.out.st.bel.size))
 have HM1 := Lib.hid hm1
 have HNE := Lib.hid (show ∀ z, (Value.slice a1 L c1).ownBlock = some z → (Value.slice o n k).ownBlock ≠ some z from fun z hz e => by
  have h1 := (hm1.lt z hz).1
  have h2 := (HY.out.mid.lt z e).2
  omega)
 clear hb1 hm1
 have HM3 := Lib.hid (HY1.out.mid.alloc (.cells #[.int .u8 L] 5))
 have HS3 := Lib.hid ((Sl.lit w1 5 1 1 [BN L] (by unfold maxLen; omega) rfl).src (P := Tryz.prog) Tryz.underlying32 (one_BN [L]))
 have HW3 := Lib.hid (Nat.le_trans HY1.out.st.bel.size (belowBox w1 (.cells #[.int .u8 L] 5)).size)
 go_wp2_with (at_builtin; refine wpList_append_mid (v := .slice o n k) rfl _ _ 32 32 rfl i0 (.int .u8 0) 1 Tryz.underlying32 hi hz0 hz1 hz2 rfl rfl HM3.out _ rfl 1 _ HS3.out (by unfold maxLen; omega) (by omega) HW3.out ?_; intro a5 c5 w5 hmo hgo hbo; have HP := Lib.hid (HY1.out.push (ys := [L]) hmo hgo hbo); have HG := Lib.hid (grown_keeps hgo); clear hmo hgo hbo; have HS5 := Lib.hid (((Sl.ofMid HM1.out).keeps HG.out (fun z _ hz e => HNE.out z hz e)).src (P := Tryz.prog) Tryz.underlying32 (one_BN D)); have HM5 := Lib.hid HP.out.mid; have HW5 := Lib.hid HP.out.st.bel.size; go_wp2_with (at_builtin; refine wpList_append_mid (v := .slice a5 (n + 1) c5) rfl _ _ 32 32 rfl i0 (.int .u8 0) 1 Tryz.underlying32 hi hz0 hz1 hz2 rfl rfl HM5.out _ rfl L _ HS5.out (by unfold maxLen; omega) (by omega) HW5.out ?_; intro a6 c6 w6 hmo hgo hbo; have HP6 := Lib.hid (HP.out.push0 (ys := D) hmo hgo hbo); have HG6 := Lib.hid hgo; clear hmo hgo hbo))
 refine bodyPost_ret (v := .tuple #[.slice a6 (n + 1 + L) c6, .nilIface]) (by simp [results, Tryz.results78, go_sem]) rfl ?_
 refine ⟨a6, c6, rfl, HP6.out.only (List.sublist_append_left _ _) (fun x hx => hx), ?_⟩
 exact HBZ.out.trans ((HG.out.below HY1.out.st.bel.size (fun z hz => (HY1.out.mid.lt z hz).1)).trans ((Keeps.of_grown HG6.out (S := fun z => (Value.slice a5 (n + 1) c5).ownBlock = some z) (fun z hz => hz)).below HP.out.st.bel.size (fun z hz => (HP.out.mid.lt z hz).1)))
end Go.Proofs.YtmhainidincjhaaGreatDoor
namespace Go.Proofs.YtmhainidincjhaaGreatDoor
open Go.RowKit
theorem plain_any (a : Option Addr) (n c : Nat) (bs : List Nat) (w : World) (h : BytesN w (.slice a n c) bs) : Calls Tryz.prog 186 #[.slice a n c] w fun e w' => e = .returned (.bool (decide (bs.head? ≠ some 0))) ∧ Below w.heap.size w w' := by
 have hl := h.len.1
 cases bs with
 | nil =>
  have hl0 : n = 0 := hl
  subst hl0
  rw [show decide (([] : List Nat).head? ≠ some 0) = true by simp]
  clear h hl
  go_enter Tryz.func186, Tryz.ntmps186
  go_wp2_with fail
  go_ret
  exact ⟨rfl, Below.refl _ _⟩
 | cons x l =>
  obtain ⟨b, o, rfl, hb, hc⟩ := h.get 0 (x := x) rfl
  have hl2 : n = l.length + 1 := hl
  have h1 : ((n : Int) == 0) = false := beq_eq_false_iff_ne.2 (by omega)
  have h0 : (0 : Int) < (n : Int) := by omega
  have hx : decide ((x :: l).head? ≠ some 0) = !((x : Int) == 0) := by
   by_cases e : x = 0
   ·
    subst e; rfl
   ·
    have : ((x : Int) == 0) = false := beq_eq_false_iff_ne.2 (by omega)
    rw [this]; simp [e]
  rw [hx]
  clear h hl hl2 hx
  rw [Nat.add_zero] at hc
  go_enter Tryz.func186, Tryz.ntmps186
  go_wp2_with fail
  go_ret
  exact ⟨rfl, Below.refl _ _⟩
theorem parse_no (a : Option Addr) (n c : Nat) (bs : List Nat) (w : World) (h : BytesN w (.slice a n c) bs) (h0 : bs.head? = some 0) : Calls Tryz.prog 146 #[.slice a n c] w (RetNB 0 false w) := by
 have hP := fun W (h : BytesN W (.slice a n c) bs) => plain_any a n c bs W h
 rw [h0, show decide (some (0 : Nat) ≠ some 0) = false from by simp] at hP
 have HP := Lib.hid hP
 have HB := Lib.hid (h.below (belowBox w (.cells #[.slice none 0 0] 41)))
 clear h h0 hP
 go_enter Tryz.func146, Tryz.ntmps146
 go_wp2_with fail
 refine (HP.out _ HB.out).mono ?_
 rintro e w1 ⟨rfl, hb⟩
 have hb1 := (belowBox w (.cells #[.slice none 0 0] 41))
 have k1 : w1.cell? ⟨w.heap.size, 0, none⟩ = some (.slice none 0 0) := ((bcell hb).1 _ _ (by simp)).trans (by simp)
 have f1 : w1.frozen? ⟨w.heap.size, 0, none⟩ = false := ((bcell hb).2 _ _ (by simp)).trans (by simp)
 have HBB := Lib.hid (bthen hb1 hb)
 clear hb hb1 HB
 go_wp2_with fail
 refine bodyPost_ret (v := .tuple #[.agg #[.slice none 0 0], .bool false]) (by simp [results, Tryz.results146, go_sem, k1]) rfl ?_
 exact ⟨none, 0, by rw [lenW_zero], NatW.zero _, HBB.out.setCell (by simp) _⟩
theorem lay_or (v k x : Nat) (hx : x = v / 256 ^ k % 256) : bits .or .u64 ((wordOf (v % 256 ^ k) (k / 8) : Nat) : Int) (IntKind.u64.wrap ((x : Int) * 2 ^ (8 * (k % 8)))) = ((wordOf (v % 256 ^ (k + 1)) (k / 8) : Nat) : Int) := by
 subst hx
 have hd : v / 256 ^ k % 256 < 256 := Nat.mod_lt _ (by omega)
 have h2 : 256 * 2 ^ (8 * (k % 8)) ≤ W64 := by
  rw [show (256 : Nat) = 2 ^ 8 from rfl, ← Nat.pow_add]
  exact Nat.le_trans (Nat.pow_le_pow_right (by omega) (show 8 + 8 * (k % 8) ≤ 64 by omega)) (by unfold W64; omega)
 have h3 : v / 256 ^ k % 256 * 2 ^ (8 * (k % 8)) < W64 := Nat.lt_of_lt_of_le (Nat.mul_lt_mul_of_pos_right hd (Nat.two_pow_pos _)) h2
 rw [u64_shl, Nat.mod_eq_of_lt h3, u64_or _ _ (wordOf_lt _ _) h3, byte_or]
theorem parse_yes (a : Option Addr) (n c : Nat) (bs : List Nat) (w : World) (h : BytesN w (.slice a n c) bs) (h0 : bs.head? ≠ some 0) (hx : ∀ x ∈ bs, x < 256) (hs : n ≤ 17592186044416) : Calls Tryz.prog 146 #[.slice a n c] w (RetNB (undig 256 bs) true w) := by
 have hP := fun W (h : BytesN W (.slice a n c) bs) => plain_any a n c bs W h
 rw [decide_eq_true h0] at hP
 obtain ⟨M, hM⟩ : ∃ M, (n + 7) / 8 = M := ⟨_, rfl⟩
 have hq : ((n : Int) + 7).tdiv 8 = (M : Int) := by rw [Int.tdiv_eq_ediv_of_nonneg (by omega)]; omega
 have hM4 : M ≤ 17592186044416 := by omega
 have hmk := make_words (M : Int) M rfl (by omega)
 have hn := h.len.1
 obtain ⟨v, hv⟩ : ∃ v, undig 256 bs = v := ⟨_, rfl⟩
 have hvb : v < 256 ^ n := by rw [← hv, hn]; exact undig_lt bs hx
 have hvM : v < W64 ^ M := by
  refine Nat.lt_of_lt_of_le hvb ?_
  rw [W64_pow, show (256 : Nat) = 2 ^ 8 from rfl, ← Nat.pow_mul]
  exact Nat.pow_le_pow_right (by omega) (by omega)
 rw [hv]
 have HAT := Lib.hid (fun k (hk : k < n) => (by rw [← hv, hn]; exact undig_at bs hx (by omega) : bs[n - 1 - k]? = some (v / 256 ^ k % 256)))
 have HP := Lib.hid hP
 have HB := Lib.hid h
 have HVM := Lib.hid hvM
 have HVB := Lib.hid hvb
 have HM := Lib.hid hM
 clear h h0 hP hv hvb hvM hn hx hM
 go_enter Tryz.func146, Tryz.ntmps146
 go_wp2_with fail
 refine (HP.out _ (HB.out.below (belowBox w _))).mono ?_
 rintro e w1 ⟨rfl, hb⟩
 have hb1 := (belowBox w (.cells #[.slice none 0 0] 41))
 have k1 : w1.cell? ⟨w.heap.size, 0, none⟩ = some (.slice none 0 0) := ((bcell hb).1 _ _ (by simp)).trans (by simp)
 have f1 : w1.frozen? ⟨w.heap.size, 0, none⟩ = false := ((bcell hb).2 _ _ (by simp)).trans (by simp)
 have HBB := Lib.hid (bthen hb1 hb)
 clear hb hb1
 have HMADE := Lib.hid (NS.made w1 (List.replicate M 0))
 have HK := Lib.hid (fun (xs : List Nat) (W : World) (h : NS w1 w1.heap.size xs W) => (⟨h.old k1, h.oldFree (World.block_lt_of_cell? _ _ k1) f1⟩ : W.cell? ⟨w.heap.size, 0, none⟩ = some (.slice none 0 0) ∧ W.frozen? ⟨w.heap.size, 0, none⟩ = false))
 go_wp2_with fail
 clear k1 f1 hmk
 go_loopw [17] (fun v17 wr => ∃ k : Nat, k ≤ n ∧ v17 = .int .i64 k ∧ NS w1 w1.heap.size (fnL M (wordOf (v % 256 ^ k))) wr) (fun v17 _ => n - (intOf v17).toNat)
 case atStart => exact ⟨0, Nat.zero_le _, rfl, by rw [Nat.pow_zero, Nat.mod_one, fnL_zero]; exact HMADE.out⟩
 case round =>
  obtain ⟨k, hk, rfl, hns⟩ := hrel
  have HN := Lib.hid hns
  clear hns HMADE
  by_cases hlt : k < n
  ·
   have hdiv : (k : Int).tdiv 8 = ((k / 8 : Nat) : Int) := by rw [Int.tdiv_eq_ediv_of_nonneg (by omega)]; omega
   have hmod : (k : Int).tmod 8 = ((k % 8 : Nat) : Int) := by rw [Int.tmod_eq_emod_of_nonneg (by omega)]; omega
   have hm8 : k % 8 ≤ 7 := by omega
   have hkM : k / 8 < M := by have := HM.out; omega
   have hkMi : ((k / 8 : Nat) : Int) < (M : Int) := by omega
   have i0 : (0 : Int) ≤ (n : Int) - 1 - (k : Int) := by omega
   have i1 : (n : Int) - 1 - (k : Int) < (n : Int) := by omega
   obtain ⟨x, hx⟩ : ∃ x, v / 256 ^ k % 256 = x := ⟨_, rfl⟩
   have hx256 : x < 256 := by rw [← hx]; exact Nat.mod_lt _ (by omega)
   obtain ⟨b, o, eb, hbl, hbc⟩ := ((HB.out.below HBB.out).below HN.out.bel).get (n - 1 - k) (HAT.out k hlt)
   rw [hx] at hbc
   have eb' : a = some ⟨b, o, none⟩ := eb
   subst eb'
   have hor := lay_or v k x hx.symm
   have hkc := fnL_cell HN.out hkM
   have hkf := HN.out.free (k / 8)
   clear eb hbl hx
   go_wp2_with fail
   go_region
   go_wp2_with fail
   go_roundw
   case rel =>
    refine ⟨k + 1, by omega, by go_num, ?_⟩
    have h1 := (HN.out.set (k / 8) (wordOf (v % 256 ^ (k + 1)) (k / 8))).drewN 1
    rw [fnL_set (g := wordOf (v % 256 ^ (k + 1))) hkM rfl (fun j _ hj => by rw [byte_lay, if_neg hj])] at h1
    exact h1
   case measure => simp [intOf]; omega
  ·
   obtain rfl : k = n := by omega
   have hlen := fnL_len M (wordOf v)
   rw [Nat.mod_eq_of_lt HVB.out] at HN
   have hsl := HN.out.sl (by rw [hlen]; unfold maxLen; omega)
   rw [hlen] at hsl
   have HT := Lib.hid (of_any _ _ _ _ wr hsl (fnL_lt (wordOf_lt _)) hM4)
   rw [fnL_val HVM.out] at HT
   obtain ⟨k1, f1⟩ := HK.out _ _ HN.out
   clear hlen hsl
   go_wp2_with fail
   refine HT.out.mono ?_
   rintro e w2 ⟨a2, c2, rfl, hn2, hb2⟩
   have k2 := ((bcell hb2).1 _ _ (World.block_lt_of_cell? _ _ k1)).trans k1
   have f2 := ((bcell hb2).2 _ _ (World.block_lt_of_cell? _ _ k1)).trans f1
   have HN2 := Lib.hid hn2
   have HB2 := Lib.hid hb2
   clear hn2 hb2 HT k1 f1
   go_wp2_with fail
   refine bodyPost_ret (v := .tuple #[.agg #[.slice a2 (lenW v) c2], .bool true]) (by simp [results, Tryz.results146, go_sem, k2]) rfl ?_
   exact ⟨a2, c2, rfl, HN2.out.set k2 (fun _ => by simp) _, ((bthen HBB.out (bthen HN.out.bel HB2.out))).setCell (by simp) _⟩
end Go.Proofs.YtmhainidincjhaaGreatDoor
namespace Go.Proofs.YtmhainidincjhaaGreatDoor
open Go.RowKit Go.Extern.Stop Go.Stop Go.Extern
def RetT9 (R : World → Prop) (r : Except Int (Nat × List Nat)) (w : World) (e : Ending) (w' : World) : Prop := match r with
 | .error n => e = .returned (.tuple #[.agg #[.slice none 0 0], .slice none 0 0, eE n]) ∧ Below w.heap.size w w'
 | .ok x => ∃ a2 c2 a3 c3, e = .returned (.tuple #[.agg #[.slice a2 (lenW x.1) c2], .slice a3 x.2.length c3, .nilIface]) ∧ NatW w' a2 c2 x.1 ∧ (∀ W, R W → BytesN W (.slice a3 x.2.length c3) x.2) ∧ Below w.heap.size w w'
theorem ptk_nil (a : Option Addr) (c : Nat) (w : World) : Calls Tryz.prog 86 #[.slice a 0 c] w fun e w' => e = .returned (.tuple #[.agg #[.slice none 0 0], .slice none 0 0, eE 90]) ∧ Below w.heap.size w w' := by
 obtain ⟨w1, hw1⟩ : ∃ w1, w.alloc (.cells #[.slice none 0 0] 41) = w1 := ⟨_, rfl⟩
 have HW1 := Lib.hid hw1
 have HB1 := Lib.hid (show BS w [⟨w.heap.size, 41, [.slice none 0 0]⟩] [] w1 from hw1 ▸ ((BS.start w).alloc (p := w.heap.size) rfl 41 [.slice none 0 0] rfl))
 clear hw1
 go_enter Tryz.func86, Tryz.ntmps86
 go_upto_region 1 with fail
 (try simp only [HW1.out])
 have ⟨k0, f0⟩ := HB1.out.cf1 0 rfl
 have HE := Lib.hid (HB1.out.set 0 0 rfl rfl (fun _ => by simp) (.slice none 0 0))
 go_wp2_with fail
 have j0 := HE.out.cell 0 0 rfl rfl
 refine bodyPost_ret (v := .tuple #[.agg #[.slice none 0 0], .slice none 0 0, eE 90]) (by simp [results, Tryz.results86, go_sem, j0, eE]) rfl ?_
 exact ⟨rfl, HE.out.bel⟩
theorem ptk_short (a : Option Addr) (n c k : Nat) (r : List Nat) (w : World) (h : BytesN w (.slice a n c) (k :: r)) (hk : r.length < k) (hk2 : k < 256) (hs : n ≤ 17592186044416) : Calls Tryz.prog 86 #[.slice a n c] w fun e w' => e = .returned (.tuple #[.agg #[.slice none 0 0], .slice none 0 0, eE 90]) ∧ Below w.heap.size w w' := by
 obtain ⟨b, o, ea, hlt, hc⟩ := h.get 0 (x := k) rfl
 have hlen := h.len
 have hn : n = r.length + 1 := hlen.1
 rw [Nat.add_zero] at hc
 have ea' : a = some ⟨b, o, none⟩ := ea
 clear ea
 subst ea'
 obtain ⟨w1, hw1⟩ : ∃ w1, w.alloc (.cells #[.slice none 0 0] 41) = w1 := ⟨_, rfl⟩
 have HW1 := Lib.hid hw1
 have HB1 := Lib.hid (show BS w [⟨w.heap.size, 41, [.slice none 0 0]⟩] [] w1 from hw1 ▸ ((BS.start w).alloc (p := w.heap.size) rfl 41 [.slice none 0 0] rfl))
 clear hw1
 have c1 := (HB1.out.bel.cell (p := ⟨b, o, none⟩) hlt).trans hc
 have h0 : ((n : Int) == 0) = false := beq_eq_false_iff_ne.2 (by omega)
 have h1 : (n : Int) - 1 < (k : Int) := by omega
 have h2 : (0 : Int) < (n : Int) := by omega
 clear h hlt hc hlen hn
 go_enter Tryz.func86, Tryz.ntmps86
 go_upto_region 1 with fail
 (try simp only [HW1.out])
 have ⟨k0, f0⟩ := HB1.out.cf1 0 rfl
 have HE := Lib.hid (HB1.out.set 0 0 rfl rfl (fun _ => by simp) (.slice none 0 0))
 go_wp2_with fail
 have j0 := HE.out.cell 0 0 rfl rfl
 refine bodyPost_ret (v := .tuple #[.agg #[.slice none 0 0], .slice none 0 0, eE 90]) (by simp [results, Tryz.results86, go_sem, j0, eE]) rfl ?_
 exact ⟨rfl, HE.out.bel⟩
theorem sub_head {w : World} {b o n c k : Nat} {r : List Nat} (h : BytesN w (.slice (some ⟨b, o, none⟩) n c) (k :: r)) (hk : k ≤ r.length) :
  (c = 1 → BytesN w (.slice (some ⟨b, o, none⟩) k 0) (r.take k)) ∧ (c ≠ 1 → BytesN w (.slice (some ⟨b, o + 1, none⟩) k (c - 1)) (r.take k)) := by
 have hn : n = r.length + 1 := h.len.1
 have h1 := h.sub 1 (1 + k) (by omega) (by omega)
 rw [show ((k :: r).take (1 + k)).drop 1 = r.take k by rw [Nat.add_comm]; rfl, show 1 + k - 1 = k by omega] at h1
 constructor
 ·
  intro hc; subst hc; simpa using h1
 ·
  intro hc; rw [if_neg hc, Option.map_some, Addr.add_lit] at h1; exact h1
theorem sub_tail {w : World} {b o n c k : Nat} {r : List Nat} (h : BytesN w (.slice (some ⟨b, o, none⟩) n c) (k :: r)) (hk : k ≤ r.length) :
  (c = 1 + k → BytesN w (.slice (some ⟨b, o, none⟩) (r.drop k).length 0) (r.drop k)) ∧ (c ≠ 1 + k → BytesN w (.slice (some ⟨b, o + (1 + k), none⟩) (r.drop k).length (c - (1 + k))) (r.drop k)) := by
 have hn : n = r.length + 1 := h.len.1
 have h1 := h.sub (1 + k) n (by omega) (by omega)
 rw [show ((k :: r).take n).drop (1 + k) = r.drop k by rw [List.take_of_length_le (by simp; omega), Nat.add_comm]; rfl, show n - (1 + k) = (r.drop k).length by rw [List.length_drop]; omega] at h1
 constructor
 ·
  intro hc; subst hc; simpa using h1
 ·
  intro hc; rw [if_neg hc, Option.map_some, Addr.add_lit] at h1; exact h1
theorem ptk_badA (a : Option Addr) (n c k : Nat) (r : List Nat) (w : World) (h : BytesN w (.slice a n c) (k :: r)) (hk : k ≤ r.length) (hk2 : k < 256) (hs : n ≤ 17592186044416) (hb8 : ∀ x, x ∈ r.take k → x < 256) (hx : (r.take k).head? = some 0) (hc1 : c = 1) : Calls Tryz.prog 86 #[.slice a n c] w fun e w' => e = .returned (.tuple #[.agg #[.slice none 0 0], .slice none 0 0, eE 91]) ∧ Below w.heap.size w w' := by
 obtain ⟨b, o, ea, hlt, hc⟩ := h.get 0 (x := k) rfl
 have hlen := h.len
 have hn : n = r.length + 1 := hlen.1
 rw [Nat.add_zero] at hc
 have ea' : a = some ⟨b, o, none⟩ := ea
 clear ea
 subst ea'
 have HS := Lib.hid (fun (W : World) (hb : Below w.heap.size w W) => (sub_head (h.below hb) hk).1 hc1)
 have HPA := Lib.hid (fun (W : World) (hb : Below w.heap.size w W) => (parse_no _ _ _ _ W (HS.out W hb) hx : Calls Tryz.prog 146 #[.slice (some ⟨b, o, none⟩) k 0] W (RetNB 0 false W)))
 obtain ⟨w1, hw1⟩ : ∃ w1, w.alloc (.cells #[.slice none 0 0] 41) = w1 := ⟨_, rfl⟩
 have HW1 := Lib.hid hw1
 have HB1 := Lib.hid (show BS w [⟨w.heap.size, 41, [.slice none 0 0]⟩] [] w1 from hw1 ▸ ((BS.start w).alloc (p := w.heap.size) rfl 41 [.slice none 0 0] rfl))
 clear hw1
 have c1 := (HB1.out.bel.cell (p := ⟨b, o, none⟩) hlt).trans hc
 have h0 : ((n : Int) == 0) = false := beq_eq_false_iff_ne.2 (by omega)
 have h1 : ¬ (n : Int) - 1 < (k : Int) := by omega
 have h2 : (0 : Int) < (n : Int) := by omega
 have h3 : (1 : Int) + (k : Int) ≤ (c : Int) := by omega
 have h4 : c ≤ 9223372036854775807 := by omega
 subst hc1
 clear h hlt hc hlen hn hx hb8 
 go_enter Tryz.func86, Tryz.ntmps86
 go_upto_region 1 with fail
 (try simp only [HW1.out])
 go_wp2_with fail
 refine (HPA.out w1 HB1.out.bel).mono ?_
 rintro e w2 ⟨a2, c2, rfl, hn2, hb2⟩
 have HB2 := Lib.hid (((HB1.out.call hb2).got hn2).alloc (p := w2.heap.size) rfl 41 [.slice a2 (lenW 0) c2] rfl)
 clear hn2 hb2
 have ⟨k0, f0⟩ := HB2.out.cf1 0 rfl
 have HE := Lib.hid (HB2.out.set 0 0 rfl rfl (fun _ => by simp) (.slice none 0 0))
 go_wp2_with fail
 have j0 := HE.out.cell 0 0 rfl rfl
 refine bodyPost_ret (v := .tuple #[.agg #[.slice none 0 0], .slice none 0 0, eE 91]) (by simp [results, Tryz.results86, go_sem, j0, eE]) rfl ?_
 exact ⟨rfl, HE.out.bel⟩
theorem ptk_badB (a : Option Addr) (n c k : Nat) (r : List Nat) (w : World) (h : BytesN w (.slice a n c) (k :: r)) (hk : k ≤ r.length) (hk2 : k < 256) (hs : n ≤ 17592186044416) (hb8 : ∀ x, x ∈ r.take k → x < 256) (hx : (r.take k).head? = some 0) (hc1 : c ≠ 1) : Calls Tryz.prog 86 #[.slice a n c] w fun e w' => e = .returned (.tuple #[.agg #[.slice none 0 0], .slice none 0 0, eE 91]) ∧ Below w.heap.size w w' := by
 obtain ⟨b, o, ea, hlt, hc⟩ := h.get 0 (x := k) rfl
 have hlen := h.len
 have hn : n = r.length + 1 := hlen.1
 rw [Nat.add_zero] at hc
 have ea' : a = some ⟨b, o, none⟩ := ea
 clear ea
 subst ea'
 have HS := Lib.hid (fun (W : World) (hb : Below w.heap.size w W) => (sub_head (h.below hb) hk).2 hc1)
 have HPA := Lib.hid (fun (W : World) (hb : Below w.heap.size w W) => (parse_no _ _ _ _ W (HS.out W hb) hx : Calls Tryz.prog 146 #[.slice (some ⟨b, o + 1, none⟩) k (c - 1)] W (RetNB 0 false W)))
 obtain ⟨w1, hw1⟩ : ∃ w1, w.alloc (.cells #[.slice none 0 0] 41) = w1 := ⟨_, rfl⟩
 have HW1 := Lib.hid hw1
 have HB1 := Lib.hid (show BS w [⟨w.heap.size, 41, [.slice none 0 0]⟩] [] w1 from hw1 ▸ ((BS.start w).alloc (p := w.heap.size) rfl 41 [.slice none 0 0] rfl))
 clear hw1
 have c1 := (HB1.out.bel.cell (p := ⟨b, o, none⟩) hlt).trans hc
 have h0 : ((n : Int) == 0) = false := beq_eq_false_iff_ne.2 (by omega)
 have h1 : ¬ (n : Int) - 1 < (k : Int) := by omega
 have h2 : (0 : Int) < (n : Int) := by omega
 have h3 : (1 : Int) + (k : Int) ≤ (c : Int) := by omega
 have h4 : c ≤ 9223372036854775807 := by omega
 skip
 clear h hlt hc hlen hn hx hb8 
 go_enter Tryz.func86, Tryz.ntmps86
 go_upto_region 1 with fail
 (try simp only [HW1.out])
 go_wp2_with fail
 refine (HPA.out w1 HB1.out.bel).mono ?_
 rintro e w2 ⟨a2, c2, rfl, hn2, hb2⟩
 have HB2 := Lib.hid (((HB1.out.call hb2).got hn2).alloc (p := w2.heap.size) rfl 41 [.slice a2 (lenW 0) c2] rfl)
 clear hn2 hb2
 have ⟨k0, f0⟩ := HB2.out.cf1 0 rfl
 have HE := Lib.hid (HB2.out.set 0 0 rfl rfl (fun _ => by simp) (.slice none 0 0))
 go_wp2_with fail
 have j0 := HE.out.cell 0 0 rfl rfl
 refine bodyPost_ret (v := .tuple #[.agg #[.slice none 0 0], .slice none 0 0, eE 91]) (by simp [results, Tryz.results86, go_sem, j0, eE]) rfl ?_
 exact ⟨rfl, HE.out.bel⟩
theorem ptk_badC (a : Option Addr) (n c k : Nat) (r : List Nat) (w : World) (h : BytesN w (.slice a n c) (k :: r)) (hk : k ≤ r.length) (hk2 : k < 256) (hs : n ≤ 17592186044416) (hb8 : ∀ x, x ∈ r.take k → x < 256) (hh : (r.take k).head? ≠ some 0) (hx : undig 256 (r.take k) = 0) (hc1 : c = 1) : Calls Tryz.prog 86 #[.slice a n c] w fun e w' => e = .returned (.tuple #[.agg #[.slice none 0 0], .slice none 0 0, eE 91]) ∧ Below w.heap.size w w' := by
 obtain ⟨b, o, ea, hlt, hc⟩ := h.get 0 (x := k) rfl
 have hlen := h.len
 have hn : n = r.length + 1 := hlen.1
 rw [Nat.add_zero] at hc
 have ea' : a = some ⟨b, o, none⟩ := ea
 clear ea
 subst ea'
 have HS := Lib.hid (fun (W : World) (hb : Below w.heap.size w W) => (sub_head (h.below hb) hk).1 hc1)
 have HPA := Lib.hid (fun (W : World) (hb : Below w.heap.size w W) => (by have h9 := parse_yes _ _ _ _ W (HS.out W hb) hh hb8 (by omega); rw [hx] at h9; exact h9 : Calls Tryz.prog 146 #[.slice (some ⟨b, o, none⟩) k 0] W (RetNB 0 true W)))
 obtain ⟨w1, hw1⟩ : ∃ w1, w.alloc (.cells #[.slice none 0 0] 41) = w1 := ⟨_, rfl⟩
 have HW1 := Lib.hid hw1
 have HB1 := Lib.hid (show BS w [⟨w.heap.size, 41, [.slice none 0 0]⟩] [] w1 from hw1 ▸ ((BS.start w).alloc (p := w.heap.size) rfl 41 [.slice none 0 0] rfl))
 clear hw1
 have c1 := (HB1.out.bel.cell (p := ⟨b, o, none⟩) hlt).trans hc
 have h0 : ((n : Int) == 0) = false := beq_eq_false_iff_ne.2 (by omega)
 have h1 : ¬ (n : Int) - 1 < (k : Int) := by omega
 have h2 : (0 : Int) < (n : Int) := by omega
 have h3 : (1 : Int) + (k : Int) ≤ (c : Int) := by omega
 have h4 : c ≤ 9223372036854775807 := by omega
 subst hc1
 clear h hlt hc hlen hn hx hb8 hh
 go_enter Tryz.func86, Tryz.ntmps86
 go_upto_region 1 with fail
 (try simp only [HW1.out])
 go_wp2_with fail
 refine (HPA.out w1 HB1.out.bel).mono ?_
 rintro e w2 ⟨a2, c2, rfl, hn2, hb2⟩
 have HB2 := Lib.hid (((HB1.out.call hb2).got hn2).alloc (p := w2.heap.size) rfl 41 [.slice a2 (lenW 0) c2] rfl)
 clear hn2 hb2
 have k1 := HB2.out.cell 1 0 rfl rfl
 go_wp2_with fail
 refine (show Calls Tryz.prog 69 #[.agg #[.slice a2 (lenW 0) c2]] _ _ from nzero_is a2 c2 0 _ rfl).mono ?_
 rintro e w3 ⟨rfl, hb3⟩
 have HB3 := Lib.hid (HB2.out.call hb3)
 clear hb3 k1
 have ⟨k0, f0⟩ := HB3.out.cf1 0 rfl
 have HE := Lib.hid (HB3.out.set 0 0 rfl rfl (fun _ => by simp) (.slice none 0 0))
 go_wp2_with fail
 have j0 := HE.out.cell 0 0 rfl rfl
 refine bodyPost_ret (v := .tuple #[.agg #[.slice none 0 0], .slice none 0 0, eE 91]) (by simp [results, Tryz.results86, go_sem, j0, eE]) rfl ?_
 exact ⟨rfl, HE.out.bel⟩
theorem ptk_badD (a : Option Addr) (n c k : Nat) (r : List Nat) (w : World) (h : BytesN w (.slice a n c) (k :: r)) (hk : k ≤ r.length) (hk2 : k < 256) (hs : n ≤ 17592186044416) (hb8 : ∀ x, x ∈ r.take k → x < 256) (hh : (r.take k).head? ≠ some 0) (hx : undig 256 (r.take k) = 0) (hc1 : c ≠ 1) : Calls Tryz.prog 86 #[.slice a n c] w fun e w' => e = .returned (.tuple #[.agg #[.slice none 0 0], .slice none 0 0, eE 91]) ∧ Below w.heap.size w w' := by
 obtain ⟨b, o, ea, hlt, hc⟩ := h.get 0 (x := k) rfl
 have hlen := h.len
 have hn : n = r.length + 1 := hlen.1
 rw [Nat.add_zero] at hc
 have ea' : a = some ⟨b, o, none⟩ := ea
 clear ea
 subst ea'
 have HS := Lib.hid (fun (W : World) (hb : Below w.heap.size w W) => (sub_head (h.below hb) hk).2 hc1)
 have HPA := Lib.hid (fun (W : World) (hb : Below w.heap.size w W) => (by have h9 := parse_yes _ _ _ _ W (HS.out W hb) hh hb8 (by omega); rw [hx] at h9; exact h9 : Calls Tryz.prog 146 #[.slice (some ⟨b, o + 1, none⟩) k (c - 1)] W (RetNB 0 true W)))
 obtain ⟨w1, hw1⟩ : ∃ w1, w.alloc (.cells #[.slice none 0 0] 41) = w1 := ⟨_, rfl⟩
 have HW1 := Lib.hid hw1
 have HB1 := Lib.hid (show BS w [⟨w.heap.size, 41, [.slice none 0 0]⟩] [] w1 from hw1 ▸ ((BS.start w).alloc (p := w.heap.size) rfl 41 [.slice none 0 0] rfl))
 clear hw1
 have c1 := (HB1.out.bel.cell (p := ⟨b, o, none⟩) hlt).trans hc
 have h0 : ((n : Int) == 0) = false := beq_eq_false_iff_ne.2 (by omega)
 have h1 : ¬ (n : Int) - 1 < (k : Int) := by omega
 have h2 : (0 : Int) < (n : Int) := by omega
 have h3 : (1 : Int) + (k : Int) ≤ (c : Int) := by omega
 have h4 : c ≤ 9223372036854775807 := by omega
 skip
 clear h hlt hc hlen hn hx hb8 hh
 go_enter Tryz.func86, Tryz.ntmps86
 go_upto_region 1 with fail
 (try simp only [HW1.out])
 go_wp2_with fail
 refine (HPA.out w1 HB1.out.bel).mono ?_
 rintro e w2 ⟨a2, c2, rfl, hn2, hb2⟩
 have HB2 := Lib.hid (((HB1.out.call hb2).got hn2).alloc (p := w2.heap.size) rfl 41 [.slice a2 (lenW 0) c2] rfl)
 clear hn2 hb2
 have k1 := HB2.out.cell 1 0 rfl rfl
 go_wp2_with fail
 refine (show Calls Tryz.prog 69 #[.agg #[.slice a2 (lenW 0) c2]] _ _ from nzero_is a2 c2 0 _ rfl).mono ?_
 rintro e w3 ⟨rfl, hb3⟩
 have HB3 := Lib.hid (HB2.out.call hb3)
 clear hb3 k1
 have ⟨k0, f0⟩ := HB3.out.cf1 0 rfl
 have HE := Lib.hid (HB3.out.set 0 0 rfl rfl (fun _ => by simp) (.slice none 0 0))
 go_wp2_with fail
 have j0 := HE.out.cell 0 0 rfl rfl
 refine bodyPost_ret (v := .tuple #[.agg #[.slice none 0 0], .slice none 0 0, eE 91]) (by simp [results, Tryz.results86, go_sem, j0, eE]) rfl ?_
 exact ⟨rfl, HE.out.bel⟩
theorem ptk_okA (a : Option Addr) (n c k : Nat) (r : List Nat) (w : World) {R : World → Prop} (hR : ∀ W, R W → BytesN W (.slice a n c) (k :: r)) (hRw : R w) (hk : k ≤ r.length) (hk2 : k < 256) (hs : n ≤ 17592186044416) (hb8 : ∀ x, x ∈ r.take k → x < 256) (hh : (r.take k).head? ≠ some 0) (hx : undig 256 (r.take k) ≠ 0) (hc1 : c ≠ 1) (hc2 : c = 1 + k) : Calls Tryz.prog 86 #[.slice a n c] w (RetT9 R (.ok (undig 256 (r.take k), r.drop k)) w) := by
 have h := hR w hRw
 obtain ⟨b, o, ea, hlt, hc⟩ := h.get 0 (x := k) rfl
 have hlen := h.len
 have hn : n = r.length + 1 := hlen.1
 rw [Nat.add_zero] at hc
 have ea' : a = some ⟨b, o, none⟩ := ea
 clear ea
 subst ea'
 have hcc := hc
 have HS := Lib.hid (fun (W : World) (hb : Below w.heap.size w W) => (sub_head (h.below hb) hk).2 hc1)
 have HTL := Lib.hid (fun (W : World) (hb : R W) => (sub_tail (hR W hb) hk).1 hc2)
 have HPA := Lib.hid (fun (W : World) (hb : Below w.heap.size w W) => (by have h9 := parse_yes _ _ _ _ W (HS.out W hb) hh hb8 (by omega); rw [show c - 1 = k by omega] at h9; exact h9 : Calls Tryz.prog 146 #[.slice (some ⟨b, o + 1, none⟩) k k] W (RetNB (undig 256 (r.take k)) true W)))
 have hdl : (r.drop k).length = n - (1 + k) := by rw [List.length_drop]; omega
 obtain ⟨Q, hQ⟩ : ∃ Q, r.drop k = Q := ⟨_, rfl⟩
 obtain ⟨v, hv⟩ : ∃ v, undig 256 (r.take k) = v := ⟨_, rfl⟩
 rw [hQ] at hdl HTL ⊢
 rw [hv] at HPA hx ⊢
 unfold RetT9
 rw [hdl] at HTL
 simp only [hdl]
 obtain ⟨w1, hw1⟩ : ∃ w1, w.alloc (.cells #[.slice none 0 0] 41) = w1 := ⟨_, rfl⟩
 have HW1 := Lib.hid hw1
 have HB1 := Lib.hid (show BS w [⟨w.heap.size, 41, [.slice none 0 0]⟩] [] w1 from hw1 ▸ ((BS.start w).alloc (p := w.heap.size) rfl 41 [.slice none 0 0] rfl))
 clear hw1
 have c1 := (HB1.out.bel.cell (p := ⟨b, o, none⟩) hlt).trans hc
 have h0 : ((n : Int) == 0) = false := beq_eq_false_iff_ne.2 (by omega)
 have h1 : ¬ (n : Int) - 1 < (k : Int) := by omega
 have h2 : (0 : Int) < (n : Int) := by omega
 have h3 : (1 : Int) + (k : Int) ≤ (c : Int) := by omega
 have h4 : c ≤ 9223372036854775807 := by omega
 have h5 : (1 : Int) + (k : Int) ≤ (n : Int) := by omega
 subst hc2
 have HZ := Lib.hid (fun (a2 : Option Addr) (c2 : Nat) (W : World) => nzero_no a2 c2 v W hx)
 clear h hc hlen hn hb8 hh hdl hQ hv hx hR hRw
 go_enter Tryz.func86, Tryz.ntmps86
 go_upto_region 1 with fail
 (try simp only [HW1.out])
 go_wp2_with fail
 refine (HPA.out w1 HB1.out.bel).mono ?_
 rintro e w2 ⟨a2, c2, rfl, hn2, hb2⟩
 have HB2 := Lib.hid (((HB1.out.call hb2).got hn2).alloc (p := w2.heap.size) rfl 41 [.slice a2 (lenW v) c2] rfl)
 clear hn2 hb2
 have k1 := HB2.out.cell 1 0 rfl rfl
 go_wp2_with fail
 refine (HZ.out a2 c2 _).mono ?_
 rintro e w3 ⟨rfl, hb3⟩
 have HB3 := Lib.hid (HB2.out.call hb3)
 clear hb3 k1 c1
 have ⟨k0, f0⟩ := HB3.out.cf1 0 rfl
 have k1 := HB3.out.cell 1 0 rfl rfl
 have c1 := (HB3.out.bel.cell (p := ⟨b, o, none⟩) hlt).trans hcc
 go_wp2_with fail
 have HE := Lib.hid ((HB3.out.set 0 0 rfl rfl (fun _ => by simp) (.slice a2 (lenW v) c2)).drew)
 go_region
 go_wp2_with fail
 have j0 := HE.out.cell 0 0 rfl rfl
 refine bodyPost_ret (v := .tuple #[.agg #[.slice a2 (lenW v) c2], .slice (some ⟨b, o, none⟩) (n - (1 + k)) 0, .nilIface]) (by simp [results, Tryz.results86, go_sem, j0]) rfl ?_
 exact ⟨a2, c2, some ⟨b, o, none⟩, 0, rfl, HE.out.nat 0 rfl, HTL.out, HE.out.bel⟩
theorem ptk_okB (a : Option Addr) (n c k : Nat) (r : List Nat) (w : World) {R : World → Prop} (hR : ∀ W, R W → BytesN W (.slice a n c) (k :: r)) (hRw : R w) (hk : k ≤ r.length) (hk2 : k < 256) (hs : n ≤ 17592186044416) (hb8 : ∀ x, x ∈ r.take k → x < 256) (hh : (r.take k).head? ≠ some 0) (hx : undig 256 (r.take k) ≠ 0) (hc1 : c ≠ 1) (hc2 : c ≠ 1 + k) : Calls Tryz.prog 86 #[.slice a n c] w (RetT9 R (.ok (undig 256 (r.take k), r.drop k)) w) := by
 have h := hR w hRw
 obtain ⟨b, o, ea, hlt, hc⟩ := h.get 0 (x := k) rfl
 have hlen := h.len
 have hn : n = r.length + 1 := hlen.1
 rw [Nat.add_zero] at hc
 have ea' : a = some ⟨b, o, none⟩ := ea
 clear ea
 subst ea'
 have hcc := hc
 have HS := Lib.hid (fun (W : World) (hb : Below w.heap.size w W) => (sub_head (h.below hb) hk).2 hc1)
 have HTL := Lib.hid (fun (W : World) (hb : R W) => (sub_tail (hR W hb) hk).2 hc2)
 have HPA := Lib.hid (fun (W : World) (hb : Below w.heap.size w W) => (parse_yes _ _ _ _ W (HS.out W hb) hh hb8 (by omega) : Calls Tryz.prog 146 #[.slice (some ⟨b, o + 1, none⟩) k (c - 1)] W (RetNB (undig 256 (r.take k)) true W)))
 have hdl : (r.drop k).length = n - (1 + k) := by rw [List.length_drop]; omega
 obtain ⟨Q, hQ⟩ : ∃ Q, r.drop k = Q := ⟨_, rfl⟩
 obtain ⟨v, hv⟩ : ∃ v, undig 256 (r.take k) = v := ⟨_, rfl⟩
 rw [hQ] at hdl HTL ⊢
 rw [hv] at HPA hx ⊢
 unfold RetT9
 rw [hdl] at HTL
 simp only [hdl]
 obtain ⟨w1, hw1⟩ : ∃ w1, w.alloc (.cells #[.slice none 0 0] 41) = w1 := ⟨_, rfl⟩
 have HW1 := Lib.hid hw1
 have HB1 := Lib.hid (show BS w [⟨w.heap.size, 41, [.slice none 0 0]⟩] [] w1 from hw1 ▸ ((BS.start w).alloc (p := w.heap.size) rfl 41 [.slice none 0 0] rfl))
 clear hw1
 have c1 := (HB1.out.bel.cell (p := ⟨b, o, none⟩) hlt).trans hc
 have h0 : ((n : Int) == 0) = false := beq_eq_false_iff_ne.2 (by omega)
 have h1 : ¬ (n : Int) - 1 < (k : Int) := by omega
 have h2 : (0 : Int) < (n : Int) := by omega
 have h3 : (1 : Int) + (k : Int) ≤ (c : Int) := by omega
 have h4 : c ≤ 9223372036854775807 := by omega
 have h5 : (1 : Int) + (k : Int) ≤ (n : Int) := by omega
 skip
 have HZ := Lib.hid (fun (a2 : Option Addr) (c2 : Nat) (W : World) => nzero_no a2 c2 v W hx)
 clear h hc hlen hn hb8 hh hdl hQ hv hx hR hRw
 go_enter Tryz.func86, Tryz.ntmps86
 go_upto_region 1 with fail
 (try simp only [HW1.out])
 go_wp2_with fail
 refine (HPA.out w1 HB1.out.bel).mono ?_
 rintro e w2 ⟨a2, c2, rfl, hn2, hb2⟩
 have HB2 := Lib.hid (((HB1.out.call hb2).got hn2).alloc (p := w2.heap.size) rfl 41 [.slice a2 (lenW v) c2] rfl)
 clear hn2 hb2
 have k1 := HB2.out.cell 1 0 rfl rfl
 go_wp2_with fail
 refine (HZ.out a2 c2 _).mono ?_
 rintro e w3 ⟨rfl, hb3⟩
 have HB3 := Lib.hid (HB2.out.call hb3)
 clear hb3 k1 c1
 have ⟨k0, f0⟩ := HB3.out.cf1 0 rfl
 have k1 := HB3.out.cell 1 0 rfl rfl
 have c1 := (HB3.out.bel.cell (p := ⟨b, o, none⟩) hlt).trans hcc
 go_wp2_with fail
 have HE := Lib.hid ((HB3.out.set 0 0 rfl rfl (fun _ => by simp) (.slice a2 (lenW v) c2)).drew)
 go_region
 go_wp2_with fail
 have j0 := HE.out.cell 0 0 rfl rfl
 refine bodyPost_ret (v := .tuple #[.agg #[.slice a2 (lenW v) c2], .slice (some ⟨b, o + (1 + k), none⟩) (n - (1 + k)) (c - (1 + k)), .nilIface]) (by simp [results, Tryz.results86, go_sem, j0]) rfl ?_
 exact ⟨a2, c2, some ⟨b, o + (1 + k), none⟩, (c - (1 + k)), rfl, HE.out.nat 0 rfl, HTL.out, HE.out.bel⟩
theorem ptk_any (a : Option Addr) (n c : Nat) (bs : List Nat) (w : World) {R : World → Prop} (hR : ∀ W, R W → BytesN W (.slice a n c) bs) (hRw : R w) (hb8 : ∀ x, x ∈ bs → x < 256) (hs : n ≤ 17592186044416) : Calls Tryz.prog 86 #[.slice a n c] w (RetT9 R (takeB bs) w) := by
 have h := hR w hRw
 cases bs with
 | nil =>
  have hn : n = 0 := h.len.1
  subst hn
  exact ptk_nil a c w
 | cons k r =>
  have hk2 := hb8 k List.mem_cons_self
  have hr : ∀ x, x ∈ r.take k → x < 256 := fun x hx => hb8 x (List.mem_cons_of_mem _ (List.mem_of_mem_take hx))
  unfold takeB
  simp only
  by_cases h1 : r.length < k
  ·
   rw [if_pos h1]; exact ptk_short a n c k r w h h1 hk2 hs
  ·
   rw [if_neg h1]
   have hk : k ≤ r.length := by omega
   have hlen := h.len
   have hn : n = r.length + 1 := hlen.1
   by_cases h2 : (r.take k).head? = some 0
   ·
    rw [if_pos (.inl h2)]
    by_cases hc1 : c = 1
    ·
     exact ptk_badA a n c k r w h hk hk2 hs hr h2 hc1
    ·
     exact ptk_badB a n c k r w h hk hk2 hs hr h2 hc1
   ·
    by_cases h3 : undig 256 (r.take k) = 0
    ·
     rw [if_pos (.inr h3)]
     by_cases hc1 : c = 1
     ·
      exact ptk_badC a n c k r w h hk hk2 hs hr h2 h3 hc1
     ·
      exact ptk_badD a n c k r w h hk hk2 hs hr h2 h3 hc1
    ·
     rw [if_neg fun h4 => h4.elim h2 h3]
     have hc1 : c ≠ 1 := fun hc => by
      have : r = [] := List.eq_nil_of_length_eq_zero (by omega)
      subst this
      rw [List.take_nil] at h3
      exact h3 rfl
     by_cases hc2 : c = 1 + k
     ·
      exact ptk_okA a n c k r w hR hRw hk hk2 hs hr h2 h3 hc1 hc2
     ·
      exact ptk_okB a n c k r w hR hRw hk hk2 hs hr h2 h3 hc1 hc2
end Go.Proofs.YtmhainidincjhaaGreatDoor
namespace Go.Proofs.YtmhainidincjhaaGreatDoor
open Go.RowKit
theorem by_len (n x add L : Nat) (hn : n < W64 ^ L) (hx : x < W64) (ha : add < W64) : carryM n x add L = wordOf (n * x + add) L := by
 have h1 := carryM_lt n x add L hx ha
 unfold carryM at h1 ⊢
 rw [Nat.mod_eq_of_lt hn] at h1 ⊢
 unfold wordOf
 rw [Nat.mod_eq_of_lt h1]
theorem by_fit (n x add L : Nat) (hn : n < W64 ^ L) (hx : x < W64) (ha : add < W64) : n * x + add < W64 ^ (L + 1) := by
 have h1 := carryM_lt n x add L hx ha
 unfold carryM at h1
 rw [Nat.mod_eq_of_lt hn, Nat.div_lt_iff_lt_mul (W64_pos L)] at h1
 rw [Nat.pow_succ, Nat.mul_comm (W64 ^ L)]
 exact h1
theorem pbyWord_any (a : Option Addr) (c n x add : Nat) (w : World) (ha : NatW w a c n) (hx : x < W64) (hd : add < W64) (hs : lenW n ≤ 8796093022208) : Calls Tryz.prog 153 #[.agg #[.slice a (lenW n) c], UV x, UV add] w (RetN (n * x + add) w) := by
 have hL := fun W => nlen_any a c n W
 have hWd := fun W k (h : NatW W a c n) hk => word_any a c n k W h hk
 have hmn := lt_lenW n
 obtain ⟨M, hM⟩ : ∃ M, lenW n = M := ⟨_, rfl⟩
 rw [hM] at hL hWd hmn hs ⊢
 have hbs := ((BS.begin [⟨a, c, n⟩] (fun y hy => by rw [List.mem_singleton.1 hy]; exact ha)).alloc (p := w.heap.size) rfl 41 [.slice a M c] rfl).alloc (p := w.heap.size + 1) (by simp) 41 [.slice none 0 0] rfl
 have hM1 : (M : Int) + 1 = ((M + 1 : Nat) : Int) := by omega
 have hmk := make_words ((M : Int) + 1) (M + 1) hM1 (by omega)
 have HL := Lib.hid hL
 have HWd := Lib.hid hWd
 have HBS := Lib.hid hbs
 have HFIT := Lib.hid (by_fit n x add M hmn hx hd)
 have HEND := Lib.hid (by_len n x add M hmn hx hd)
 have HCL := Lib.hid (fun k => carryM_lt n x add k hx hd)
 have HX := Lib.hid hx
 have HM1 := Lib.hid hM1
 clear ha hL hWd hM hbs hmn hd hx hM1
 go_enter Tryz.func153, Tryz.ntmps153
 go_wp2_with fail
 refine (HL.out _).mono ?_
 rintro e w1 ⟨rfl, hb1⟩
 have hn1 := HBS.out.call hb1
 have k0 := hn1.cell 0 0 rfl rfl
 have hlt0 := hn1.lt 0 rfl
 have HN1 := Lib.hid hn1
 clear hb1 hn1
 go_wp2_with fail
 refine (HL.out _).mono ?_
 rintro e w2 ⟨rfl, hb2⟩
 have HMADE := Lib.hid ((NS.made w1 (List.replicate (M + 1) 0)).below hb2)
 clear hb2 k0 hmk
 have HKS := Lib.hid (fun (xs : List Nat) (W : World) (h : NS w1 w1.heap.size xs W) => (⟨h.old (HN1.out.cell 0 0 rfl rfl), h.old (HN1.out.cell 1 0 rfl rfl), h.oldFree (HN1.out.lt 1 rfl) (HN1.out.free 1 0 rfl)⟩ : W.cell? ⟨w.heap.size, 0, none⟩ = some (.slice a M c) ∧ W.cell? ⟨w.heap.size + 1, 0, none⟩ = some (.slice none 0 0) ∧ W.frozen? ⟨w.heap.size + 1, 0, none⟩ = false))
 have HA := Lib.hid (HN1.out.nat 0 rfl)
 go_wp2_with fail
 go_loopw [2, 15] (fun v2 v15 wr => ∃ k : Nat, k ≤ M ∧ v2 = UV (carryM n x add k) ∧ v15 = .int .i64 k ∧ NS w1 w1.heap.size (fillN (n * x + add) (M + 1) k) wr) (fun _ v15 _ => M - (intOf v15).toNat)
 case atStart => exact ⟨0, Nat.zero_le _, by rw [carryM_zero], rfl, by rw [fillN_zero]; exact HMADE.out⟩
 case round =>
  obtain ⟨k, hkM, rfl, rfl, hns⟩ := hrel
  by_cases hlt : k < M
  ·
   obtain ⟨m1, m2⟩ := mul_word n x add k
   obtain ⟨q, hq⟩ : ∃ q, wordOf (n * x + add) k = q := ⟨_, rfl⟩
   obtain ⟨cy, hcy⟩ : ∃ cy, carryM n x add k = cy := ⟨_, rfl⟩
   obtain ⟨c2, hc2⟩ : ∃ c2, carryM n x add (k + 1) = c2 := ⟨_, rfl⟩
   rw [hcy, hq] at m1
   rw [hcy, hc2] at m2
   have HWi := Lib.hid (fun (W : World) (h : NS w1 w1.heap.size (fillN (n * x + add) (M + 1) k) W) => (HWd.out W k (h.nat HA.out) (by omega)).mono fun e w' (h1 : _ ∧ _) => (⟨h1.1, h.below h1.2⟩ : e = .returned (UV (wordOf n k)) ∧ NS w1 w1.heap.size (fillN (n * x + add) (M + 1) k) w'))
   have HMA := Lib.hid (fun (W : World) => (muladd_any (wordOf n k) x cy 0 (wordOf_lt n k) HX.out (by rw [← hcy]; exact HCL.out k) (by unfold W64; omega) W).mono fun e w' (h1 : _ ∧ _) => (⟨by rw [h1.1, Nat.add_zero, m1, m2], h1.2⟩ : e = .returned (.tuple #[UV c2, UV q]) ∧ W = w'))
   have HSET := Lib.hid (fun (W : World) (h : NS w1 w1.heap.size (fillN (n * x + add) (M + 1) k) W) => (by
    have h1 := h.set k q
    rw [← hq, fillN_set] at h1
    rw [← hq]; exact h1 : NS w1 w1.heap.size (fillN (n * x + add) (M + 1) (k + 1)) (W.setCell ⟨w1.heap.size, k, none⟩ (UV q))))
   have HCL2 := Lib.hid (fun (W : World) (h : NS w1 w1.heap.size (fillN (n * x + add) (M + 1) k) W) => (h.cell (j := k) (by rw [fillN_len]; omega)))
   obtain ⟨k0, _, _⟩ := HKS.out _ _ hns
   have i0 : (0 : Int) ≤ (k : Int) := by omega
   have i1 : (k : Int) < (M : Int) + 1 := by omega
   have HNS := Lib.hid hns
   have HC2 := Lib.hid hc2
   rw [hcy] at *
   clear hns m1 m2 hq hc2
   go_wp2_with fail
   refine (HWi.out _ HNS.out).mono ?_
   rintro e w3 ⟨rfl, hn3⟩
   have HN3 := Lib.hid hn3
   clear hn3 k0
   go_wp2_with fail
   refine (HMA.out _).mono ?_
   rintro e w4 ⟨rfl, rfl⟩
   have hc := HCL2.out _ HN3.out
   have hf := HN3.out.free k
   go_wp2_with fail
   go_roundw
   case rel => exact ⟨k + 1, by omega, by rw [HC2.out], by go_num, HSET.out _ HN3.out⟩
   case measure => simp [intOf]; omega
  ·
   obtain rfl : M = k := by omega
   obtain ⟨k0, _, _⟩ := HKS.out _ _ hns
   rw [HEND.out]
   obtain ⟨q, hq⟩ : ∃ q, wordOf (n * x + add) M = q := ⟨_, rfl⟩
   rw [hq]
   have HNS := Lib.hid hns
   have HQ := Lib.hid hq
   clear hns hq
   go_wp2_with fail
   refine (HL.out _).mono ?_
   rintro e w3 ⟨rfl, hb3⟩
   have hn3 := HNS.out.below hb3
   have hc := hn3.cell (j := M) (by rw [fillN_len]; omega)
   have hf := hn3.free M
   have i0 : (0 : Int) ≤ (M : Int) := by omega
   have i1 : (M : Int) < (M : Int) + 1 := by omega
   have hns4 := hn3.set M q
   rw [← HQ.out, fillN_set, HQ.out] at hns4
   have HN4 := Lib.hid hns4
   clear hn3 hns4 hb3 k0
   go_upto_region 8 with fail
   obtain ⟨W4, hW4⟩ : ∃ W4, w3.setCell ⟨w1.heap.size, M, none⟩ (UV q) = W4 := ⟨_, rfl⟩
   rw [hW4] at HN4
   (try simp only [hW4])
   clear hc hf hW4
   have hlen := fillN_len (n * x + add) (M + 1) (M + 1)
   have hsl := HN4.out.sl (by rw [hlen]; unfold maxLen; omega)
   rw [hlen] at hsl
   have HT := Lib.hid (of_any _ _ _ _ W4 hsl (fillN_lt _ _ _) (by omega))
   rw [fillN_val HFIT.out] at HT
   obtain ⟨_, k2, f2⟩ := HKS.out _ _ HN4.out
   clear hsl hlen
   go_wp2_with fail
   refine HT.out.mono ?_
   rintro e w5 ⟨a2, c2, rfl, hn2, hb2⟩
   have k3 := ((bcell hb2).1 _ _ (World.block_lt_of_cell? _ _ k2)).trans k2
   have f3 := ((bcell hb2).2 _ _ (World.block_lt_of_cell? _ _ k2)).trans f2
   have HNN := Lib.hid hn2
   have HB2 := Lib.hid hb2
   clear hn2 hb2 HT k2 f2
   go_wp2_with fail
   refine bodyPost_ret (v := .agg #[.slice a2 (lenW (n * x + add)) c2]) (by simp [results, Tryz.results153, go_sem, k3]) rfl ?_
   exact ⟨a2, c2, rfl, HNN.out.set k3 (fun _ => by simp) _, (bthen HN1.out.bel (bthen HN4.out.bel HB2.out)).setCell (by simp) _⟩
def natB (s : ByteArray) : List Nat := s.data.toList.map UInt8.toNat
theorem natB_len (s : ByteArray) : (natB s).length = s.size := by unfold natB; rw [List.length_map, Array.length_toList]; rfl
theorem natB_at (s : ByteArray) (k : Nat) (h : k < s.size) : (natB s)[k]? = some (s[k].toNat) := by
 unfold natB
 have h2 : k < s.data.size := h
 rw [List.getElem?_map, Array.getElem?_toList, Array.getElem?_eq_getElem h2]; rfl
abbrev isDig (c : Nat) : Prop := 48 ≤ c ∧ c ≤ 57
def valD (l : List Nat) : Nat := undig 10 (l.map (· - 48))
theorem valD_nil : valD [] = 0 := rfl
theorem valD_snoc (l : List Nat) (c : Nat) : valD (l ++ [c]) = valD l * 10 + (c - 48) := by unfold valD; rw [List.map_append, List.map_singleton, undig_snoc]
theorem valD_append (l m : List Nat) : valD (l ++ m) = valD l * 10 ^ m.length + valD m := by unfold valD; rw [List.map_append, undig_append, List.length_map]
theorem valD_lt (l : List Nat) (h : ∀ c, c ∈ l → isDig c) : valD l < 10 ^ l.length := by
 have := undig_lt (B := 10) (l.map (· - 48)) (fun x hx => by
  obtain ⟨c, hc, rfl⟩ := List.mem_map.1 hx
  have := h c hc; omega)
 rwa [List.length_map] at this
theorem valD_words (l : List Nat) (h : ∀ c, c ∈ l → isDig c) : lenW (valD l) ≤ l.length := by
 refine lenW_le (Nat.lt_of_lt_of_le (valD_lt l h) (Nat.pow_le_pow_left (by unfold W64; omega) _))
theorem readN_eq (l : List Nat) : readN l = if l = [] ∨ (1 < l.length ∧ l.head? = some 48) then none else if ∀ c, c ∈ l → isDig c then some (valD l) else none := rfl
def RetO (o : Option Nat) (w : World) (e : Ending) (w' : World) : Prop := match o with
 | none => RetNB 0 false w e w'
 | some n => RetNB n true w e w'
theorem retNo (w W : World) (hb : Below w.heap.size w W) (e : Ending) (he : e = .returned (.tuple #[.agg #[.slice none 0 0], .bool false])) : RetNB 0 false w e W := ⟨none, 0, by rw [lenW_zero]; exact he, NatW.zero _, hb⟩
theorem read_empty (w : World) : Calls Tryz.prog 92 #[.string ⟨#[]⟩] w (RetNB 0 false w) := by
 go_enter Tryz.func92, Tryz.ntmps92
 go_wp2_with fail
 refine bodyPost_ret (v := .tuple #[.agg #[.slice none 0 0], .bool false]) (by simp [results, Tryz.results92, go_sem]) rfl ?_
 exact retNo w _ (belowBox w _) _ rfl
theorem read_lead (s : ByteArray) (w : World) (h1 : 1 < s.size) (h0 : (natB s).head? = some 48) : Calls Tryz.prog 92 #[.string s] w (RetNB 0 false w) := by
  have hp : 0 < s.size := by omega
  have he : s.toList.isEmpty = false := by
    cases h : s.toList with
    | nil => have h2 : s.toList.length = s.size := by rw [ByteArray.toList_eq]; exact Array.length_toList ..
             rw [h] at h2; simp at h2; omega
    | cons => rfl
  have hx : s[0].toNat = 48 := by
    have := natB_at s 0 hp
    rw [List.head?_eq_getElem?, this] at h0
    exact Option.some.inj h0
  have h1i : (1 : Int) < (s.size : Int) := by omega
  go_enter Tryz.func92, Tryz.ntmps92
  go_wp2_with fail
  all_goals
    refine bodyPost_ret (v := .tuple #[.agg #[.slice none 0 0], .bool false]) (by simp [results, Tryz.results92, go_sem]) rfl ?_
    exact retNo w _ (belowBox w _) _ rfl
theorem nonempty_list (s : ByteArray) (h : 0 < s.size) : s.toList.isEmpty = false := by
  cases e : s.toList with
  | nil => have h2 : s.toList.length = s.size := by rw [ByteArray.toList_eq]; exact Array.length_toList ..
           rw [e] at h2; simp at h2; omega
  | cons => rfl
theorem part_next (D : List Nat) (k t c : Nat) (hk : k ≤ t) (hc : D[t]? = some c) : valD ((D.take (t + 1)).drop k) = valD ((D.take t).drop k) * 10 + (c - 48) := by
 have hlt := (List.getElem?_eq_some_iff.1 hc).1
 rw [List.take_add_one, hc, List.drop_append_of_le_length (by rw [List.length_take]; omega)]
 exact valD_snoc _ _
theorem part_all (D : List Nat) (k t : Nat) (hk : k ≤ t) (ht : t ≤ D.length) : valD (D.take k) * 10 ^ (t - k) + valD ((D.take t).drop k) = valD (D.take t) := by
 have h1 : D.take t = D.take k ++ (D.take t).drop k := by
  have := List.take_append_drop k (D.take t)
  rw [List.take_take, Nat.min_eq_left hk] at this
  exact this.symm
 conv => rhs; rw [h1]
 rw [valD_append, List.length_drop, List.length_take, Nat.min_eq_left ht]
theorem seg_lt (D : List Nat) (k t : Nat) (hk : k ≤ t) (ht : t ≤ D.length) (h18 : t ≤ k + 18) (hd : ∀ c, c ∈ D.take t → isDig c) : valD ((D.take t).drop k) < 10 ^ (t - k) ∧ 10 ^ (t - k) ≤ 1000000000000000000 := by
 have h1 := valD_lt ((D.take t).drop k) fun c hc => hd c (List.mem_of_mem_drop hc)
 rw [List.length_drop, List.length_take, Nat.min_eq_left ht] at h1
 exact ⟨h1, Nat.pow_le_pow_right (n := 10) (by omega) (show t - k ≤ 18 by omega)⟩
theorem read_go (s : ByteArray) (w : World) (hs : s.size ≤ 4398046511104) (hp : 0 < s.size) (hc : ¬ (1 < s.size ∧ (natB s).head? = some 48)) : Calls Tryz.prog 92 #[.string s] w (RetO (if ∀ c, c ∈ natB s → isDig c then some (valD (natB s)) else none) w) := by
 have he := nonempty_list s hp
 obtain ⟨x, hx⟩ : ∃ x, s[0].toNat = x := ⟨_, rfl⟩
 have hh : (natB s).head? = some x := by rw [List.head?_eq_getElem?, natB_at s 0 hp, hx]
 rw [hh] at hc
 have HD := Lib.hid (natB_at s)
 obtain ⟨D, hD⟩ : ∃ D, natB s = D := ⟨_, rfl⟩
 have hlen := natB_len s
 rw [hD] at hlen HD ⊢
 obtain ⟨w1, hw1⟩ : ∃ w1, w.alloc (.cells #[.slice none 0 0] 41) = w1 := ⟨_, rfl⟩
 have HW1 := Lib.hid hw1
 have HB1 := Lib.hid (show BS w [⟨w.heap.size, 41, [.slice none 0 0]⟩] [] w1 from hw1 ▸ ((BS.start w).alloc (p := w.heap.size) rfl 41 [.slice none 0 0] rfl))
 clear hh hD hw1
 have HLEN := Lib.hid hlen
 clear hlen
 obtain ⟨o, ho⟩ : ∃ o, (if ∀ c, c ∈ D → isDig c then some (valD D) else none) = o := ⟨_, rfl⟩
 rw [ho]
 have HO := Lib.hid ho
 clear ho
 go_enter Tryz.func92, Tryz.ntmps92
 go_upto_region 1 with fail
 (try simp only [HW1.out])
 go_cut [20] (fun v20 wx => v20 = .bool false ∧ wx = w1)
 case first =>
  by_cases h1 : 1 < s.size
  ·
   have hx48 : ((x : Int) == 48) = false := beq_eq_false_iff_ne.2 fun e => hc ⟨h1, by rw [show x = 48 by omega]⟩
   have h1i : (1 : Int) < (s.size : Int) := by omega
   clear hc
   go_wp2_with fail
   go_meet
   exact ⟨rfl, rfl⟩
  ·
   have h1i : ¬ (1 : Int) < (s.size : Int) := by omega
   clear hc
   go_wp2_with fail
   go_meet
   exact ⟨rfl, rfl⟩
 case rest =>
  obtain ⟨rfl, hw⟩ := hcut
  obtain ⟨w2, hw2⟩ : ∃ w2 : World, w2 = wc := ⟨_, rfl⟩
  subst hw2
  subst hw
  clear hc hx HW1 he
  obtain ⟨p4, hp4⟩ : ∃ p4, w2.heap.size = p4 := ⟨_, rfl⟩
  obtain ⟨w3, hw3⟩ : ∃ w3, w2.alloc (.cells #[.slice none 0 0] 41) = w3 := ⟨_, rfl⟩
  have HP4 := Lib.hid hp4
  have HW3 := Lib.hid hw3
  have HB2 := Lib.hid (show BS w [⟨w.heap.size, 41, [.slice none 0 0]⟩, ⟨p4, 41, [.slice none (lenW (valD (D.take 0))) 0]⟩] [⟨none, 0, valD (D.take 0)⟩] w3 from by
   rw [List.take_zero, valD_nil, lenW_zero, ← hw3]
   exact (HB1.out.alloc (p := p4) hp4 41 [.slice none 0 0] rfl).got (NatW.zero _))
  clear hp4 hw3 HB1
  go_upto_region 5 with fail
  (try simp only [HW3.out])
  (try simp only [HP4.out])
  clear HW3 HP4
  obtain ⟨n, hn⟩ : ∃ n, s.size = n := ⟨_, rfl⟩
  have HN := Lib.hid hn
  go_loopw [5] (fun v5 wr => ∃ (k : Nat) (a1 : Option Addr) (c1 : Nat), k ≤ s.size ∧ v5 = .int .i64 k ∧ (∀ c, c ∈ D.take k → isDig c) ∧ BS w [⟨w.heap.size, 41, [.slice none 0 0]⟩, ⟨p4, 41, [.slice a1 (lenW (valD (D.take k))) c1]⟩] [⟨a1, c1, valD (D.take k)⟩] wr) (fun v5 _ => s.size - (intOf v5).toNat)
  case atStart => exact ⟨0, none, 0, Nat.zero_le _, rfl, (by rw [List.take_zero]; exact fun c hc => by cases hc), HB2.out⟩
  case round =>
   obtain ⟨k, a1, c1, hk, rfl, hdg, hbs⟩ := hrel
   have HDG := Lib.hid hdg
   have HBS := Lib.hid hbs
   clear hdg hbs HB2 hn HN
   by_cases hlt : k < s.size
   ·
    go_upto_region 6 with fail
    obtain ⟨w4, hw4⟩ : ∃ w4 : World, w4 = wr := ⟨_, rfl⟩
    subst hw4
    go_cut [6] (fun v6 wx => ∃ te : Nat, v6 = .int .i64 te ∧ k < te ∧ te ≤ s.size ∧ te ≤ k + 18 ∧ wx = w4)
    case first =>
     by_cases h1 : k + 18 < s.size
     ·
      have h1i : (k : Int) + 18 < (s.size : Int) := by omega
      go_wp2_with fail
      go_meet
      exact ⟨k + 18, by go_num, by omega, by omega, by omega, rfl⟩
     ·
      have h1i : ¬ (k : Int) + 18 < (s.size : Int) := by omega
      go_wp2_with fail
      go_meet
      exact ⟨s.size, by go_num, by omega, by omega, by omega, rfl⟩
    case rest =>
     obtain ⟨te, rfl, hto1, hto2, hto3, hw⟩ := hcut
     obtain ⟨w5, hw5⟩ : ∃ w5 : World, w5 = wc := ⟨_, rfl⟩
     subst hw5
     subst hw
     go_upto_region 8 with fail
     go_loopw [5, 7, 8] (fun v5 v7 v8 wr => ∃ t : Nat, k ≤ t ∧ t ≤ te ∧ v5 = .int .i64 t ∧ v7 = UV (valD ((D.take t).drop k)) ∧ v8 = UV (10 ^ (t - k)) ∧ (∀ c, c ∈ D.take t → isDig c) ∧ w5 = wr) (fun v5 _ _ _ => te - (intOf v5).toNat)
     case atStart =>
      refine ⟨k, Nat.le_refl _, by omega, rfl, ?_, ?_, HDG.out, by trivial⟩
      ·
       rw [List.drop_of_length_le (by rw [List.length_take]; omega)]; rfl
      ·
       rw [Nat.sub_self]; rfl
     case round =>
      obtain ⟨t, ht1, ht2, rfl, rfl, rfl, hdt, rfl⟩ := hrel
      have hsl := seg_lt D k t ht1 (by rw [HLEN.out]; omega) (by omega) hdt
      obtain ⟨qv, hq⟩ : ∃ qv, valD ((D.take t).drop k) = qv := ⟨_, rfl⟩
      obtain ⟨tv, htv⟩ : ∃ tv, 10 ^ (t - k) = tv := ⟨_, rfl⟩
      rw [hq, htv] at hsl
      rw [hq, htv]
      obtain ⟨hq18, ht18⟩ := hsl
      have hq19 : qv ≤ 1000000000000000000 := by omega
      have HQ := Lib.hid hq
      have HTV := Lib.hid htv
      have HDT := Lib.hid hdt
      clear hq htv hdt hq18
      by_cases hlt2 : t < te
      ·
       have hts : t < s.size := by omega
       obtain ⟨c, hc⟩ : ∃ c, s[t].toNat = c := ⟨_, rfl⟩
       have HCD := Lib.hid (show D[t]? = some c by rw [← hc]; exact HD.out t hts)
       have i0 : (0 : Int) ≤ (t : Int) := by omega
       have i1 : (t : Int) < (s.size : Int) := by omega
       have i2 : (t : Int) < (te : Int) := by omega
       by_cases hcl : c < 48
       ·
        have hcli : (c : Int) < 48 := by omega
        have HNO := Lib.hid (show ¬ isDig c from fun h => by have := h.1; omega)
        have ⟨k0, f0⟩ := HBS.out.cf1 0 rfl
        have HE := Lib.hid (HBS.out.set 0 0 rfl rfl (fun _ => by simp) (.slice none 0 0))
        go_wp2_with fail
        have j0 := HE.out.cell 0 0 rfl rfl
        refine bodyPost_ret (v := .tuple #[.agg #[.slice none 0 0], .bool false]) (by simp [results, Tryz.results92, go_sem, j0]) rfl ?_
        rw [← HO.out, if_neg fun h => HNO.out (h c (List.mem_of_getElem? HCD.out))]
        exact retNo w _ HE.out.bel _ rfl
       ·
        have hcli : ¬ (c : Int) < 48 := by omega
        by_cases hcg : 57 < c
        ·
         have hcgi : (57 : Int) < (c : Int) := by omega
         have HNO := Lib.hid (show ¬ isDig c from fun h => by have := h.2; omega)
         have ⟨k0, f0⟩ := HBS.out.cf1 0 rfl
         have HE := Lib.hid (HBS.out.set 0 0 rfl rfl (fun _ => by simp) (.slice none 0 0))
         go_wp2_with fail
         have j0 := HE.out.cell 0 0 rfl rfl
         refine bodyPost_ret (v := .tuple #[.agg #[.slice none 0 0], .bool false]) (by simp [results, Tryz.results92, go_sem, j0]) rfl ?_
         rw [← HO.out, if_neg fun h => HNO.out (h c (List.mem_of_getElem? HCD.out))]
         exact retNo w _ HE.out.bel _ rfl
        ·
         have hcgi : ¬ (57 : Int) < (c : Int) := by omega
         have hq1 := part_next D k t c ht1 HCD.out
         have hlt3 := seg_lt D k (t + 1) (by omega) (by rw [HLEN.out]; omega) (by omega) (fun y hy => by
          rw [List.take_add_one, HCD.out] at hy
          rcases List.mem_append.1 hy with hy | hy
          ·
           exact HDT.out y hy
          ·
           have : y = c := by simpa using hy
           subst this; exact ⟨by omega, by omega⟩)
         rw [HQ.out] at hq1
         rw [hq1, show t + 1 - k = (t - k) + 1 by omega, Nat.pow_succ, HTV.out] at hlt3
         obtain ⟨d, hd⟩ : ∃ d, c - 48 = d := ⟨_, rfl⟩
         rw [hd] at hq1 hlt3
         have hdi : (c : Int) - 48 = (d : Int) := by omega
         have hd9 : d ≤ 9 := by omega
         obtain ⟨hq10, ht10⟩ := hlt3
         have hq20 : qv * 10 + d ≤ 1000000000000000000 := by omega
         have HQ1 := Lib.hid hq1
         have HT1 := Lib.hid (show 10 ^ (t + 1 - k) = tv * 10 by rw [show t + 1 - k = (t - k) + 1 by omega, Nat.pow_succ, HTV.out])
         have HD1 := Lib.hid (show ∀ y, y ∈ D.take (t + 1) → isDig y from fun y hy => by
          rw [List.take_add_one, HCD.out] at hy
          rcases List.mem_append.1 hy with hy | hy
          ·
           exact HDT.out y hy
          ·
           have : y = c := by simpa using hy
           subst this; exact ⟨by omega, by omega⟩)
         clear hq1 hq10 hd
         go_wp2_with fail
         go_roundw
         case rel => exact ⟨t + 1, by omega, by omega, by go_num, by rw [HQ1.out]; exact congrArg (Value.int .u64) (by omega), by rw [HT1.out]; exact congrArg (Value.int .u64) (by omega), HD1.out, by trivial⟩
         case measure => simp [intOf]; omega
      ·
       obtain rfl : t = te := by omega
       have HV := Lib.hid (show valD (D.take k) * tv + qv = valD (D.take t) by rw [← HTV.out, ← HQ.out]; exact part_all D k t ht1 (by rw [HLEN.out]; omega))
       have HLW := Lib.hid (show lenW (valD (D.take k)) ≤ 8796093022208 by
        have h1 := valD_words (D.take k) HDG.out
        rw [List.length_take] at h1; omega)
       have HBW := Lib.hid (fun (W : World) (h : NatW W a1 c1 (valD (D.take k))) => HV.out ▸ pbyWord_any a1 c1 (valD (D.take k)) tv qv W h (by unfold W64; omega) (by unfold W64; omega) HLW.out)
       have k1 := HBS.out.cell 1 0 rfl rfl
       have HT := Lib.hid (And.intro hto1 hto2)
       clear hto1 hto2 hto3 ht1 ht2 hlt2 ht18 hq19 HV HQ HTV
       go_wp2_with fail
       refine (HBW.out _ (HBS.out.nat 0 rfl)).mono ?_
       rintro e w6 ⟨a2, c2, rfl, hn6, hb6⟩
       have HB6 := Lib.hid ((HBS.out.call hb6).got hn6)
       clear hn6 hb6 k1
       have ⟨k1, f1⟩ := HB6.out.cf1 1 rfl
       have HB7 := Lib.hid (HB6.out.set 1 0 rfl rfl (fun _ => by simp) (.slice a2 (lenW (valD (D.take t))) c2))
       go_wp2_with fail
       go_roundw
       case rel => exact ⟨t, a2, c2, HT.out.2, rfl, HDT.out, HB7.out.only (List.Sublist.refl _) (fun x hx => by rw [List.mem_singleton.1 hx]; simp)⟩
       case measure => have := HT.out; simp [intOf]; omega
   ·
    obtain rfl : k = s.size := by omega
    have ⟨k0, f0⟩ := HBS.out.cf1 0 rfl
    have k1 := HBS.out.cell 1 0 rfl rfl
    have HE := Lib.hid (HBS.out.set 0 0 rfl rfl (fun _ => by simp) (.slice a1 (lenW (valD (D.take s.size))) c1))
    go_wp2_with fail
    have j0 := HE.out.cell 0 0 rfl rfl
    refine bodyPost_ret (v := .tuple #[.agg #[.slice a1 (lenW (valD (D.take s.size))) c1], .bool true]) (by simp [results, Tryz.results92, go_sem, j0]) rfl ?_
    have hall : D.take s.size = D := List.take_of_length_le (by rw [HLEN.out]; exact Nat.le_refl _)
    have hdg := HDG.out
    have hee := HE.out.nat 0 rfl
    have heb := HE.out.bel
    rw [hall] at hdg hee heb ⊢
    rw [← HO.out, if_pos hdg]
    exact ⟨a1, c1, rfl, hee, heb⟩
theorem read_any (s : ByteArray) (w : World) (hs : s.size ≤ 4398046511104) : Calls Tryz.prog 92 #[.string s] w (RetO (readN (natB s)) w) := by
 rw [readN_eq]
 by_cases h0 : s.size = 0
 ·
  have h1 : natB s = [] := List.eq_nil_of_length_eq_zero (by rw [natB_len]; exact h0)
  have h2 : s = ⟨#[]⟩ := by
   cases s with
   | mk d => cases d with
    | mk l => cases l with
     | nil => rfl
     | cons x l => simp [ByteArray.size] at h0
  rw [if_pos (.inl h1), h2]
  exact read_empty w
 ·
  by_cases hl : 1 < s.size ∧ (natB s).head? = some 48
  ·
   rw [if_pos (.inr ⟨by rw [natB_len]; exact hl.1, hl.2⟩)]
   exact read_lead s w hl.1 hl.2
  ·
   rw [if_neg]
   ·
    exact read_go s w hs (by omega) hl
   ·
    rintro (h | h)
    ·
     have := natB_len s; rw [h] at this; exact h0 this.symm
    ·
     exact hl ⟨by have := h.1; rwa [natB_len] at this, h.2⟩
theorem str_cons (c : Nat) (l : List Nat) : ByteArray.mk #[UInt8.ofNat c] ++ strB l = strB (c :: l) := by
 apply ByteArray.ext
 simp [strB]
theorem str_append (l m : List Nat) : strB l ++ strB m = strB (l ++ m) := by
 apply ByteArray.ext
 simp [strB]
theorem str_size (l : List Nat) : (strB l).size = l.length := by unfold strB; simp [ByteArray.size]
theorem textN_len (n : Nat) : (textN n).length ≤ 20 * lenW n + 1 := by
 unfold textN
 split
 ·
  simp
 ·
  rw [List.length_map, dig_len]
  have : ndig 10 n ≤ 20 * lenW n := by
   refine ndig_lt (by omega) (Nat.lt_of_lt_of_le (lt_lenW n) ?_)
   rw [Nat.pow_mul]
   exact Nat.pow_le_pow_left (by decide) _
  omega
theorem text_any (a : Option Addr) (c n : Nat) (w : World) (ha : NatW w a c n) (hs : lenW n ≤ 1099511627776) : Calls Tryz.prog 84 #[.agg #[.slice a (lenW n) c]] w fun e w' => e = .returned (.string (strB (textN n))) ∧ Below w.heap.size w w' := by
 by_cases h : n = 0
 ·
  subst h; exact text_zero a c w
 ·
  exact text_pos a c n w ha h hs
theorem itext_neg (a : Option Addr) (c m : Nat) (w : World) (ha : NatW w a c m) (hs : lenW m ≤ 1099511627776) : Calls Tryz.prog 83 #[.agg #[.bool true, .slice a (lenW m) c]] w fun e w' => e = .returned (.string (strB (45 :: textN m))) ∧ Below w.heap.size w w' := by
 have HT := Lib.hid (fun (W : World) (h : NatW W a c m) => text_any a c m W h hs)
 have HA := Lib.hid (ha.alloc (.cells #[.bool true, .slice a (lenW m) c] 43))
 have happ : ByteArray.mk #[45] ++ strB (textN m) = strB (45 :: textN m) := str_cons _ _
 have hsz : (strB (textN m)).size ≤ 21990232555521 := by rw [str_size]; have := textN_len m; omega
 obtain ⟨st, hst⟩ : ∃ st, strB (textN m) = st := ⟨_, rfl⟩
 obtain ⟨sr, hsr⟩ : ∃ sr, strB (45 :: textN m) = sr := ⟨_, rfl⟩
 rw [hst] at HT happ hsz 
 rw [hsr] at happ ⊢
 clear ha hs hst hsr
 go_enter Tryz.func83, Tryz.ntmps83
 go_wp2_with fail
 refine (HT.out _ HA.out).mono ?_
 rintro e w1 ⟨rfl, hb⟩
 have HB := Lib.hid (bthen (belowBox w (.cells #[.bool true, .slice a (lenW m) c] 43)) hb)
 clear hb
 go_wp2_with fail
 go_ret
 exact ⟨rfl, HB.out⟩
theorem itext_pos (a : Option Addr) (c m : Nat) (w : World) (ha : NatW w a c m) (hs : lenW m ≤ 1099511627776) : Calls Tryz.prog 83 #[.agg #[.bool false, .slice a (lenW m) c]] w fun e w' => e = .returned (.string (strB (textN m))) ∧ Below w.heap.size w w' := by
 have HT := Lib.hid (fun (W : World) (h : NatW W a c m) => text_any a c m W h hs)
 have HA := Lib.hid (ha.alloc (.cells #[.bool false, .slice a (lenW m) c] 43))
 have happ : ByteArray.mk #[45] ++ strB (textN m) = strB (45 :: textN m) := str_cons _ _
 have hsz : (strB (textN m)).size ≤ 21990232555521 := by rw [str_size]; have := textN_len m; omega
 obtain ⟨st, hst⟩ : ∃ st, strB (textN m) = st := ⟨_, rfl⟩
 obtain ⟨sr, hsr⟩ : ∃ sr, strB (45 :: textN m) = sr := ⟨_, rfl⟩
 rw [hst] at HT happ hsz ⊢
 rw [hsr] at happ 
 clear ha hs hst hsr
 go_enter Tryz.func83, Tryz.ntmps83
 go_wp2_with fail
 refine (HT.out _ HA.out).mono ?_
 rintro e w1 ⟨rfl, hb⟩
 have HB := Lib.hid (bthen (belowBox w (.cells #[.bool false, .slice a (lenW m) c] 43)) hb)
 clear hb
 go_wp2_with fail
 go_ret
 exact ⟨rfl, HB.out⟩
theorem itext_any (z : Int) (a : Option Addr) (c : Nat) (w : World) (ha : NatW w a c z.natAbs) (hs : lenW z.natAbs ≤ 1099511627776) : Calls Tryz.prog 83 #[.agg #[.bool (decide (z < 0)), .slice a (lenW z.natAbs) c]] w fun e w' => e = .returned (.string (strB (textZ z))) ∧ Below w.heap.size w w' := by
 unfold textZ
 by_cases h : z < 0
 ·
  rw [if_pos h, decide_eq_true h]; exact itext_neg a c _ w ha hs
 ·
  rw [if_neg h, decide_eq_false h]; exact itext_pos a c _ w ha hs
def RetIB (z : Int) (ok : Bool) (w : World) (e : Ending) (w' : World) : Prop := ∃ a c, e = .returned (.tuple #[.agg #[.bool (decide (z < 0)), .slice a (lenW z.natAbs) c], .bool ok]) ∧ NatW w' a c z.natAbs ∧ Below w.heap.size w w'
theorem retINo (w W : World) (hb : Below w.heap.size w W) (e : Ending) (he : e = .returned (.tuple #[.agg #[.bool false, .slice none 0 0], .bool false])) : RetIB 0 false w e W := ⟨none, 0, by rw [show (0 : Int).natAbs = 0 from rfl, lenW_zero]; exact he, NatW.zero _, hb⟩
def RetZO (o : Option Int) (w : World) (e : Ending) (w' : World) : Prop := match o with
 | none => RetIB 0 false w e w'
 | some z => RetIB z true w e w'
theorem natB_tail (s : ByteArray) : natB (s.extract 1 s.size) = (natB s).tail := by
 unfold natB
 rw [ByteArray.data_extract, Array.toList_extract]
 have h1 : s.size = s.data.toList.length := (Array.length_toList ..).symm
 rw [h1]
 cases s.data.toList with
 | nil => rfl
 | cons x l => simp [List.extract]
theorem iread_empty (w : World) : Calls Tryz.prog 90 #[.string ⟨#[]⟩] w (RetIB 0 false w) := by
 have HR := Lib.hid (fun W => read_empty W)
 obtain ⟨n, hn⟩ : ∃ n, 0 = n := ⟨_, rfl⟩
 rw [hn] at HR
 clear hn
 obtain ⟨w1, hw1⟩ : ∃ w1, w.alloc (.cells #[.bool false, .slice none 0 0] 43) = w1 := ⟨_, rfl⟩
 have HW1 := Lib.hid hw1
 have HB1 := Lib.hid (show BS w [⟨w.heap.size, 43, [.bool false, .slice none 0 0]⟩] [] w1 from hw1 ▸ ((BS.start w).alloc (p := w.heap.size) rfl 43 [.bool false, .slice none 0 0] rfl))
 clear hw1
 go_enter Tryz.func90, Tryz.ntmps90
 go_upto_region 1 with fail
 (try simp only [HW1.out])
 go_wp2_with fail
 refine (HR.out w1).mono ?_
 rintro e w2 hret
 obtain ⟨a2, c2, rfl, hn2, hb2⟩ := hret
 have HN2 := Lib.hid (((HB1.out.call hb2).got hn2).alloc (p := w2.heap.size) rfl 41 [.slice a2 (lenW n) c2] rfl)
 clear hn2 hb2
 have k0 := HN2.out.cell 0 0 rfl rfl
 have k1 := HN2.out.cell 0 1 rfl rfl
 have f0 := HN2.out.free 0 0 rfl
 have f1 := HN2.out.free 0 1 rfl
 have k2 := HN2.out.cell 1 0 rfl rfl
 have HE := Lib.hid ((HN2.out.set 0 0 rfl rfl (fun _ => by simp) (.bool false)).set 0 1 rfl rfl (fun _ => by simp) (.slice none 0 0))
 go_wp2_with fail
 have j0 := HE.out.cell 0 0 rfl rfl
 have j1 := HE.out.cell 0 1 rfl rfl
 refine bodyPost_ret (v := .tuple #[.agg #[.bool false, .slice none 0 0], .bool false]) (by simp [results, Tryz.results90, go_sem, j0, j1]) rfl ?_
 exact retINo w _ HE.out.bel _ rfl
theorem iread_p0 (s : ByteArray) (w : World) (hs : s.size ≤ 4398046511104) (hp : 0 < s.size) (h45 : (natB s).head? ≠ some 45) (ho : readN (natB s) = none) : Calls Tryz.prog 90 #[.string s] w (RetIB 0 false w) := by
 have he := nonempty_list s hp
 obtain ⟨x, hx⟩ : ∃ x, s[0].toNat = x := ⟨_, rfl⟩
 have hh : (natB s).head? = some x := by rw [List.head?_eq_getElem?, natB_at s 0 hp, hx]
 rw [hh] at h45
 have hx45 : ((x : Int) == 45) = false := beq_eq_false_iff_ne.2 fun e => h45 (by rw [show x = 45 by omega])
 have HR := Lib.hid (fun W => show Calls Tryz.prog 92 #[.string (s)] W (RetNB 0 false W) from by have := read_any (s) W (by exact hs); rw [ho] at this; exact this)
 obtain ⟨n, hn⟩ : ∃ n, 0 = n := ⟨_, rfl⟩
 rw [hn] at HR
 clear hn
 clear ho h45 hh hs
 obtain ⟨w1, hw1⟩ : ∃ w1, w.alloc (.cells #[.bool false, .slice none 0 0] 43) = w1 := ⟨_, rfl⟩
 have HW1 := Lib.hid hw1
 have HB1 := Lib.hid (show BS w [⟨w.heap.size, 43, [.bool false, .slice none 0 0]⟩] [] w1 from hw1 ▸ ((BS.start w).alloc (p := w.heap.size) rfl 43 [.bool false, .slice none 0 0] rfl))
 clear hw1
 go_enter Tryz.func90, Tryz.ntmps90
 go_upto_region 1 with fail
 (try simp only [HW1.out])
 go_wp2_with fail
 refine (HR.out w1).mono ?_
 rintro e w2 hret
 obtain ⟨a2, c2, rfl, hn2, hb2⟩ := hret
 have HN2 := Lib.hid (((HB1.out.call hb2).got hn2).alloc (p := w2.heap.size) rfl 41 [.slice a2 (lenW n) c2] rfl)
 clear hn2 hb2
 have k0 := HN2.out.cell 0 0 rfl rfl
 have k1 := HN2.out.cell 0 1 rfl rfl
 have f0 := HN2.out.free 0 0 rfl
 have f1 := HN2.out.free 0 1 rfl
 have k2 := HN2.out.cell 1 0 rfl rfl
 have HE := Lib.hid ((HN2.out.set 0 0 rfl rfl (fun _ => by simp) (.bool false)).set 0 1 rfl rfl (fun _ => by simp) (.slice none 0 0))
 go_wp2_with fail
 have j0 := HE.out.cell 0 0 rfl rfl
 have j1 := HE.out.cell 0 1 rfl rfl
 refine bodyPost_ret (v := .tuple #[.agg #[.bool false, .slice none 0 0], .bool false]) (by simp [results, Tryz.results90, go_sem, j0, j1]) rfl ?_
 exact retINo w _ HE.out.bel _ rfl
theorem iread_p1 (s : ByteArray) (w : World) (hs : s.size ≤ 4398046511104) (hp : 0 < s.size) (h45 : (natB s).head? ≠ some 45) (n : Nat) (ho : readN (natB s) = some n) : Calls Tryz.prog 90 #[.string s] w (RetIB (n : Int) true w) := by
 have he := nonempty_list s hp
 obtain ⟨x, hx⟩ : ∃ x, s[0].toNat = x := ⟨_, rfl⟩
 have hh : (natB s).head? = some x := by rw [List.head?_eq_getElem?, natB_at s 0 hp, hx]
 rw [hh] at h45
 have hx45 : ((x : Int) == 45) = false := beq_eq_false_iff_ne.2 fun e => h45 (by rw [show x = 45 by omega])
 have HR := Lib.hid (fun W => show Calls Tryz.prog 92 #[.string (s)] W (RetNB n true W) from by have := read_any (s) W (by exact hs); rw [ho] at this; exact this)
 have HI := Lib.hid (fun (a2 : Option Addr) (c2 : Nat) (W : World) (h : NatW W a2 c2 n) => newI_false n ▸ inew_any false a2 c2 n W h)
 obtain ⟨z, hz⟩ : ∃ z, (n : Int) = z := ⟨_, rfl⟩
 rw [hz] at HI ⊢
 unfold RetI at HI
 clear hz
 clear ho h45 hh hs
 obtain ⟨w1, hw1⟩ : ∃ w1, w.alloc (.cells #[.bool false, .slice none 0 0] 43) = w1 := ⟨_, rfl⟩
 have HW1 := Lib.hid hw1
 have HB1 := Lib.hid (show BS w [⟨w.heap.size, 43, [.bool false, .slice none 0 0]⟩] [] w1 from hw1 ▸ ((BS.start w).alloc (p := w.heap.size) rfl 43 [.bool false, .slice none 0 0] rfl))
 clear hw1
 go_enter Tryz.func90, Tryz.ntmps90
 go_upto_region 1 with fail
 (try simp only [HW1.out])
 go_wp2_with fail
 refine (HR.out w1).mono ?_
 rintro e w2 hret
 obtain ⟨a2, c2, rfl, hn2, hb2⟩ := hret
 have HN2 := Lib.hid (((HB1.out.call hb2).got hn2).alloc (p := w2.heap.size) rfl 41 [.slice a2 (lenW n) c2] rfl)
 clear hn2 hb2
 have k0 := HN2.out.cell 0 0 rfl rfl
 have k1 := HN2.out.cell 0 1 rfl rfl
 have f0 := HN2.out.free 0 0 rfl
 have f1 := HN2.out.free 0 1 rfl
 have k2 := HN2.out.cell 1 0 rfl rfl
 go_wp2_with fail
 refine (HI.out a2 c2 _ (HN2.out.nat 0 rfl)).mono ?_
 rintro e w4 ⟨a4, c4, rfl, hn4, hb4⟩
 have HN4 := Lib.hid ((HN2.out.call hb4).got hn4)
 clear hn4 hb4 k2
 clear k0 k1 f0 f1
 have k0 := HN4.out.cell 0 0 rfl rfl
 have k1 := HN4.out.cell 0 1 rfl rfl
 have f0 := HN4.out.free 0 0 rfl
 have f1 := HN4.out.free 0 1 rfl
 have HE := Lib.hid ((HN4.out.set 0 0 rfl rfl (fun _ => by simp) (.bool (decide (z < 0)))).set 0 1 rfl rfl (fun _ => by simp) (.slice a4 (lenW z.natAbs) c4))
 go_wp2_with fail
 have j0 := HE.out.cell 0 0 rfl rfl
 have j1 := HE.out.cell 0 1 rfl rfl
 refine bodyPost_ret (v := .tuple #[.agg #[.bool (decide (z < 0)), .slice a4 (lenW z.natAbs) c4], .bool true]) (by simp [results, Tryz.results90, go_sem, j0, j1]) rfl ?_
 exact ⟨a4, c4, rfl, HE.out.nat 1 rfl, HE.out.bel⟩
theorem iread_n0 (s : ByteArray) (w : World) (hs : s.size ≤ 4398046511104) (hp : 0 < s.size) (h45 : (natB s).head? = some 45) (ho : readN (natB s).tail = none) : Calls Tryz.prog 90 #[.string s] w (RetIB 0 false w) := by
 have he := nonempty_list s hp
 obtain ⟨x, hx⟩ : ∃ x, s[0].toNat = x := ⟨_, rfl⟩
 have hh : (natB s).head? = some x := by rw [List.head?_eq_getElem?, natB_at s 0 hp, hx]
 rw [hh] at h45
 have hx45 : ((x : Int) == 45) = true := by rw [show x = 45 from Option.some.inj h45]; rfl
 have hp1 : (1 : Int) ≤ (s.size : Int) := by omega
 have HR := Lib.hid (fun W => show Calls Tryz.prog 92 #[.string (s.extract 1 s.size)] W (RetNB 0 false W) from by have := read_any (s.extract 1 s.size) W (by rw [ByteArray.size_extract]; omega); rw [natB_tail, ho] at this; exact this)
 obtain ⟨n, hn⟩ : ∃ n, 0 = n := ⟨_, rfl⟩
 rw [hn] at HR
 clear hn
 clear ho h45 hh hs
 obtain ⟨w1, hw1⟩ : ∃ w1, w.alloc (.cells #[.bool false, .slice none 0 0] 43) = w1 := ⟨_, rfl⟩
 have HW1 := Lib.hid hw1
 have HB1 := Lib.hid (show BS w [⟨w.heap.size, 43, [.bool false, .slice none 0 0]⟩] [] w1 from hw1 ▸ ((BS.start w).alloc (p := w.heap.size) rfl 43 [.bool false, .slice none 0 0] rfl))
 clear hw1
 go_enter Tryz.func90, Tryz.ntmps90
 go_upto_region 1 with fail
 (try simp only [HW1.out])
 go_wp2_with fail
 refine (HR.out w1).mono ?_
 rintro e w2 hret
 obtain ⟨a2, c2, rfl, hn2, hb2⟩ := hret
 have HN2 := Lib.hid (((HB1.out.call hb2).got hn2).alloc (p := w2.heap.size) rfl 41 [.slice a2 (lenW n) c2] rfl)
 clear hn2 hb2
 have k0 := HN2.out.cell 0 0 rfl rfl
 have k1 := HN2.out.cell 0 1 rfl rfl
 have f0 := HN2.out.free 0 0 rfl
 have f1 := HN2.out.free 0 1 rfl
 have k2 := HN2.out.cell 1 0 rfl rfl
 have HE := Lib.hid ((HN2.out.set 0 0 rfl rfl (fun _ => by simp) (.bool false)).set 0 1 rfl rfl (fun _ => by simp) (.slice none 0 0))
 go_wp2_with fail
 have j0 := HE.out.cell 0 0 rfl rfl
 have j1 := HE.out.cell 0 1 rfl rfl
 refine bodyPost_ret (v := .tuple #[.agg #[.bool false, .slice none 0 0], .bool false]) (by simp [results, Tryz.results90, go_sem, j0, j1]) rfl ?_
 exact retINo w _ HE.out.bel _ rfl
theorem iread_nz (s : ByteArray) (w : World) (hs : s.size ≤ 4398046511104) (hp : 0 < s.size) (h45 : (natB s).head? = some 45) (ho : readN (natB s).tail = some 0) : Calls Tryz.prog 90 #[.string s] w (RetIB 0 false w) := by
 have he := nonempty_list s hp
 obtain ⟨x, hx⟩ : ∃ x, s[0].toNat = x := ⟨_, rfl⟩
 have hh : (natB s).head? = some x := by rw [List.head?_eq_getElem?, natB_at s 0 hp, hx]
 rw [hh] at h45
 have hx45 : ((x : Int) == 45) = true := by rw [show x = 45 from Option.some.inj h45]; rfl
 have hp1 : (1 : Int) ≤ (s.size : Int) := by omega
 have HR := Lib.hid (fun W => show Calls Tryz.prog 92 #[.string (s.extract 1 s.size)] W (RetNB 0 true W) from by have := read_any (s.extract 1 s.size) W (by rw [ByteArray.size_extract]; omega); rw [natB_tail, ho] at this; exact this)
 have HZ := Lib.hid (fun (a2 : Option Addr) (c2 : Nat) (W : World) => nzero_is a2 c2 0 W rfl)
 obtain ⟨n, hn⟩ : ∃ n, 0 = n := ⟨_, rfl⟩
 rw [hn] at HR
 rw [hn] at HZ
 clear hn
 clear ho h45 hh hs
 obtain ⟨w1, hw1⟩ : ∃ w1, w.alloc (.cells #[.bool false, .slice none 0 0] 43) = w1 := ⟨_, rfl⟩
 have HW1 := Lib.hid hw1
 have HB1 := Lib.hid (show BS w [⟨w.heap.size, 43, [.bool false, .slice none 0 0]⟩] [] w1 from hw1 ▸ ((BS.start w).alloc (p := w.heap.size) rfl 43 [.bool false, .slice none 0 0] rfl))
 clear hw1
 go_enter Tryz.func90, Tryz.ntmps90
 go_upto_region 1 with fail
 (try simp only [HW1.out])
 go_wp2_with fail
 refine (HR.out w1).mono ?_
 rintro e w2 hret
 obtain ⟨a2, c2, rfl, hn2, hb2⟩ := hret
 have HN2 := Lib.hid (((HB1.out.call hb2).got hn2).alloc (p := w2.heap.size) rfl 41 [.slice a2 (lenW n) c2] rfl)
 clear hn2 hb2
 have k0 := HN2.out.cell 0 0 rfl rfl
 have k1 := HN2.out.cell 0 1 rfl rfl
 have f0 := HN2.out.free 0 0 rfl
 have f1 := HN2.out.free 0 1 rfl
 have k2 := HN2.out.cell 1 0 rfl rfl
 go_wp2_with fail
 refine (HZ.out a2 c2 _).mono ?_
 rintro e w3 ⟨rfl, hb3⟩
 replace HN2 := Lib.hid (HN2.out.call hb3)
 clear hb3 k0 k1 f0 f1 k2
 have k0 := HN2.out.cell 0 0 rfl rfl
 have k1 := HN2.out.cell 0 1 rfl rfl
 have f0 := HN2.out.free 0 0 rfl
 have f1 := HN2.out.free 0 1 rfl
 have HE := Lib.hid ((HN2.out.set 0 0 rfl rfl (fun _ => by simp) (.bool false)).set 0 1 rfl rfl (fun _ => by simp) (.slice none 0 0))
 go_wp2_with fail
 have j0 := HE.out.cell 0 0 rfl rfl
 have j1 := HE.out.cell 0 1 rfl rfl
 refine bodyPost_ret (v := .tuple #[.agg #[.bool false, .slice none 0 0], .bool false]) (by simp [results, Tryz.results90, go_sem, j0, j1]) rfl ?_
 exact retINo w _ HE.out.bel _ rfl
theorem iread_n1 (s : ByteArray) (w : World) (hs : s.size ≤ 4398046511104) (hp : 0 < s.size) (h45 : (natB s).head? = some 45) (n : Nat) (h0 : n ≠ 0) (ho : readN (natB s).tail = some n) : Calls Tryz.prog 90 #[.string s] w (RetIB (-(n : Int)) true w) := by
 have he := nonempty_list s hp
 obtain ⟨x, hx⟩ : ∃ x, s[0].toNat = x := ⟨_, rfl⟩
 have hh : (natB s).head? = some x := by rw [List.head?_eq_getElem?, natB_at s 0 hp, hx]
 rw [hh] at h45
 have hx45 : ((x : Int) == 45) = true := by rw [show x = 45 from Option.some.inj h45]; rfl
 have hp1 : (1 : Int) ≤ (s.size : Int) := by omega
 have HR := Lib.hid (fun W => show Calls Tryz.prog 92 #[.string (s.extract 1 s.size)] W (RetNB n true W) from by have := read_any (s.extract 1 s.size) W (by rw [ByteArray.size_extract]; omega); rw [natB_tail, ho] at this; exact this)
 have HZ := Lib.hid (fun (a2 : Option Addr) (c2 : Nat) (W : World) => nzero_no a2 c2 n W h0)
 have HI := Lib.hid (fun (a2 : Option Addr) (c2 : Nat) (W : World) (h : NatW W a2 c2 n) => newI_true n ▸ inew_any true a2 c2 n W h)
 obtain ⟨z, hz⟩ : ∃ z, -(n : Int) = z := ⟨_, rfl⟩
 rw [hz] at HI ⊢
 unfold RetI at HI
 clear hz
 clear ho h45 h0 hh hs
 obtain ⟨w1, hw1⟩ : ∃ w1, w.alloc (.cells #[.bool false, .slice none 0 0] 43) = w1 := ⟨_, rfl⟩
 have HW1 := Lib.hid hw1
 have HB1 := Lib.hid (show BS w [⟨w.heap.size, 43, [.bool false, .slice none 0 0]⟩] [] w1 from hw1 ▸ ((BS.start w).alloc (p := w.heap.size) rfl 43 [.bool false, .slice none 0 0] rfl))
 clear hw1
 go_enter Tryz.func90, Tryz.ntmps90
 go_upto_region 1 with fail
 (try simp only [HW1.out])
 go_wp2_with fail
 refine (HR.out w1).mono ?_
 rintro e w2 hret
 obtain ⟨a2, c2, rfl, hn2, hb2⟩ := hret
 have HN2 := Lib.hid (((HB1.out.call hb2).got hn2).alloc (p := w2.heap.size) rfl 41 [.slice a2 (lenW n) c2] rfl)
 clear hn2 hb2
 have k0 := HN2.out.cell 0 0 rfl rfl
 have k1 := HN2.out.cell 0 1 rfl rfl
 have f0 := HN2.out.free 0 0 rfl
 have f1 := HN2.out.free 0 1 rfl
 have k2 := HN2.out.cell 1 0 rfl rfl
 go_wp2_with fail
 refine (HZ.out a2 c2 _).mono ?_
 rintro e w3 ⟨rfl, hb3⟩
 replace HN2 := Lib.hid (HN2.out.call hb3)
 clear hb3 k0 k1 f0 f1 k2
 have k2 := HN2.out.cell 1 0 rfl rfl
 go_wp2_with fail
 refine (HI.out a2 c2 _ (HN2.out.nat 0 rfl)).mono ?_
 rintro e w4 ⟨a4, c4, rfl, hn4, hb4⟩
 have HN4 := Lib.hid ((HN2.out.call hb4).got hn4)
 clear hn4 hb4 k2
 have k0 := HN4.out.cell 0 0 rfl rfl
 have k1 := HN4.out.cell 0 1 rfl rfl
 have f0 := HN4.out.free 0 0 rfl
 have f1 := HN4.out.free 0 1 rfl
 have HE := Lib.hid ((HN4.out.set 0 0 rfl rfl (fun _ => by simp) (.bool (decide (z < 0)))).set 0 1 rfl rfl (fun _ => by simp) (.slice a4 (lenW z.natAbs) c4))
 go_wp2_with fail
 have j0 := HE.out.cell 0 0 rfl rfl
 have j1 := HE.out.cell 0 1 rfl rfl
 refine bodyPost_ret (v := .tuple #[.agg #[.bool (decide (z < 0)), .slice a4 (lenW z.natAbs) c4], .bool true]) (by simp [results, Tryz.results90, go_sem, j0, j1]) rfl ?_
 exact ⟨a4, c4, rfl, HE.out.nat 1 rfl, HE.out.bel⟩
theorem iread_any (s : ByteArray) (w : World) (hs : s.size ≤ 4398046511104) : Calls Tryz.prog 90 #[.string s] w (RetZO (readZ (natB s)) w) := by
 unfold readZ
 by_cases hp : s.size = 0
 ·
  have h1 : natB s = [] := List.eq_nil_of_length_eq_zero (by rw [natB_len]; exact hp)
  have h2 : s = ⟨#[]⟩ := by
   cases s with
   | mk d => cases d with
    | mk l => cases l with
     | nil => rfl
     | cons x l => simp [ByteArray.size] at hp
  rw [h1, h2]
  exact iread_empty w
 ·
  have hp : 0 < s.size := by omega
  by_cases h45 : (natB s).head? = some 45
  ·
   rw [if_pos h45]
   cases ho : readN (natB s).tail with
   | none => exact iread_n0 s w hs hp h45 ho
   | some n =>
    by_cases h0 : n = 0
    ·
     subst h0; exact iread_nz s w hs hp h45 ho
    ·
     simp only
     rw [if_neg h0]
     exact iread_n1 s w hs hp h45 n h0 ho
  ·
   rw [if_neg h45]
   cases ho : readN (natB s) with
   | none => exact iread_p0 s w hs hp h45 ho
   | some n => exact iread_p1 s w hs hp h45 n ho
end Go.Proofs.YtmhainidincjhaaGreatDoor
namespace Go.Proofs.YtmhainidincjhaaGreatDoor
open Go.RowKit Go.Extern.Stop Go.Stop Go.Extern
theorem rtext_int (sg : Bool) (a b : Option Addr) (c d lm ld m dn : Nat) (st : ByteArray) (w : World) (hm : NatW w a c m) (hd : NatW w b d dn)
  (HNUM : Hid (∀ W, Calls Tryz.prog 45 #[.agg #[.bool sg, .slice a lm c, .slice b ld d]] W fun e w' => e = .returned (.agg #[.bool sg, .slice a lm c]) ∧ Below W.heap.size W w'))
  (HIT : Hid (∀ W, NatW W a c m → Calls Tryz.prog 83 #[.agg #[.bool sg, .slice a lm c]] W fun e w' => e = .returned (.string st) ∧ Below W.heap.size W w'))
  (HIS : Hid (∀ W, Calls Tryz.prog 49 #[.agg #[.bool sg, .slice a lm c, .slice b ld d]] W fun e w' => e = .returned (.bool true) ∧ Below W.heap.size W w')) :
  Calls Tryz.prog 31 #[.agg #[.bool sg, .slice a lm c, .slice b ld d]] w fun e w' => e = .returned (.string st) ∧ Below w.heap.size w w' := by
 obtain ⟨W0, hW0⟩ : ∃ W0, W0 = (w.alloc (.cells #[.bool sg, .slice a lm c, .slice b ld d] 45)) := ⟨_, rfl⟩
 have hbs : BS w [⟨w.heap.size, 45, [.bool sg, .slice a lm c, .slice b ld d]⟩] [⟨a, c, m⟩, ⟨b, d, dn⟩] (w.alloc (.cells #[.bool sg, .slice a lm c, .slice b ld d] 45)) :=
   ((BS.begin [⟨a, c, m⟩, ⟨b, d, dn⟩] (fun y hy => by
    rcases List.mem_cons.1 hy with rfl | hy
    ·
     exact hm
    rw [List.mem_singleton.1 hy]; exact hd)).alloc (p := w.heap.size) rfl 45 [.bool sg, .slice a lm c, .slice b ld d] rfl)
 rw [← hW0] at hbs
 have HW0 := Lib.hid hW0
 have HN := Lib.hid hbs
 clear hW0 hbs
 clear hm hd
 go_enter Tryz.func31, Tryz.ntmps31
 go_wp2_with fail
 rw [← HW0.out]
 refine (HIS.out _).mono ?_
 rintro e w1 ⟨rfl, hb⟩
 replace HN := Lib.hid (HN.out.call hb)
 clear hb 
 have ⟨k00, f00, k01, f01, k02, f02⟩ := HN.out.cf3 0 rfl
 go_wp2_with fail
 clear k00 f00 k01 f01 k02 f02
 refine (HNUM.out _).mono ?_
 rintro e w2 ⟨rfl, hb⟩
 replace HN := Lib.hid (HN.out.call hb)
 clear hb 
 have ⟨k00, f00, k01, f01, k02, f02⟩ := HN.out.cf3 0 rfl
 go_wp2_with fail
 clear k00 f00 k01 f01 k02 f02
 refine (HIT.out _ (HN.out.nat 0 rfl)).mono ?_
 rintro e w3 ⟨rfl, hb⟩
 replace HN := Lib.hid (HN.out.call hb)
 clear hb 
 have ⟨k00, f00, k01, f01, k02, f02⟩ := HN.out.cf3 0 rfl
 have HE := Lib.hid (HN.out)
 go_wp2_with fail
 refine bodyPost_ret (v := .string st) (by simp [results, Tryz.results31, go_sem, k00, k01, k02]) rfl ?_
 exact ⟨rfl, HE.out.bel⟩
theorem rtext_frac (sg : Bool) (a b : Option Addr) (c d lm ld m dn q : Nat) (st sd : ByteArray) (hst : st.size ≤ 21990232555522) (hst2 : (st ++ ByteArray.mk #[47]).size ≤ 21990232555523) (hsd : sd.size ≤ 21990232555522) (w : World) (hm : NatW w a c m) (hd : NatW w b d dn)
  (HNUM : Hid (∀ W, Calls Tryz.prog 45 #[.agg #[.bool sg, .slice a lm c, .slice b ld d]] W fun e w' => e = .returned (.agg #[.bool sg, .slice a lm c]) ∧ Below W.heap.size W w'))
  (HIT : Hid (∀ W, NatW W a c m → Calls Tryz.prog 83 #[.agg #[.bool sg, .slice a lm c]] W fun e w' => e = .returned (.string st) ∧ Below W.heap.size W w'))
  (HIS : Hid (∀ W, Calls Tryz.prog 49 #[.agg #[.bool sg, .slice a lm c, .slice b ld d]] W fun e w' => e = .returned (.bool false) ∧ Below W.heap.size W w'))
  (HDEN : Hid (∀ W, NatW W b d dn → Calls Tryz.prog 48 #[.agg #[.bool sg, .slice a lm c, .slice b ld d]] W (RetN q W)))
  (HDT : Hid (∀ a c W, NatW W a c q → Calls Tryz.prog 84 #[.agg #[.slice a (lenW q) c]] W fun e w' => e = .returned (.string sd) ∧ Below W.heap.size W w')) :
  Calls Tryz.prog 31 #[.agg #[.bool sg, .slice a lm c, .slice b ld d]] w fun e w' => e = .returned (.string (st ++ ByteArray.mk #[47] ++ sd)) ∧ Below w.heap.size w w' := by
 have hc1 : ¬ (9223372036854775807 < st.size + 1) := by omega
 have hc2 : ¬ (9223372036854775807 < (st ++ ByteArray.mk #[47]).size + sd.size) := by omega
 have hc3 : ¬ (9223372036854775807 < st.size + 1 + sd.size) := by omega
 clear hst hst2 hsd
 obtain ⟨W0, hW0⟩ : ∃ W0, W0 = (w.alloc (.cells #[.bool sg, .slice a lm c, .slice b ld d] 45)) := ⟨_, rfl⟩
 have hbs : BS w [⟨w.heap.size, 45, [.bool sg, .slice a lm c, .slice b ld d]⟩] [⟨a, c, m⟩, ⟨b, d, dn⟩] (w.alloc (.cells #[.bool sg, .slice a lm c, .slice b ld d] 45)) :=
   ((BS.begin [⟨a, c, m⟩, ⟨b, d, dn⟩] (fun y hy => by
    rcases List.mem_cons.1 hy with rfl | hy
    ·
     exact hm
    rw [List.mem_singleton.1 hy]; exact hd)).alloc (p := w.heap.size) rfl 45 [.bool sg, .slice a lm c, .slice b ld d] rfl)
 rw [← hW0] at hbs
 have HW0 := Lib.hid hW0
 have HN := Lib.hid hbs
 clear hW0 hbs
 clear hm hd
 go_enter Tryz.func31, Tryz.ntmps31
 go_wp2_with fail
 rw [← HW0.out]
 refine (HIS.out _).mono ?_
 rintro e w1 ⟨rfl, hb⟩
 replace HN := Lib.hid (HN.out.call hb)
 clear hb 
 have ⟨k00, f00, k01, f01, k02, f02⟩ := HN.out.cf3 0 rfl
 go_upto_region 3 with fail
 clear k00 f00 k01 f01 k02 f02
 go_cut [2] (fun v2 wx => v2 = .string (st ++ ByteArray.mk #[47] ++ sd) ∧ Below w.heap.size w wx)
 case first =>
  replace HN := Lib.hid HN.out.drew
  refine wp_region_held_drew (S := fun W => W.cell? ⟨w.heap.size, 0, none⟩ = some (.bool sg) ∧ W.cell? ⟨w.heap.size, 1, none⟩ = some (.slice a lm c) ∧ W.cell? ⟨w.heap.size, 2, none⟩ = some (.slice b ld d)) (by kernel_rfl) (⟨HN.out.cell 0 0 rfl rfl, HN.out.cell 0 1 rfl rfl, HN.out.cell 0 2 rfl rfl⟩) (fun hHeld => ?_)
  generalize w1.drew = wd at HN hHeld ⊢
  refine tk 0 (some 8) (v := ?_) rfl rfl ?_ ?_
  rotate_left
  ·
   (intro w hSw; (try dsimp only at hSw); go_simp; (try with_reducible rfl))
  simp only [Act.put, stB, stZ, stS]
  refine tk 4 (some 12) (v := ?_) rfl rfl ?_ ?_
  rotate_left
  ·
   (intro w hSw; (try dsimp only at hSw); go_simp; (try with_reducible rfl))
  simp only [Act.put, stB, stZ, stS]
  refine wpAnyH_ready (rs := [1]) (by kernel_rfl) (by simp) ?_
  refine (AllReadyH.cons rfl (fun K hK => ?_) AllReadyH.nil)
  go_simp
  refine (HNUM.out _).mono ?_
  rintro e w2 ⟨rfl, hb⟩
  replace HN := Lib.hid (HN.out.call hb)
  clear hb 
  go_wp2_with fail
  refine hK.out _ _ (⟨HN.out.cell 0 0 rfl rfl, HN.out.cell 0 1 rfl rfl, HN.out.cell 0 2 rfl rfl⟩) (fun hHeld2 => ?_)
  clear hK K hHeld
  rename _ => hHeld
  try simp only [Act.put, stB, stZ, stS]
  refine wpAnyH_ready (rs := [2]) (by kernel_rfl) (by simp) ?_
  refine (AllReadyH.cons rfl (fun K hK => ?_) AllReadyH.nil)
  go_simp
  refine (HIT.out _ (HN.out.nat 0 rfl)).mono ?_
  rintro e w3 ⟨rfl, hb⟩
  replace HN := Lib.hid (HN.out.call hb)
  clear hb 
  go_wp2_with fail
  refine hK.out _ _ (⟨HN.out.cell 0 0 rfl rfl, HN.out.cell 0 1 rfl rfl, HN.out.cell 0 2 rfl rfl⟩) (fun hHeld2 => ?_)
  clear hK K hHeld
  rename _ => hHeld
  try simp only [Act.put, stB, stZ, stS]
  refine tk 3 (some 11) (v := ?_) rfl rfl ?_ ?_
  rotate_left
  ·
   (intro w _; go_simp; (try with_reducible rfl))
  simp only [Act.put, stB, stZ, stS]
  refine wpAnyH_ready (rs := [5]) (by kernel_rfl) (by simp) ?_
  refine (AllReadyH.cons rfl (fun K hK => ?_) AllReadyH.nil)
  go_simp
  refine (HDEN.out _ (HN.out.nat 1 rfl)).mono ?_
  rintro e w4 ⟨a4, c4, rfl, hq0, hb⟩
  replace HN := Lib.hid ((HN.out.call hb).got hq0)
  clear hb hq0
  go_wp2_with fail
  refine hK.out _ _ (⟨HN.out.cell 0 0 rfl rfl, HN.out.cell 0 1 rfl rfl, HN.out.cell 0 2 rfl rfl⟩) (fun hHeld2 => ?_)
  clear hK K hHeld
  rename _ => hHeld
  try simp only [Act.put, stB, stZ, stS]
  refine wpAnyH_ready (rs := [6]) (by kernel_rfl) (by simp) ?_
  refine (AllReadyH.cons rfl (fun K hK => ?_) AllReadyH.nil)
  go_simp
  refine (HDT.out a4 c4 _ (HN.out.nat 2 rfl)).mono ?_
  rintro e w5 ⟨rfl, hb⟩
  replace HN := Lib.hid (HN.out.call hb)
  clear hb 
  go_wp2_with fail
  refine hK.out _ _ (⟨HN.out.cell 0 0 rfl rfl, HN.out.cell 0 1 rfl rfl, HN.out.cell 0 2 rfl rfl⟩) (fun hHeld2 => ?_)
  clear hK K hHeld
  rename _ => hHeld
  try simp only [Act.put, stB, stZ, stS]
  refine tk 7 (some 15) (v := ?_) rfl rfl ?_ ?_
  rotate_left
  ·
   (intro w _; go_simp; (try with_reducible rfl))
  simp only [Act.put, stB, stZ, stS]
  refine tk 8 (some 2) (v := ?_) rfl rfl ?_ ?_
  rotate_left
  ·
   (intro w _; go_simp; (try with_reducible rfl))
  simp only [Act.put, stB, stZ, stS]
  refine wpAnyH_done (by kernel_rfl) ?_ _
  go_wp2_with fail
  go_meet
  exact ⟨rfl, HN.out.bel⟩
 case rest =>
  obtain ⟨rfl, hb⟩ := hcut
  have HB := Lib.hid hb
  clear hb
  go_wp2_with fail
  go_ret
  exact ⟨rfl, HB.out⟩
theorem rtext_any (a b : Option Addr) (c d : Nat) (q : Rat) (w : World) (ha : NatW w a c q.num.natAbs) (hb : NatW w b d (denN q.den)) (hs : lenW q.num.natAbs ≤ 1099511627776) (hs2 : lenW q.den ≤ 1099511627776) :
  Calls Tryz.prog 31 #[ratV a c b d q] w fun e w' => e = .returned (.string (strB (textR q))) ∧ Below w.heap.size w w' := by
 have hN := fun (W : World) => num_any a b c d q W
 have hI := fun (W : World) (h : NatW W a c q.num.natAbs) => itext_any q.num a c W h hs
 have hS := fun (W : World) => isint_any a b c d q W
 have hD := fun (W : World) (h : NatW W b d (denN q.den)) => den_any (decide (q.num < 0)) a b (lenW q.num.natAbs) c d q W h
 unfold ratV at hN hS ⊢
 unfold textR
 by_cases h1 : q.den = 1
 ·
  rw [if_pos h1]
  rw [decide_eq_true h1] at hS
  exact rtext_int _ a b c d _ _ _ _ _ w ha hb (Lib.hid hN) (Lib.hid hI) (Lib.hid hS)
 ·
  rw [if_neg h1]
  rw [decide_eq_false h1] at hS
  have hz : (textZ q.num).length ≤ 20 * lenW q.num.natAbs + 2 := by
   have := textN_len q.num.natAbs
   unfold textZ
   split
   ·
    simp only [List.length_cons]; omega
   ·
    omega
  have h9 := textN_len q.den
  have he : strB (textZ q.num ++ 47 :: textN q.den) = strB (textZ q.num) ++ ByteArray.mk #[47] ++ strB (textN q.den) := by
   rw [show (ByteArray.mk #[47]) = strB [47] from rfl, str_append, str_append]
   simp only [List.append_assoc, List.cons_append, List.nil_append]
  rw [he]
  exact rtext_frac _ a b c d _ _ _ _ _ _ _ (by rw [str_size]; omega) (by rw [show (ByteArray.mk #[47]) = strB [47] from rfl, str_append, str_size, List.length_append]; simp only [List.length_cons, List.length_nil]; omega) (by rw [str_size]; omega) w ha hb (Lib.hid hN) (Lib.hid hI) (Lib.hid hS) (Lib.hid hD) (Lib.hid fun a c W h => text_any a c q.den W h hs2)
theorem lcut_no (s : ByteArray) (w : World) (h : Lib.indexByte s.data.toList 47 = -1) : Calls Tryz.prog 152 #[.string s, .string ⟨#[47]⟩] w fun e w' => e = .returned (.tuple #[.string s, .string ⟨#[]⟩, .bool false]) ∧ Below w.heap.size w w' := by
 have HI := Lib.hid (fun W => h ▸ Tryz.stringslite_Index_one s 47 W)
 go_enter Tryz.func152, Tryz.ntmps152
 go_wp2_with fail
 refine (HI.out _).mono ?_
 rintro e w1 ⟨rfl, rfl⟩
 go_wp2_with fail
 go_ret3
 exact ⟨rfl, Below.refl _ _⟩
theorem lcut_yes (s : ByteArray) (i : Nat) (w : World) (h : Lib.indexByte s.data.toList 47 = (i : Int)) (hi : i < s.size) (hs : s.size ≤ 4398046511104) : Calls Tryz.prog 152 #[.string s, .string ⟨#[47]⟩] w fun e w' => e = .returned (.tuple #[.string (s.extract 0 i), .string (s.extract (i + 1) s.size), .bool true]) ∧ Below w.heap.size w w' := by
 have HI := Lib.hid (fun W => h ▸ Tryz.stringslite_Index_one s 47 W)
 have c1 : (0 : Int) ≤ (i : Int) := by omega
 have c2 : (i : Int) ≤ (s.size : Int) := by omega
 have c3 : (0 : Int) ≤ (i : Int) + 1 := by omega
 have c4 : (i : Int) + 1 ≤ (s.size : Int) := by omega
 have c5 : ((i : Int) + 1).toNat = i + 1 := by omega
 go_enter Tryz.func152, Tryz.ntmps152
 go_wp2_with fail
 refine (HI.out _).mono ?_
 rintro e w1 ⟨rfl, rfl⟩
 go_wp2_with fail
 have c6 : IntKind.i64.wrap ((i : Int) + 1) = (i : Int) + 1 := IntWalk.i64_in _ (by omega)
 go_quiet (fail)
 clear c6
 go_wp2_with fail
 go_ret3
 exact ⟨rfl, Below.drawn _ _⟩
theorem cut_of (s x y : ByteArray) (ok : Bool) (w : World) (HL : Hid (∀ W, Calls Tryz.prog 152 #[.string s, .string ⟨#[47]⟩] W fun e w' => e = .returned (.tuple #[.string x, .string y, .bool ok]) ∧ Below W.heap.size W w')) : Calls Tryz.prog 89 #[.string s, .string ⟨#[47]⟩] w fun e w' => e = .returned (.tuple #[.string x, .string y, .bool ok]) ∧ Below w.heap.size w w' := by
 go_enter Tryz.func89, Tryz.ntmps89
 go_wp2_with fail
 refine (HL.out _).mono ?_
 rintro e w1 ⟨rfl, hb⟩
 have HB := Lib.hid hb
 clear hb
 go_wp2_with fail
 go_ret3
 exact ⟨rfl, HB.out⟩
theorem find_byte (l : List UInt8) (c : UInt8) : (c ∉ l ∧ Lib.indexByte l c = -1) ∨ ∃ i : Nat, Lib.indexByte l c = i ∧ i < l.length ∧ l = l.take i ++ c :: l.drop (i + 1) ∧ c ∉ l.take i := by
 induction l with
 | nil => exact Or.inl ⟨by simp, rfl⟩
 | cons b l ih =>
  by_cases hb : b = c
  ·
   subst hb
   exact Or.inr ⟨0, by unfold Lib.indexByte; rw [if_pos (by simp)]; rfl, by simp, by simp, by simp⟩
  ·
   have hbc : (b == c) = false := beq_eq_false_iff_ne.2 hb
   rcases ih with ⟨h1, h2⟩ | ⟨i, h1, h2, h3, h4⟩
   ·
    refine Or.inl ⟨?_, ?_⟩
    ·
     intro h
     rcases List.mem_cons.1 h with h | h
     ·
      exact hb h.symm
     ·
      exact h1 h
    ·
     unfold Lib.indexByte
     rw [hbc, h2]; rfl
   ·
    refine Or.inr ⟨i + 1, ?_, by simp only [List.length_cons]; omega, ?_, ?_⟩
    ·
     unfold Lib.indexByte
     rw [hbc, h1, if_neg (by simp), if_neg (by simp only [beq_iff_eq]; omega)]; omega
    ·
     rw [List.take_succ_cons, List.drop_succ_cons, List.cons_append, ← h3]
    ·
     rw [List.take_succ_cons]
     intro h
     rcases List.mem_cons.1 h with h | h
     ·
      exact hb h.symm
     ·
      exact h4 h
theorem natB_cut (s : ByteArray) : ((∀ x, x ∈ natB s → x ≠ 47) ∧ Lib.indexByte s.data.toList 47 = -1) ∨ ∃ i : Nat, Lib.indexByte s.data.toList 47 = (i : Int) ∧ i < s.size ∧ natB s = natB (s.extract 0 i) ++ 47 :: natB (s.extract (i + 1) s.size) ∧ (∀ x, x ∈ natB (s.extract 0 i) → x ≠ 47) := by
 have hne : ∀ (l : List UInt8), (47 : UInt8) ∉ l → ∀ x, x ∈ l.map UInt8.toNat → x ≠ 47 := fun l h x hx e => by
  obtain ⟨y, hy, rfl⟩ := List.mem_map.1 hx
  exact h (by rw [show (47 : UInt8) = y from (UInt8.toNat.inj (e.trans rfl)).symm]; exact hy)
 have hx1 : ∀ i, (s.extract 0 i).data.toList = s.data.toList.take i := fun i => by
  rw [ByteArray.data_extract, Array.toList_extract, List.extract_eq_take_drop]; simp
 have hx2 : ∀ i, (s.extract (i + 1) s.size).data.toList = s.data.toList.drop (i + 1) := fun i => by
  rw [ByteArray.data_extract, Array.toList_extract, List.extract_eq_take_drop, List.take_of_length_le]
  rw [List.length_drop, Array.length_toList]; exact Nat.le_refl _
 rcases find_byte s.data.toList 47 with ⟨h1, h2⟩ | ⟨i, h1, h2, h3, h4⟩
 ·
  exact Or.inl ⟨hne _ h1, h2⟩
 ·
  refine Or.inr ⟨i, h1, by rw [Array.length_toList] at h2; exact h2, ?_, ?_⟩
  ·
   unfold natB
   rw [hx1, hx2]
   conv => lhs; rw [h3]
   rw [List.map_append, List.map_cons]; rfl
  ·
   unfold natB
   rw [hx1]; exact hne _ h4
theorem scut_any (s : ByteArray) (hs : s.size ≤ 4398046511104) :
  ((∀ x, x ∈ natB s → x ≠ 47) ∧ ∀ w, Calls Tryz.prog 89 #[.string s, .string ⟨#[47]⟩] w fun e w' => e = .returned (.tuple #[.string s, .string ⟨#[]⟩, .bool false]) ∧ Below w.heap.size w w') ∨
  ∃ x y : ByteArray, natB s = natB x ++ 47 :: natB y ∧ (∀ c, c ∈ natB x → c ≠ 47) ∧ ∀ w, Calls Tryz.prog 89 #[.string s, .string ⟨#[47]⟩] w fun e w' => e = .returned (.tuple #[.string x, .string y, .bool true]) ∧ Below w.heap.size w w' := by
 rcases natB_cut s with ⟨h1, h2⟩ | ⟨i, h1, h2, h3, h4⟩
 ·
  exact Or.inl ⟨h1, fun w => cut_of _ _ _ _ w (Lib.hid fun W => lcut_no s W h2)⟩
 ·
  exact Or.inr ⟨_, _, h3, h4, fun w => cut_of _ _ _ _ w (Lib.hid fun W => lcut_yes s i W h1 h2 hs)⟩
theorem cut_plain_no {l : List Nat} (h : ∀ x, x ∈ l → x ≠ 47) : l.takeWhile (· != 47) = l ∧ l.dropWhile (· != 47) = [] := by
 induction l with
 | nil => exact ⟨rfl, rfl⟩
 | cons c l ih =>
  have hc : (c != 47) = true := bne_iff_ne.2 (h c List.mem_cons_self)
  have := ih fun x hx => h x (List.mem_cons_of_mem _ hx)
  rw [List.takeWhile_cons, List.dropWhile_cons, if_pos hc, if_pos hc, this.1, this.2]; exact ⟨rfl, rfl⟩
theorem cut_plain {l m : List Nat} (h : ∀ x, x ∈ l → x ≠ 47) : (l ++ 47 :: m).takeWhile (· != 47) = l ∧ (l ++ 47 :: m).dropWhile (· != 47) = 47 :: m := by
 induction l with
 | nil => rw [List.nil_append, List.takeWhile_cons, List.dropWhile_cons, if_neg (by simp), if_neg (by simp)]; exact ⟨rfl, rfl⟩
 | cons c l ih =>
  have hc : (c != 47) = true := bne_iff_ne.2 (h c List.mem_cons_self)
  have := ih fun x hx => h x (List.mem_cons_of_mem _ hx)
  rw [List.cons_append, List.takeWhile_cons, List.dropWhile_cons, if_pos hc, if_pos hc, this.1, this.2]; exact ⟨rfl, rfl⟩
end Go.Proofs.YtmhainidincjhaaGreatDoor
namespace Go.Proofs.YtmhainidincjhaaGreatDoor
theorem ndig_small {B n : Nat} (hB : 2 ≤ B) (h0 : n ≠ 0) (h : n < B) : ndig B n = 1 := by
 rw [ndig_pos hB h0, Nat.div_eq_of_lt h, ndig_zero]
theorem dig_small {B n : Nat} (hB : 2 ≤ B) (h0 : n ≠ 0) (h : n < B) : dig B n = [n] := by
 rw [dig_step hB h0, Nat.div_eq_of_lt h, dig_zero, Nat.mod_eq_of_lt h]; rfl
theorem part_small {n : Nat} (h0 : n ≠ 0) (h : n < 256) : partB n = some [1, n] := by
 unfold partB
 rw [ndig_small (by omega) h0 h, dig_small (by omega) h0 h]; rfl
theorem textN_small {n : Nat} (h0 : n ≠ 0) (h : n < 10) : textN n = [n + 48] := by
 unfold textN
 rw [if_neg h0, dig_small (by omega) h0 h]; rfl
theorem m32_num : (Rat.divInt (-3) 2).num = -3 := by decide +kernel
theorem m32_den : (Rat.divInt (-3) 2).den = 2 := by decide +kernel
theorem m32_ne : Rat.divInt (-3) 2 ≠ 0 := fun h => by
 have := m32_num
 rw [h] at this
 cases this
theorem enc_m32 : encR (Rat.divInt (-3) 2) = .ok [4, 1, 2, 1, 3] := by
 unfold encR
 rw [if_neg m32_ne, tagR_ne m32_ne, m32_num, m32_den]
 rw [show (-3 : Int).natAbs = 3 from rfl, part_small (by omega) (by omega), if_neg (by omega), part_small (by omega) (by omega)]
 rfl
theorem dec_m32 : decR [4, 1, 2, 1, 3, 9] = .ok (Rat.divInt (-3) 2, 5) := dec_enc enc_m32 [9]
theorem dec_code : decR [3, 1, 2, 1, 4] = .error ⟨91, none⟩ := by
 have h : tagR (Rat.divInt (sgnI 3 4) ((2 : Nat) : Int)) ≠ 3 := by decide +kernel
 unfold decR
 simp only
 rw [if_neg (by omega), if_neg (by omega), if_pos (by omega)]
 rw [show takeB [1, 2, 1, 4] = .ok (2, [1, 4]) from rfl]
 simp only
 rw [show takeB [1, 4] = .ok (4, []) from rfl]
 simp only
 rw [if_neg fun h2 => h h2.1]
theorem dec_less : decR [3, 1, 2, 2, 1] = .error ⟨90, some (sNum, 3)⟩ := rfl
theorem text_m32 : textR (Rat.divInt (-3) 2) = [45, 51, 47, 50] := by
 unfold textR
 rw [m32_num, m32_den, if_neg (by omega)]
 unfold textZ
 rw [if_pos (by omega), show (-3 : Int).natAbs = 3 from rfl, textN_small (by omega) (by omega), textN_small (by omega) (by omega)]
 rfl
theorem read_bad : readR [49, 47, 120] = .error ⟨91, some (sDiv, 2)⟩ := rfl
end Go.Proofs.YtmhainidincjhaaGreatDoor
