/-
  What the laws stand on, part V: contracts and plain laws of PRv, PCan, POne, PVec, PMod, PDot, PSub, PProb, PMay, PSame, PIs; the conditions are each law's own.
-/
import Derived.Test.YtndndfobkbeolaaUA
import Derived.Test.YtndndfobkbeolaaUH
import Derived.Deep.RegionHeld3
import Derived.Test.YtndndfobkbeolaaUW
set_option linter.unusedVariables false
set_option linter.unusedSimpArgs false
namespace Go.Proofs.Ytndndfobkbeolaa
open Go.RowKit
theorem hu {w W : World} {b o : Nat} {v : Value} (hb : Below w.heap.size w W) (h : w.cell? ⟨b, o, none⟩ = some v) : W.cell? ⟨b, o, none⟩ = some v := (hb.cell (World.block_lt_of_cell? _ _ h)).trans h
theorem mid_under {w w' : World} {base : Nat} {e : TypeId} {size : Nat} {v : Value} {n : Nat} {xs : List Value} (hm : Mid w base e size v n xs) (hb : Below w.heap.size w w') : Mid w' base e size v n xs := hm.below hb fun k hk => (hm.lt k hk).2
structure Rv where
  s : Bool
  a : Option Addr
  l : Nat
  c : Nat
  b : Option Addr
  m : Nat
  d : Nat
  q : Rat
def Rv.cells (v : Rv) : List Value := [.bool v.s, .slice v.a v.l v.c, .slice v.b v.m v.d]
def Rv.val (v : Rv) : Value := .agg #[.bool v.s, .slice v.a v.l v.c, .slice v.b v.m v.d]
theorem rvCells_len (v : Rv) : v.cells.length = 3 := rfl
structure Rv.ok (w : World) (v : Rv) : Prop where
  s : v.s = decide (v.q.num < 0)
  l : v.l = lenW v.q.num.natAbs
  m : v.m = lenW (denN v.q.den)
  num : NatW w v.a v.c v.q.num.natAbs
  den : NatW w v.b v.d (denN v.q.den)
theorem Rv.ok.below {w w' : World} {v : Rv} (h : v.ok w) (hb : Below w.heap.size w w') : v.ok w' := ⟨h.s, h.l, h.m, h.num.below hb, h.den.below hb⟩
theorem Rv.ok.keeps {w w' : World} {v : Rv} {S : Nat → Prop} (h : v.ok w) (hk : Keeps w w' S) (hs : ∀ k, S k → ¬ WordB w k) : v.ok w' := ⟨h.s, h.l, h.m, h.num.keeps hk hs, h.den.keeps hk hs⟩
theorem Rv.ok.val {w : World} {v : Rv} (h : v.ok w) : v.val = ratV v.a v.c v.b v.d v.q := by
  unfold Rv.val ratV
  rw [← h.s, ← h.l, ← h.m]
def Rv.zero : Rv := ⟨false, none, 0, 0, none, 0, 0, 0⟩
theorem Rv.zero_ok (w : World) : Rv.zero.ok w := ⟨rfl, lenW_zero.symm, lenW_zero.symm, NatW.zero w, NatW.zero w⟩
def RvR (q : Rat) (w : World) (e : Ending) (w' : World) : Prop := ∃ v : Rv, e = .returned v.val ∧ v.ok w' ∧ v.q = q ∧ Below w.heap.size w w'
theorem RvR.of {q : Rat} {w w' : World} {e : Ending} (h : RetR q w e w') : RvR q w e w' := by
  obtain ⟨a, c, b, d, he, h1, h2, h3⟩ := h
  exact ⟨⟨decide (q.num < 0), a, lenW q.num.natAbs, c, b, lenW (denN q.den), d, q⟩, he, ⟨rfl, rfl, rfl, h1, h2⟩, rfl, h3⟩
theorem rv_get {w : World} {a : Option Addr} {c : Nat} {vs : List Rv} (h : Sl w 3 (.slice a vs.length c) vs.length (vs.flatMap Rv.cells)) (k : Nat) (hk : k < vs.length) :
    ∃ b o, a = some ⟨b, o, none⟩ ∧ b < w.heap.size ∧ w.cell? ⟨b, o + k * 3, none⟩ = some (.bool vs[k].s) ∧ w.cell? ⟨b, o + k * 3 + 1, none⟩ = some (.slice vs[k].a vs[k].l vs[k].c) ∧ w.cell? ⟨b, o + k * 3 + 2, none⟩ = some (.slice vs[k].b vs[k].m vs[k].d) := by
  obtain ⟨b, o, c', e, h1, h2, h3, h4⟩ := h.plain (by omega)
  cases e
  have hc := fun j u hj => h4 _ u (flat_at Rv.cells 3 rvCells_len vs k hk j u hj)
  have c0 := hc 0 _ rfl
  have c1 := hc 1 _ rfl
  have c2 := hc 2 _ rfl
  simp only [← Nat.add_assoc, Nat.add_zero] at c0 c1 c2
  exact ⟨b, o, rfl, h3, c0, c1, c2⟩
theorem Sl.lenI {w : World} {size n : Nat} {a : Option Addr} {c : Nat} {cs : List Value} (h : Sl w size (.slice a n c) n cs) : n ≤ 9223372036854775807 ∧ n ≤ c ∧ c ≤ 9223372036854775807 := by
  obtain ⟨a', c', e, h1, h2, _⟩ := h.len
  cases e
  unfold maxLen at h2; omega
structure VecW (w : World) (a : Option Addr) (n c : Nat) (vs : List Rv) : Prop where
  len : vs.length = n
  sl : Sl w 3 (.slice a n c) n (vs.flatMap Rv.cells)
  ok : ∀ v, v ∈ vs → v.ok w
theorem VecW.below {w w' : World} {a : Option Addr} {n c : Nat} {vs : List Rv} (h : VecW w a n c vs) (hb : Below w.heap.size w w') : VecW w' a n c vs := ⟨h.len, h.sl.below hb, fun v hv => (h.ok v hv).below hb⟩
theorem VecW.get {w : World} {a : Option Addr} {n c : Nat} {vs : List Rv} (h : VecW w a n c vs) (k : Nat) (hk : k < n) : ∃ b o v, a = some ⟨b, o, none⟩ ∧ vs[k]? = some v ∧ b < w.heap.size ∧ w.cell? ⟨b, o + k * 3, none⟩ = some (.bool v.s) ∧ w.cell? ⟨b, o + k * 3 + 1, none⟩ = some (.slice v.a v.l v.c) ∧ w.cell? ⟨b, o + k * 3 + 2, none⟩ = some (.slice v.b v.m v.d) ∧ v.ok w := by
  obtain ⟨hl, hs, ho⟩ := h
  subst hl
  obtain ⟨b, o, e, hb, h0, h1, h2⟩ := rv_get hs k hk
  exact ⟨b, o, vs[k], e, List.getElem?_eq_getElem hk, hb, h0, h1, h2, ho _ (List.getElem_mem hk)⟩
theorem rv_one (vs : List Rv) : ∀ u ∈ vs.flatMap Rv.cells, u.oneCell' = true := fun u hu => by
  obtain ⟨v, -, h⟩ := List.mem_flatMap.1 hu
  simp only [Rv.cells, List.mem_cons, List.not_mem_nil, or_false] at h
  rcases h with rfl | rfl | rfl <;> rfl
theorem Try.infoRat : (Try.prog.info? 40).map (fun i => (i.zero, i.size, i.bytes)) = some (some (.agg #[.bool false, .slice none 0 0, .slice none 0 0]), 3, 56) := by kernel_rfl
def qs (vs : List Rv) : List Rat := vs.map (·.q)
theorem qs_len (vs : List Rv) : (qs vs).length = vs.length := List.length_map _
theorem qs_get {vs : List Rv} {k : Nat} {v : Rv} (h : vs[k]? = some v) : (qs vs)[k]? = some v.q := by unfold qs; rw [List.getElem?_map, h]; rfl
theorem noWord_of {w : World} {b : Nat} {cs : Array Value} {ty : TypeId} {o : Nat × Nat} (h : w.heap[b]? = some (.cells cs ty o)) (ht : ty ≠ 128) : ¬ WordB w b := fun ⟨cs2, hc⟩ => by
  rw [h] at hc
  injection hc with hc
  injection hc with _ h2
  exact ht h2
theorem set3k (w : World) (z : Nat) (a b c : Value) : Keeps w (((w.setCell ⟨z, 0, none⟩ a).setCell ⟨z, 1, none⟩ b).setCell ⟨z, 2, none⟩ c) fun k => k = z :=
  ((Keeps.setCell _ _ _ (S := fun k => k = z) rfl).trans (Keeps.setCell _ _ _ (S := fun k => k = z) rfl) fun _ _ h => h).trans (Keeps.setCell _ _ _ (S := fun k => k = z) rfl) fun _ _ h => h
theorem grown_keeps {w3 w4 : World} {ob : Obj} {row : Option Nat} (h : (w3.alloc ob).grownBy w4 row) : Keeps w3 w4 fun k => row = some k :=
  (Keeps.alloc w3 ob (fun k => row = some k)).trans (Keeps.of_grown h (S := fun k => row = some k) fun b h => h) fun _ _ h => h
theorem Mid.noWord {w : World} {base : Nat} {e : TypeId} {size n : Nat} {v : Value} {xs : List Value} (h : Mid w base e size v n xs) (he : e ≠ 128) (k : Nat) (hk : v.ownBlock = some k) : ¬ WordB w k := by
  rcases h.2 with ⟨rfl, _⟩ | ⟨g, o, cap, cur, rfl, hb, hg, _⟩
  · cases hk
  · cases hk
    exact noWord_of hg he
structure VB (w0 : World) (l : List Rat) (a : Option Addr) (n c : Nat) (vs : List Rv) (W : World) : Prop where
  mid : Mid W w0.heap.size 40 3 (.slice a n c) n (vs.flatMap Rv.cells)
  len : vs.length = n
  ok : ∀ v, v ∈ vs → v.ok W
  q : qs vs = l
  bel : Below w0.heap.size w0 W
section
variable {w0 W W' : World} {l : List Rat} {a : Option Addr} {n c : Nat} {vs : List Rv}
theorem VB.nil (w0 : World) : VB w0 [] none 0 0 [] w0 := ⟨by simpa using Mid.nil w0 w0.heap.size 40 3, rfl, fun _ h => (by cases h), rfl, Below.refl _ _⟩
theorem VB.call (h : VB w0 l a n c vs W) (hb : Below W.heap.size W W') : VB w0 l a n c vs W' := ⟨mid_under h.mid hb, h.len, fun v hv => (h.ok v hv).below hb, h.q, bthen h.bel hb⟩
theorem VB.vec (h : VB w0 l a n c vs W) : VecW W a n c vs := ⟨h.len, Sl.ofMid h.mid, h.ok⟩
theorem VB.qlen (h : VB w0 l a n c vs W) : l.length = n := by rw [← h.q, qs_len, h.len]
theorem VB.grown (h : VB w0 l a n c vs W) {ob : Obj} (hg : (W.alloc ob).grownBy W' (Value.slice a n c).ownBlock) : (∀ v : Rv, v.ok W → v.ok W') ∧ Below w0.heap.size w0 W' :=
  ⟨fun v hv => hv.keeps (grown_keeps hg) fun k hk => h.mid.noWord (by decide) k hk, (h.bel.alloc h.bel.size ob).grown hg (by have := h.bel.size; simp; omega) fun k hk => (h.mid.lt k hk).1⟩
theorem VB.push (h : VB w0 l a n c vs W) {ob : Obj} {v : Rv} {a' : Option Addr} {c' : Nat} (hv : v.ok W) (hm : Mid W' w0.heap.size 40 3 (.slice a' (n + 1) c') (n + 1) (vs.flatMap Rv.cells ++ v.cells)) (hg : (W.alloc ob).grownBy W' (Value.slice a n c).ownBlock) : VB w0 (l ++ [v.q]) a' (n + 1) c' (vs ++ [v]) W' := by
  obtain ⟨h1, h2⟩ := h.grown hg
  refine ⟨by rw [List.flatMap_append]; simpa using hm, by rw [List.length_append, h.len]; rfl, fun u hu => ?_, ?_, h2⟩
  · rcases List.mem_append.1 hu with hu | hu
    · exact h1 u (h.ok u hu)
    · rw [List.mem_singleton.1 hu]; exact h1 v hv
  · unfold qs
    rw [List.map_append, ← h.q]; rfl
end
def RetV (l : List Rat) (w : World) (e : Ending) (w' : World) : Prop := ∃ a n c vs, e = .returned (.slice a n c) ∧ VB w l a n c vs w'
theorem made_flat {α : Type} (f : α → List Value) (m : Nat) (hm : 0 < m) (hf : ∀ x, (f x).length = m) (x : α) (z : Array Value) (hz : z = (f x).toArray) (n : Nat) : madeCells z (n * m) = ((List.replicate n x).flatMap f).toArray := by
  subst hz
  apply Array.ext'
  apply List.ext_getElem?
  intro i
  have hlen : ((List.replicate n x).flatMap f).length = n * m := by rw [flat_len f m hf]; simp
  rcases Nat.lt_or_ge i (n * m) with hi | hi
  · have hq : i / m < n := Nat.div_lt_of_lt_mul (by rw [Nat.mul_comm]; exact hi)
    have hr : i % m < (f x).length := by rw [hf]; exact Nat.mod_lt _ hm
    have h := flat_at f m hf (List.replicate n x) (i / m) (by simpa using hq) (i % m) ((f x)[i % m]) (by rw [List.getElem_replicate, List.getElem?_eq_getElem hr])
    rw [Nat.mul_comm, Nat.div_add_mod] at h
    show (madeCells (f x).toArray (n * m)).toList[i]? = ((List.replicate n x).flatMap f)[i]?
    rw [h]
    have hsz : i < (madeCells (f x).toArray (n * m)).toList.length := by rw [Array.length_toList, size_madeCells]; exact hi
    rw [List.getElem?_eq_getElem hsz]
    simp only [madeCells, Array.getElem_toList, Array.getElem_map, Array.getElem_range, List.size_toArray, hf]
    congr 1
    simp [hr]
  · show (madeCells (f x).toArray (n * m)).toList[i]? = ((List.replicate n x).flatMap f)[i]?
    rw [List.getElem?_eq_none (by rw [Array.length_toList, size_madeCells]; exact hi), List.getElem?_eq_none (by rw [hlen]; exact hi)]
def zeroV (n : Nat) : Array Value := ((List.replicate n Rv.zero).flatMap Rv.cells).toArray
theorem make_vec (K : Nat) (hb : K ≤ 35184372088832 / 16) (W : World) : (Instr.makeSlice 28 (.int .i64 K) (.int .i64 K)).run Try.prog W = .ok (.slice (some ⟨W.heap.size, 0, none⟩) K K) (W.alloc (.cells (zeroV K) 40)) := by
  obtain ⟨ti, hi, hz0, hz1, hz2⟩ := info_parts Try.infoRat
  have := run_make (P := Try.prog) W 28 40 ti _ Try.underlying28 hi hz0 .i64 .i64 (K : Int) (K : Int) (by omega) (by omega) (by rw [hz2]; omega) (by omega)
  rw [Int.toNat_natCast, hz1, made_flat Rv.cells 3 (by omega) rvCells_len Rv.zero (Value.cells (.agg #[.bool false, .slice none 0 0, .slice none 0 0])) rfl] at this
  exact this
theorem flat_set3 (vs : List Rv) (k : Nat) (hk : k < vs.length) (v : Rv) : (vs.set k v).flatMap Rv.cells = (((vs.flatMap Rv.cells).set (k * 3) (.bool v.s)).set (k * 3 + 1) (.slice v.a v.l v.c)).set (k * 3 + 2) (.slice v.b v.m v.d) := by
  apply List.ext_getElem?
  intro i
  have hl := flat_len Rv.cells 3 rvCells_len vs
  have hl2 := flat_len Rv.cells 3 rvCells_len (vs.set k v)
  rw [List.length_set] at hl2
  rcases Nat.lt_or_ge i (vs.length * 3) with hi | hi
  · have hq : i / 3 < vs.length := Nat.div_lt_of_lt_mul (by omega)
    have hr : i % 3 < 3 := Nat.mod_lt _ (by omega)
    have hd : i / 3 * 3 + i % 3 = i := by omega
    have h1 := fun u hj => flat_at Rv.cells 3 rvCells_len (vs.set k v) (i / 3) (by rw [List.length_set]; exact hq) (i % 3) u hj
    have h2 := fun u hj => flat_at Rv.cells 3 rvCells_len vs (i / 3) hq (i % 3) u hj
    rw [hd] at h1 h2
    by_cases hk2 : i / 3 = k
    · subst hk2
      have hv : (vs.set (i / 3) v)[i / 3]'(by rw [List.length_set]; exact hq) = v := by simp
      have h3 := fun u hj => h1 u (by rw [hv]; exact hj)
      have hc : i % 3 = 0 ∨ i % 3 = 1 ∨ i % 3 = 2 := by omega
      rcases hc with hc | hc | hc
      · rw [h3 (.bool v.s) (by rw [hc]; rfl), List.getElem?_set_ne (by omega), List.getElem?_set_ne (by omega), show i / 3 * 3 = i by omega, List.getElem?_set_self (by omega)]
      · rw [h3 (.slice v.a v.l v.c) (by rw [hc]; rfl), List.getElem?_set_ne (by omega), show i / 3 * 3 + 1 = i by omega, List.getElem?_set_self (by simp only [List.length_set]; omega)]
      · rw [h3 (.slice v.b v.m v.d) (by rw [hc]; rfl), show i / 3 * 3 + 2 = i by omega, List.getElem?_set_self (by simp only [List.length_set]; omega)]
    · rw [List.getElem?_set_ne (by omega), List.getElem?_set_ne (by omega), List.getElem?_set_ne (by omega)]
      have hv : (vs.set k v)[i / 3]'(by rw [List.length_set]; exact hq) = vs[i / 3] := List.getElem_set_ne (fun e => hk2 e.symm) _
      have hj : (vs[i / 3].cells)[i % 3]? = some (vs[i / 3].cells[i % 3]'(by rw [rvCells_len]; exact hr)) := List.getElem?_eq_getElem _
      rw [h1 _ (by rw [hv]; exact hj), h2 _ hj]
  · rw [List.getElem?_eq_none (by omega), List.getElem?_eq_none (by simp only [List.length_set]; omega)]
end Go.Proofs.Ytndndfobkbeolaa
namespace Go.Proofs.Ytndndfobkbeolaa
open Go.RowKit
def CanAdd (p q : Rat) : Prop := ∀ (u v : Rv) (w : World), u.ok w → v.ok w → u.q = p → v.q = q → Calls Try.prog 16 #[.agg #[.bool u.s, .slice u.a u.l u.c, .slice u.b u.m u.d], .agg #[.bool v.s, .slice v.a v.l v.c, .slice v.b v.m v.d]] w (RvR (p + q) w)
def CanMul (p q : Rat) : Prop := ∀ (u v : Rv) (w : World), u.ok w → v.ok w → u.q = p → v.q = q → Calls Try.prog 44 #[.agg #[.bool u.s, .slice u.a u.l u.c, .slice u.b u.m u.d], .agg #[.bool v.s, .slice v.a v.l v.c, .slice v.b v.m v.d]] w (RvR (p * q) w)
def CanCmp (p q : Rat) : Prop := ∀ (u v : Rv) (w : World), u.ok w → v.ok w → u.q = p → v.q = q → Calls Try.prog 14 #[.agg #[.bool u.s, .slice u.a u.l u.c, .slice u.b u.m u.d], .agg #[.bool v.s, .slice v.a v.l v.c, .slice v.b v.m v.d]] w fun e w' => e = .returned (.int .i64 (cmpR p q)) ∧ Below w.heap.size w w'
def CanSame (p q : Rat) : Prop := ∀ (u v : Rv) (w : World), u.ok w → v.ok w → u.q = p → v.q = q → Calls Try.prog 15 #[.agg #[.bool u.s, .slice u.a u.l u.c, .slice u.b u.m u.d], .agg #[.bool v.s, .slice v.a v.l v.c, .slice v.b v.m v.d]] w fun e w' => e = .returned (.bool (decide (p = q))) ∧ Below w.heap.size w w'
theorem lenW_denI (q : Rat) : lenW (q.den : Int).natAbs = lenW q.den := rfl
theorem canCmp_of {K : Nat} (hK : MulUpto K) {p q : Rat} (h1 : lenW p.num.natAbs + lenW q.den ≤ K) (h2 : lenW q.num.natAbs + lenW p.den ≤ K) : CanCmp p q := fun u v w hu hv e1 e2 => by
  subst e1 e2
  have e1 := hu.val
  have e2 := hv.val
  unfold Rv.val at e1 e2
  rw [e1, e2]
  exact rcmp_any hK u.q v.q u.a u.b v.a v.b u.c u.d v.c v.d w hu.num hu.den hv.num hv.den h1 h2
theorem canSame_of {K : Nat} (hK : MulUpto K) {p q : Rat} (h1 : lenW p.num.natAbs + lenW q.den ≤ K) (h2 : lenW q.num.natAbs + lenW p.den ≤ K) : CanSame p q := fun u v w hu hv e1 e2 => by
  subst e1 e2
  have e1 := hu.val
  have e2 := hv.val
  unfold Rv.val at e1 e2
  rw [e1, e2]
  exact rsame_any hK u.q v.q u.a u.b v.a v.b u.c u.d v.c v.d w hu.num hu.den hv.num hv.den h1 h2
theorem canAdd_of {K K2 L : Nat} (hK : MulUpto K) (hKs : K ≤ 17592186044416) (hKL : L ≤ K2) (hD : DivUpto K2 L) {p q : Rat} (h1 : lenW p.num.natAbs + lenW q.den ≤ K) (h2 : lenW q.num.natAbs + lenW p.den ≤ K) (h3 : lenW p.den + lenW q.den ≤ K)
    (h4 : lenW (p.num * (q.den : Int) + q.num * (p.den : Int)).natAbs ≤ K2) (h5 : lenW (p.den * q.den) ≤ L) : CanAdd p q := fun u v w hu hv e1 e2 => by
  subst e1 e2
  have e1 := hu.val
  have e2 := hv.val
  unfold Rv.val at e1 e2
  rw [e1, e2]
  exact (radd_any hK hKs hKL hD u.q v.q u.a u.b v.a v.b u.c u.d v.c v.d w hu.num hu.den hv.num hv.den h1 h2 h3 h4 h5).mono fun e w' hr => RvR.of hr
theorem canMul_of {K K2 L : Nat} (hK : MulUpto K) (hKs : K ≤ 17592186044416) (hKL : L ≤ K2) (hD : DivUpto K2 L) {p q : Rat} (h1 : lenW p.num.natAbs + lenW q.num.natAbs ≤ K) (h3 : lenW p.den + lenW q.den ≤ K)
    (h4 : lenW (p.num * q.num).natAbs ≤ K2) (h5 : lenW (p.den * q.den) ≤ L) : CanMul p q := fun u v w hu hv e1 e2 => by
  subst e1 e2
  have e1 := hu.val
  have e2 := hv.val
  unfold Rv.val at e1 e2
  rw [e1, e2]
  exact (rmul_any hK hKs hKL hD u.q v.q u.a u.b v.a v.b u.c u.d v.c v.d w hu.num hu.den hv.num hv.den h1 h3 h4 h5).mono fun e w' hr => RvR.of hr
structure Few (q : Rat) : Prop where
  num : lenW q.num.natAbs ≤ 4
  den : lenW q.den ≤ 1
theorem lenW_addI {x y : Int} {k : Nat} (h1 : lenW x.natAbs ≤ k) (h2 : lenW y.natAbs ≤ k) : lenW (x + y).natAbs ≤ k + 1 := Nat.le_trans (lenW_mono (Int.natAbs_add_le x y)) (lenW_add h1 h2)
theorem canCmp_few {p q : Rat} (hp : Few p) (hq : Few q) : CanCmp p q := canCmp_of mul_upto_small (by have := hp.num; have := hq.den; omega) (by have := hq.num; have := hp.den; omega)
theorem canSame_few {p q : Rat} (hp : Few p) (hq : Few q) : CanSame p q := canSame_of mul_upto_small (by have := hp.num; have := hq.den; omega) (by have := hq.num; have := hp.den; omega)
theorem canAdd_few {p q : Rat} (hp : Few p) (hq : Few q) (hd : lenW (p.den * q.den) ≤ 1) : CanAdd p q :=
  canAdd_of mul_upto_small (by omega) (by omega) div_upto_word (by have := hp.num; have := hq.den; omega) (by have := hq.num; have := hp.den; omega) (by have := hp.den; have := hq.den; omega)
    (Nat.le_trans (lenW_addI (k := 5) (Nat.le_trans (lenW_mulI _ _) (by rw [lenW_denI]; have := hp.num; have := hq.den; omega)) (Nat.le_trans (lenW_mulI _ _) (by rw [lenW_denI]; have := hq.num; have := hp.den; omega))) (by omega)) hd
theorem canMul_few {p q : Rat} (hp : Few p) (hq : Few q) (hd : lenW (p.den * q.den) ≤ 1) : CanMul p q :=
  canMul_of mul_upto_small (by omega) (by omega) div_upto_word (by have := hp.num; have := hq.num; omega) (by have := hp.den; have := hq.den; omega)
    (Nat.le_trans (lenW_mulI _ _) (by have := hp.num; have := hq.num; omega)) hd
def Whole (B : Nat) (q : Rat) : Prop := ∃ z : Int, q = (z : Rat) ∧ z.natAbs ≤ B
theorem Whole.mono {B C : Nat} {q : Rat} (h : Whole B q) (hc : B ≤ C) : Whole C q := by obtain ⟨z, e, h⟩ := h; exact ⟨z, e, Nat.le_trans h hc⟩
theorem Whole.few {B : Nat} {q : Rat} (h : Whole B q) (hB : B < W64) : Few q := by
  obtain ⟨z, rfl, h⟩ := h
  refine ⟨?_, ?_⟩
  · show lenW z.natAbs ≤ 4
    exact Nat.le_trans (lenW_word.2 (Nat.lt_of_le_of_lt h hB)) (by omega)
  · show lenW 1 ≤ 1
    rw [lenW_pos1]; exact Nat.le_refl _
theorem Whole.den {B : Nat} {q : Rat} (h : Whole B q) : q.den = 1 := by obtain ⟨z, rfl, h⟩ := h; rfl
theorem Whole.add {B C : Nat} {p q : Rat} (h1 : Whole B p) (h2 : Whole C q) : Whole (B + C) (p + q) := by
  obtain ⟨x, rfl, hx⟩ := h1
  obtain ⟨y, rfl, hy⟩ := h2
  exact ⟨x + y, (Rat.intCast_add x y).symm, Nat.le_trans (Int.natAbs_add_le x y) (Nat.add_le_add hx hy)⟩
theorem Whole.mul {B C : Nat} {p q : Rat} (h1 : Whole B p) (h2 : Whole C q) : Whole (B * C) (p * q) := by
  obtain ⟨x, rfl, hx⟩ := h1
  obtain ⟨y, rfl, hy⟩ := h2
  exact ⟨x * y, (Rat.intCast_mul x y).symm, by rw [Int.natAbs_mul]; exact Nat.mul_le_mul hx hy⟩
theorem Whole.neg {B : Nat} {p : Rat} (h1 : Whole B p) : Whole B (-p) := by
  obtain ⟨x, rfl, hx⟩ := h1
  exact ⟨-x, (Rat.intCast_neg x).symm, by rw [Int.natAbs_neg]; exact hx⟩
theorem Whole.zero : Whole 0 0 := ⟨0, rfl, Nat.le_refl _⟩
theorem canAdd_whole {B C : Nat} {p q : Rat} (h1 : Whole B p) (h2 : Whole C q) (hB : B < W64) (hC : C < W64) : CanAdd p q :=
  canAdd_few (h1.few hB) (h2.few hC) (by rw [h1.den, h2.den]; rw [Nat.mul_one, lenW_pos1]; exact Nat.le_refl _)
theorem canMul_whole {B C : Nat} {p q : Rat} (h1 : Whole B p) (h2 : Whole C q) (hB : B < W64) (hC : C < W64) : CanMul p q :=
  canMul_few (h1.few hB) (h2.few hC) (by rw [h1.den, h2.den]; rw [Nat.mul_one, lenW_pos1]; exact Nat.le_refl _)
end Go.Proofs.Ytndndfobkbeolaa
namespace Go.Proofs.Ytndndfobkbeolaa
open Go.RowKit Go.Extern.Stop Go.Stop Go.Extern
def I64 (x : Int) : Prop := -9223372036854775808 ≤ x ∧ x ≤ 9223372036854775807
abbrev Fr := Int × Int
def frCells (v : Fr) : List Value := [.int .i64 v.1, .int .i64 v.2]
theorem vint_any (x : Int) (w : World) (h : I64 x) : Calls Try.prog 33 #[.int .i64 x] w (RvR (x : Rat) w) :=
  (rint_any x w h.1 h.2).mono fun e w' hr => RvR.of hr
theorem heap2 (w : World) (o1 o2 : Obj) : ((w.alloc o1).alloc o2).heap[w.heap.size]? = some o1 ∧ ((w.alloc o1).alloc o2).heap[w.heap.size + 1]? = some o2 := by
  have h1 := heap_alloc_new w o1
  have h2 := heap_alloc_new (w.alloc o1) o2
  rw [World.size_alloc] at h2
  exact ⟨(Below.heap_alloc _ _ _ (by simp)).trans h1, h2⟩
end Go.Proofs.Ytndndfobkbeolaa
namespace Go.Proofs.Ytndndfobkbeolaa
open Go.RowKit Go.Extern.Stop Go.Stop Go.Extern
abbrev IV (n : Int) : Value := .int .i64 n
def ofI (l : List Int) : List Rat := l.map fun x : Int => (x : Rat)
theorem ofI_len (l : List Int) : (ofI l).length = l.length := List.length_map _
theorem int_get {w : World} {a : Option Addr} {c n : Nat} {l : List Int} (h : Sl w 1 (.slice a n c) n (l.map IV)) (k : Nat) (hk : k < l.length) (hn : k < n) : ∃ b o, a = some ⟨b, o, none⟩ ∧ b < w.heap.size ∧ w.cell? ⟨b, o + k, none⟩ = some (.int .i64 l[k]) := by
  obtain ⟨b, o, c', e, h1, h2, h3, h4⟩ := h.plain (by omega)
  cases e
  exact ⟨b, o, rfl, h3, h4 k _ (by rw [List.getElem?_map, List.getElem?_eq_getElem hk]; rfl)⟩
set_option maxRecDepth 100000 in
set_option maxHeartbeats 4000000 in
theorem vof_any (a : Option Addr) (n c : Nat) (l : List Int) (w : World) (h : Sl w 1 (.slice a n c) n (l.map IV)) (hl : l.length = n) (hI : ∀ x, x ∈ l → I64 x) (hn : n ≤ 1000000) : Calls Try.prog 40 #[.slice a n c] w (RetV (ofI l) w) := by
  obtain ⟨tr, hi, hz0, hz1, hz2⟩ := info_parts Try.infoRat
  have hln := h.lenI
  have H := Lib.hid h
  have HL := Lib.hid hl
  have HI := Lib.hid hI
  clear h hl hI
  go_enter Try.func40, Try.ntmps40
  go_wp2
  go_loopw [3, 8] (fun ov iv wr => ∃ (k : Nat) (oa : Option Addr) (oc : Nat) (vs : List Rv), k ≤ n ∧ iv = .int .i64 k ∧ ov = .slice oa k oc ∧ VB w ((ofI l).take k) oa k oc vs wr) (fun _ iv _ => n - (intOf iv).toNat)
  case atStart => exact ⟨0, none, 0, [], Nat.zero_le _, rfl, rfl, VB.nil w⟩
  case round =>
    obtain ⟨k, oa, oc, vs, hk, rfl, rfl, hv⟩ := hrel
    by_cases hlt : k < n
    · obtain ⟨b, o, e1, _, y⟩ := int_get (H.out.below hv.bel) k (by rw [HL.out]; exact hlt) hlt
      have hx := HI.out _ (List.getElem_mem (show k < l.length by rw [HL.out]; exact hlt))
      have ht : (ofI l).take (k + 1) = (ofI l).take k ++ [((l[k]'(by rw [HL.out]; exact hlt) : Int) : Rat)] := by
        rw [List.take_succ_eq_append_getElem (by rw [ofI_len, HL.out]; exact hlt)]; simp [ofI]
      generalize l[k]'(by rw [HL.out]; exact hlt) = x at y hx ht
      subst e1
      have HT := Lib.hid ht
      have HX := Lib.hid hx
      have HVB := Lib.hid hv
      have i0 : (0 : Int) ≤ (k : Int) := by omega
      have i1 : (k : Int) < (n : Int) := by omega
      clear ht hx hv
      go_wp2_with fail
      refine (vint_any x _ HX.out).mono ?_
      rintro e w1 ⟨v, rfl, ho, hq, hb⟩
      replace HVB := Lib.hid (HVB.out.call hb)
      have HO := Lib.hid ho
      have HQ := Lib.hid hq
      clear ho hq hb
      unfold Rv.val
      have HM3 := Lib.hid (HVB.out.mid.alloc (.cells #[.bool v.s, .slice v.a v.l v.c, .slice v.b v.m v.d] 40))
      have HS3 := Lib.hid (show Src Try.prog 3 28 (.slice (some ⟨w1.heap.size, 0, none⟩) 1 1) 1 v.cells (w1.alloc (.cells #[.bool v.s, .slice v.a v.l v.c, .slice v.b v.m v.d] 40)) from
        (Sl.lit w1 40 3 1 v.cells (by unfold maxLen; omega) rfl).src (P := Try.prog) Try.underlying28 (fun u hu => rv_one [v] u (by simpa using hu)))
      have HW3 := Lib.hid (show w.heap.size ≤ (w1.alloc (.cells #[.bool v.s, .slice v.a v.l v.c, .slice v.b v.m v.d] 40)).heap.size by have := HVB.out.bel.size; simp; omega)
      go_wp2_with (at_builtin; refine wpList_append_mid (v := .slice oa k oc) rfl _ _ 28 28 rfl tr (.agg #[.bool false, .slice none 0 0, .slice none 0 0]) 56 Try.underlying28 hi hz0 hz1 hz2 rfl rfl HM3.out _ rfl 1 _ HS3.out (by unfold maxLen; omega) (by omega) HW3.out ?_; intro a4 c4 w4 hmo hgo hbo; have HMO4 := Lib.hid hmo; have HGO4 := Lib.hid hgo; clear hmo hgo hbo)
      go_roundw
      case rel =>
        refine ⟨k + 1, a4, c4, vs ++ [v], by omega, by go_num, rfl, ?_⟩
        rw [HT.out, ← HQ.out]
        exact HVB.out.push HO.out HMO4.out HGO4.out
      case measure => simp [intOf]; omega
    · obtain rfl : k = n := by omega
      have e : (ofI l).take k = ofI l := List.take_of_length_le (by rw [ofI_len, HL.out]; exact Nat.le_refl _)
      rw [e] at hv
      have HVB := Lib.hid hv
      clear hv e
      go_wp2
      go_ret
      exact ⟨oa, k, oc, vs, rfl, HVB.out⟩
def belowQ (l : List Rat) : Bool := l.any fun q => decide (q.num < 0)
theorem belowQ_take {l : List Rat} {k : Nat} {q : Rat} (h : belowQ (l.take k) = false) (hk : l[k]? = some q) : belowQ (l.take (k + 1)) = decide (q.num < 0) := by
  obtain ⟨h1, rfl⟩ := List.getElem?_eq_some_iff.1 hk
  rw [List.take_succ_eq_append_getElem h1]
  unfold belowQ at h ⊢
  rw [List.any_append, h]
  simp
theorem belowQ_more {l : List Rat} {k : Nat} (h : belowQ (l.take k) = true) : belowQ l = true := by
  unfold belowQ at h ⊢
  rw [← List.take_append_drop k l, List.any_append, h]
  rfl
theorem rv_sign (v : Rv) (w : World) (hv : v.ok w) : Calls Try.prog 42 #[.agg #[.bool v.s, .slice v.a v.l v.c, .slice v.b v.m v.d]] w fun e w' => e = .returned (.int .i64 (signZ v.q.num)) ∧ Below w.heap.size w w' := by
  have e1 := hv.val
  unfold Rv.val at e1
  rw [e1]
  exact rsign_any v.q v.a v.b v.c v.d w
set_option maxRecDepth 100000 in
set_option maxHeartbeats 4000000 in
theorem vbelow_any (a : Option Addr) (n c : Nat) (vs : List Rv) (w : World) (h : VecW w a n c vs) : Calls Try.prog 11 #[.slice a n c] w fun e w' => e = .returned (.bool (belowQ (qs vs))) ∧ Below w.heap.size w w' := by
  have hln := h.sl.lenI
  have H := Lib.hid h
  clear h
  go_enter Try.func11, Try.ntmps11
  go_wp2
  go_loopw [7] (fun iv wr => ∃ k : Nat, k ≤ n ∧ iv = .int .i64 k ∧ belowQ ((qs vs).take k) = false ∧ Below w.heap.size w wr) (fun iv _ => n - (intOf iv).toNat)
  case atStart => exact ⟨0, Nat.zero_le _, rfl, rfl, Below.refl _ _⟩
  case round =>
    obtain ⟨k, hk, rfl, ht, hb⟩ := hrel
    by_cases hlt : k < n
    · obtain ⟨b, o, v, e1, e2, _, y0, y1, y2, vok⟩ := (H.out.below hb).get k hlt
      have hq := belowQ_take ht (qs_get e2)
      subst e1
      have HQ := Lib.hid hq
      have HB := Lib.hid hb
      have i0 : (0 : Int) ≤ (k : Int) := by omega
      have i1 : (k : Int) < (n : Int) := by omega
      have HS := Lib.hid (rv_sign v (wr.alloc (.cells #[.bool v.s, .slice v.a v.l v.c, .slice v.b v.m v.d] 40)) (vok.below (belowBox wr _)))
      obtain ⟨z, hz⟩ : ∃ z, signZ v.q.num = z := ⟨_, rfl⟩
      rw [hz] at HS
      by_cases hneg : v.q.num < 0
      · have hz1 : z < 0 := by rw [← hz]; unfold signZ; rw [if_pos hneg]; decide
        have HE := Lib.hid (belowQ_more (hq.trans (decide_eq_true hneg)))
        clear ht hq hz hneg vok hb e2
        go_wp2_with fail
        refine HS.out.mono ?_
        rintro e w1 ⟨rfl, hb1⟩
        have HB1 := Lib.hid hb1
        clear hb1
        go_wp2
        go_ret
        exact ⟨by rw [HE.out]; rfl, bthen HB.out (bthen (belowBox wr _) HB1.out)⟩
      · have hz1 : 0 ≤ z := by
          rw [← hz]; unfold signZ; rw [if_neg hneg]
          split <;> decide
        have HE := Lib.hid (hq.trans (decide_eq_false hneg))
        clear ht hq hz hneg vok hb e2
        go_wp2_with fail
        refine HS.out.mono ?_
        rintro e w1 ⟨rfl, hb1⟩
        have HB1 := Lib.hid hb1
        clear hb1
        go_wp2
        go_roundw
        case rel => exact ⟨k + 1, by omega, by go_num, HE.out, bthen HB.out (bthen (belowBox wr _) HB1.out)⟩
        case measure => simp [intOf]; omega
    · obtain rfl : k = n := by omega
      rw [List.take_of_length_le (by rw [qs_len, H.out.len]; exact Nat.le_refl _)] at ht
      have HE := Lib.hid ht
      have HB := Lib.hid hb
      clear ht hb
      go_wp2
      go_ret
      exact ⟨by rw [HE.out]; rfl, HB.out⟩
set_option maxHeartbeats 1000000 in
theorem vcopy_any (a : Option Addr) (n c : Nat) (vs : List Rv) (w : World) (h : VecW w a n c vs) (hn : n ≤ 1000000) : Calls Try.prog 54 #[.slice a n c] w fun e w' => ∃ a' c', e = .returned (.slice a' n c') ∧ VB w (qs vs) a' n c' vs w' := by
  obtain ⟨tr, hi, hz0, hz1, hz2⟩ := info_parts Try.infoRat
  have HS := Lib.hid (h.sl.src (P := Try.prog) Try.underlying28 (rv_one vs))
  have H := Lib.hid h
  clear h
  go_enter Try.func54, Try.ntmps54
  go_wp2_with (at_builtin; refine wpList_append_mid (v := .slice none 0 0) rfl _ _ 28 28 rfl tr (.agg #[.bool false, .slice none 0 0, .slice none 0 0]) 56 Try.underlying28 hi hz0 hz1 hz2 rfl rfl (Mid.nil w w.heap.size 40 3) _ rfl n _ HS.out (by unfold maxLen; omega) (by omega) (Nat.le_refl _) ?_; intro a1 c1 w1 hmid hgrow hblk; have HM := Lib.hid hmid; have HG := Lib.hid hgrow; have HBL := Lib.hid hblk; clear hmid hgrow hblk)
  go_ret
  have hm := HM.out
  rw [Nat.zero_add, List.nil_append] at hm
  have hb : Below w.heap.size w w1 := (Below.refl w.heap.size w).grown HG.out (Nat.le_refl _) (fun k hk => by cases hk)
  refine ⟨a1, c1, by simp, hm, H.out.len, fun v hv => (H.out.ok v hv).below hb, rfl, hb⟩
end Go.Proofs.Ytndndfobkbeolaa
namespace Go.Proofs.Ytndndfobkbeolaa
def dotQ : List Rat → List Rat → Rat
  | u :: us, v :: vs => u * v + dotQ us vs
  | _, _ => 0
theorem dotQ_take : ∀ (us vs : List Rat) (k : Nat) (p q : Rat), us[k]? = some p → vs[k]? = some q → dotQ (us.take (k + 1)) (vs.take (k + 1)) = dotQ (us.take k) (vs.take k) + p * q
  | [], _, _, _, _, h, _ => by simp at h
  | _ :: _, [], _, _, _, _, h => by simp at h
  | u :: us, v :: vs, 0, p, q, h1, h2 => by
    simp only [List.getElem?_cons_zero, Option.some.injEq] at h1 h2
    subst h1 h2
    simp only [List.take_succ_cons, List.take_zero, dotQ]
    rw [Rat.add_zero, Rat.zero_add]
  | u :: us, v :: vs, k + 1, p, q, h1, h2 => by
    simp only [List.getElem?_cons_succ] at h1 h2
    simp only [List.take_succ_cons, dotQ]
    rw [dotQ_take us vs k p q h1 h2, Rat.add_assoc]
theorem dotQ_nil (vs : List Rat) : dotQ [] vs = 0 := by cases vs <;> rfl
theorem dotQ_step {us vs : List Rat} {k : Nat} {p q : Rat} (h1 : us[k]? = some p) (h2 : vs[k]? = some q) (h : p = 0 ∨ q = 0) : dotQ (us.take (k + 1)) (vs.take (k + 1)) = dotQ (us.take k) (vs.take k) := by
  rw [dotQ_take us vs k p q h1 h2]
  rcases h with rfl | rfl
  · rw [Rat.zero_mul, Rat.add_zero]
  · rw [Rat.mul_zero, Rat.add_zero]
def lefts : Nat → List Int → List Int
  | _, [] => []
  | at0, k :: ks => if k = 3 then -1 :: lefts at0 ks else (at0 : Int) :: lefts (at0 + 1) ks
def slacks : List Int → Nat
  | [] => 0
  | k :: ks => (if k = 3 then 0 else 1) + slacks ks
theorem lefts_len : ∀ (n : Nat) (ks : List Int), (lefts n ks).length = ks.length
  | _, [] => rfl
  | n, k :: ks => by
    unfold lefts
    split <;> simp [lefts_len _ ks]
theorem slacks_le : ∀ (ks : List Int), slacks ks ≤ ks.length
  | [] => Nat.le_refl _
  | k :: ks => by
    have := slacks_le ks
    unfold slacks
    simp only [List.length_cons]
    split <;> omega
theorem lefts_snoc : ∀ (n : Nat) (ks : List Int) (k : Int), lefts n (ks ++ [k]) = lefts n ks ++ [if k = 3 then -1 else ((n + slacks ks : Nat) : Int)]
  | n, [], k => by
    simp only [List.nil_append, lefts, slacks]
    split <;> simp
  | n, j :: ks, k => by
    simp only [List.cons_append, lefts, slacks]
    by_cases h : j = 3
    · simp only [if_pos h, List.cons_append]
      rw [lefts_snoc n ks k]
      simp
    · simp only [if_neg h, List.cons_append]
      rw [lefts_snoc (n + 1) ks k]
      rw [show n + 1 + slacks ks = n + (1 + slacks ks) by omega]
theorem slacks_snoc (ks : List Int) (k : Int) : slacks (ks ++ [k]) = slacks ks + if k = 3 then 0 else 1 := by
  induction ks with
  | nil => simp [slacks]
  | cons j ks ih =>
    simp only [List.cons_append, slacks, ih]
    omega
def signK (k : Int) : Int := if k = 1 then 1 else -1
def stdRow (coef : List Rat) (extra : Nat) (at0 kind : Int) : List Rat := if 0 ≤ at0 then (coef ++ List.replicate extra 0).set at0.toNat (signK kind : Rat) else coef ++ List.replicate extra 0
end Go.Proofs.Ytndndfobkbeolaa
namespace Go.Proofs.Ytndndfobkbeolaa
open Go.RowKit Go.Extern.Stop Go.Stop Go.Extern
def CanDot (us vs : List Rat) : Prop := ∀ (k : Nat) (p q : Rat), us[k]? = some p → vs[k]? = some q → p ≠ 0 → q ≠ 0 → CanMul p q ∧ CanAdd (dotQ (us.take k) (vs.take k)) (p * q)
structure AccS (w : World) (rb ob : Nat) (t : Rv) (W : World) : Prop where
  r : W.heap[rb]? = some (.cells #[.bool false, .slice none 0 0, .slice none 0 0] 40 (0, 0))
  o : W.heap[ob]? = some (.cells #[.bool t.s, .slice t.a t.l t.c, .slice t.b t.m t.d] 40 (0, 0))
  rn : w.heap.size ≤ rb
  on : w.heap.size ≤ ob
  ne : rb ≠ ob
  ok : t.ok W
  bel : Below w.heap.size w W
section
variable {w W W' : World} {rb ob : Nat} {t v : Rv}
theorem AccS.call (h : AccS w rb ob t W) (hb : Below W.heap.size W W') : AccS w rb ob t W' :=
  ⟨(hb.block _ (lt_of_block h.r)).trans h.r, (hb.block _ (lt_of_block h.o)).trans h.o, h.rn, h.on, h.ne, h.ok.below hb, bthen h.bel hb⟩
theorem AccS.free (h : AccS w rb ob t W) (j : Nat) : W.frozen? ⟨ob, j, none⟩ = false := free_of_block h.o
theorem AccS.cell (h : AccS w rb ob t W) : W.cell? ⟨ob, 0, none⟩ = some (.bool t.s) ∧ W.cell? ⟨ob, 1, none⟩ = some (.slice t.a t.l t.c) ∧ W.cell? ⟨ob, 2, none⟩ = some (.slice t.b t.m t.d) :=
  ⟨cell_of_block h.o (by simp), cell_of_block h.o (by simp), cell_of_block h.o (by simp)⟩
theorem set3_heap (W : World) (b : Nat) (x0 x1 x2 y0 y1 y2 : Value) (T : TypeId) (h : W.heap[b]? = some (.cells #[x0, x1, x2] T (0, 0))) :
    (((W.setCell ⟨b, 0, none⟩ y0).setCell ⟨b, 1, none⟩ y1).setCell ⟨b, 2, none⟩ y2).heap[b]? = some (.cells #[y0, y1, y2] T (0, 0)) := by
  have a1 := heap_setCell_same W b 0 _ _ y0 h
  have a2 := heap_setCell_same _ b 1 _ _ y1 a1
  have a3 := heap_setCell_same _ b 2 _ _ y2 a2
  rw [a3]
  simp
theorem AccS.store (h : AccS w rb ob t W) (hv : v.ok W) : AccS w rb ob v (((W.setCell ⟨ob, 0, none⟩ (.bool v.s)).setCell ⟨ob, 1, none⟩ (.slice v.a v.l v.c)).setCell ⟨ob, 2, none⟩ (.slice v.b v.m v.d)) := by
  refine ⟨?_, set3_heap _ _ _ _ _ _ _ _ _ h.o, h.rn, h.on, h.ne, hv.keeps (set3k W ob _ _ _) fun k hk => by rw [hk]; exact noWord_of h.o (by decide), ((h.bel.setCell h.on _).setCell h.on _).setCell h.on _⟩
  rw [Below.heap_setCell _ _ _ _ h.ne, Below.heap_setCell _ _ _ _ h.ne, Below.heap_setCell _ _ _ _ h.ne]
  exact h.r
end
theorem set3_far {W : World} {z b o : Nat} {v x0 x1 x2 : Value} (h : z ≠ b) (hc : W.cell? ⟨b, o, none⟩ = some v) : (((W.setCell ⟨z, 0, none⟩ x0).setCell ⟨z, 1, none⟩ x1).setCell ⟨z, 2, none⟩ x2).cell? ⟨b, o, none⟩ = some v := by
  rw [World.cell?_setCell_far _ _ _ _ (show (⟨z, 2, none⟩ : Addr).block ≠ (⟨b, o, none⟩ : Addr).block from h), World.cell?_setCell_far _ _ _ _ (show (⟨z, 1, none⟩ : Addr).block ≠ (⟨b, o, none⟩ : Addr).block from h), World.cell?_setCell_far _ _ _ _ (show (⟨z, 0, none⟩ : Addr).block ≠ (⟨b, o, none⟩ : Addr).block from h)]
  exact hc
theorem rv_zero (v : Rv) (w : World) (hv : v.ok w) : Calls Try.prog 43 #[.agg #[.bool v.s, .slice v.a v.l v.c, .slice v.b v.m v.d]] w fun e w' => e = .returned (.bool (decide (v.q = 0))) ∧ Below w.heap.size w w' := by
  have e1 := hv.s
  have e2 := hv.l
  rw [e1, e2]
  exact rzero_any v.a v.b v.c v.d v.m v.q w
def RetRB2 (q : Rat) (ok : Bool) (w : World) (e : Ending) (w' : World) : Prop := ∃ v : Rv, e = .returned (.tuple #[v.val, .bool ok]) ∧ v.ok w' ∧ v.q = q ∧ Below w.heap.size w w'
set_option maxRecDepth 100000 in
set_option maxHeartbeats 8000000 in
theorem vdot_eq (a b : Option Addr) (m c d : Nat) (us vs : List Rv) (w : World) (hu1 : VecW w a m c us) (hv1 : VecW w b m d vs) (hc : CanDot (qs us) (qs vs)) : Calls Try.prog 12 #[.slice a m c, .slice b m d] w (RetRB2 (dotQ (qs us) (qs vs)) true w) := by
  have hm1 := hu1.sl.lenI
  have hn1 := hv1.sl.lenI
  have HU := Lib.hid hu1
  have HV := Lib.hid hv1
  have HC := Lib.hid hc
  obtain ⟨w1, hw1⟩ : ∃ w1, (w.alloc (.cells #[.bool false, .slice none 0 0, .slice none 0 0] 40)).alloc (.cells #[.bool false, .slice none 0 0, .slice none 0 0] 40) = w1 := ⟨_, rfl⟩
  have hac : AccS w w.heap.size (w.heap.size + 1) Rv.zero w1 := by
    rw [← hw1]
    exact ⟨(heap2 w _ _).1, (heap2 w _ _).2, Nat.le_refl _, by omega, by omega, Rv.zero_ok _, belowBox2 w _ _⟩
  obtain ⟨ob, hob⟩ : ∃ ob, w.heap.size + 1 = ob := ⟨_, rfl⟩
  obtain ⟨rb, hrb⟩ : ∃ rb, w.heap.size = rb := ⟨_, rfl⟩
  rw [hob, hrb] at hac
  have HAC := Lib.hid hac
  have HLB := Lib.hid (show ∀ z, z < w.heap.size → z ≠ ob from fun z h => by have := hac.on; omega)
  have HW1 := Lib.hid hw1
  have HRB := Lib.hid hrb
  have HOB := Lib.hid hob
  clear hu1 hv1 hc hac hw1 hrb hob
  go_enter Try.func12, Try.ntmps12
  go_upto_region 4 with fail
  (try simp only [World.size_alloc])
  (try simp only [HW1.out])
  (try simp only [HOB.out])
  (try simp only [HRB.out])
  clear HW1 HOB HRB
  go_wp2_with fail
  go_loopw [16] (fun iv wr => ∃ (k : Nat) (t : Rv), k ≤ m ∧ iv = .int .i64 k ∧ t.q = dotQ ((qs us).take k) ((qs vs).take k) ∧ AccS w rb ob t wr) (fun iv _ => m - (intOf iv).toNat)
  case atStart => exact ⟨0, Rv.zero, Nat.zero_le _, rfl, by rw [List.take_zero, dotQ_nil]; rfl, HAC.out⟩
  case round =>
    obtain ⟨k, t, hk, rfl, htq, hacc⟩ := hrel
    by_cases hlt : k < m
    · obtain ⟨b1, o1, u, rfl, eu, _, y0, y1, y2, uok⟩ := (HU.out.below hacc.bel).get k hlt
      obtain ⟨_, _, _, hx1, _, ol1, _⟩ := HU.out.get k hlt
      cases hx1
      obtain ⟨b2, o2, v, rfl, ev, _, z0, z1, z2, vok⟩ := (HV.out.below hacc.bel).get k hlt
      obtain ⟨_, _, _, hx2, _, ol2, _⟩ := HV.out.get k hlt
      cases hx2
      have i0 : (0 : Int) ≤ (k : Int) := by omega
      have i1 : (k : Int) < (m : Int) := by omega
      have HUO := Lib.hid uok
      have HVO := Lib.hid vok
      have HTQ := Lib.hid htq
      replace HAC := Lib.hid hacc
      have qu := qs_get eu
      have qv := qs_get ev
      have HZU := Lib.hid (fun (W : World) (h : Below wr.heap.size wr W) => rv_zero u W (uok.below h))
      have HZV := Lib.hid (fun (W : World) (h : Below wr.heap.size wr W) => rv_zero v W (vok.below h))
      by_cases h0 : u.q = 0
      · have HST := Lib.hid (dotQ_step qu qv (.inl h0))
        have e0 : decide (u.q = 0) = true := decide_eq_true h0
        rw [e0] at HZU
        clear uok vok htq hacc eu ev qu qv h0 e0 z0 z1 z2
        go_wp2_with fail
        refine (HZU.out _ (Below.refl _ _)).mono ?_
        rintro e V1 ⟨rfl, hb⟩
        replace HAC := Lib.hid (HAC.out.call hb)
        clear hb y0 y1 y2
        go_wp2_with fail
        go_roundw
        case rel => exact ⟨k + 1, t, by omega, by go_num, by rw [HTQ.out, HST.out], HAC.out⟩
        case measure => simp [intOf]; omega
      · have e0 : decide (u.q = 0) = false := decide_eq_false h0
        rw [e0] at HZU
        by_cases h1 : v.q = 0
        · have HST := Lib.hid (dotQ_step qu qv (.inr h1))
          have e1 : decide (v.q = 0) = true := decide_eq_true h1
          rw [e1] at HZV
          clear uok vok htq hacc eu ev qu qv h0 h1 e0 e1
          go_wp2_with fail
          refine (HZU.out _ (Below.refl _ _)).mono ?_
          rintro e V1 ⟨rfl, hb⟩
          replace HAC := Lib.hid (HAC.out.call hb)
          replace z0 := hu hb z0
          replace z1 := hu hb z1
          replace z2 := hu hb z2
          have HB := Lib.hid hb
          clear hb y0 y1 y2
          go_wp2_with fail
          refine (HZV.out _ HB.out).mono ?_
          rintro e V2 ⟨rfl, hb⟩
          replace HAC := Lib.hid (HAC.out.call hb)
          clear hb z0 z1 z2 HB
          go_wp2_with fail
          go_roundw
          case rel => exact ⟨k + 1, t, by omega, by go_num, by rw [HTQ.out, HST.out], HAC.out⟩
          case measure => simp [intOf]; omega
        · have HDT := Lib.hid (dotQ_take _ _ k _ _ qu qv)
          obtain ⟨hcm, hca⟩ := HC.out k u.q v.q qu qv h0 h1
          have e1 : decide (v.q = 0) = false := decide_eq_false h1
          rw [e1] at HZV
          have HCM := Lib.hid hcm
          have HCA := Lib.hid hca
          clear uok vok htq hacc eu ev qu qv h0 h1 e0 e1 hcm hca
          go_wp2_with fail
          refine (HZU.out _ (Below.refl _ _)).mono ?_
          rintro e V1 ⟨rfl, hb⟩
          replace HAC := Lib.hid (HAC.out.call hb)
          replace HUO := Lib.hid (HUO.out.below hb)
          replace HVO := Lib.hid (HVO.out.below hb)
          replace y0 := hu hb y0
          replace y1 := hu hb y1
          replace y2 := hu hb y2
          replace z0 := hu hb z0
          replace z1 := hu hb z1
          replace z2 := hu hb z2
          have HB := Lib.hid hb
          clear hb
          go_wp2_with fail
          refine (HZV.out _ HB.out).mono ?_
          rintro e V2 ⟨rfl, hb⟩
          replace HAC := Lib.hid (HAC.out.call hb)
          replace HUO := Lib.hid (HUO.out.below hb)
          replace HVO := Lib.hid (HVO.out.below hb)
          replace y0 := hu hb y0
          replace y1 := hu hb y1
          replace y2 := hu hb y2
          replace z0 := hu hb z0
          replace z1 := hu hb z1
          replace z2 := hu hb z2
          have HNB1 := Lib.hid (show ob ≠ b1 from (HLB.out b1 ol1).symm)
          have HNB2 := Lib.hid (show ob ≠ b2 from (HLB.out b2 ol2).symm)
          clear hb HB HZU HZV HC HLB ol1 ol2
          go_upto_region 8 with fail
          replace HAC := Lib.hid (HAC.out.call (show Below V2.heap.size V2 V2.drew from Below.drawn V2 1))
          replace HUO := Lib.hid (HUO.out.below (show Below V2.heap.size V2 V2.drew from Below.drawn V2 1))
          replace HVO := Lib.hid (HVO.out.below (show Below V2.heap.size V2 V2.drew from Below.drawn V2 1))
          refine wp_region_held_drew (S := fun W => W.cell? ⟨b1, o1 + k * 3, none⟩ = some (.bool u.s) ∧ W.cell? ⟨b1, o1 + k * 3 + 1, none⟩ = some (.slice u.a u.l u.c) ∧ W.cell? ⟨b1, o1 + k * 3 + 2, none⟩ = some (.slice u.b u.m u.d) ∧ W.cell? ⟨b2, o2 + k * 3, none⟩ = some (.bool v.s) ∧ W.cell? ⟨b2, o2 + k * 3 + 1, none⟩ = some (.slice v.a v.l v.c) ∧ W.cell? ⟨b2, o2 + k * 3 + 2, none⟩ = some (.slice v.b v.m v.d)) (by kernel_rfl) (⟨y0, y1, y2, z0, z1, z2⟩) (fun hHeld => ?_)
          generalize V2.drew = wd at HAC HUO HVO hHeld ⊢
          refine tk 1 (some 34) (v := ?_) rfl rfl ?_ ?_
          rotate_left
          · (intro w _; go_simp; (try with_reducible rfl))
          simp only [Act.put, stB, stZ, stS]
          refine tk 2 (some 35) (v := ?_) rfl rfl ?_ ?_
          rotate_left
          · (intro w _; go_simp; (try with_reducible rfl))
          simp only [Act.put, stB, stZ, stS]
          refine tk 3 (some 36) (v := ?_) rfl rfl ?_ ?_
          rotate_left
          · (intro w hSw; (try dsimp only at hSw); ((try obtain ⟨hS0, hS1, hS2, hS3, hS4, hS5⟩ := hSw); go_simp); (try with_reducible rfl))
          simp only [Act.put, stB, stZ, stS]
          refine tk 4 (some 37) (v := ?_) rfl rfl ?_ ?_
          rotate_left
          · (intro w hSw; (try dsimp only at hSw); ((try obtain ⟨hS0, hS1, hS2, hS3, hS4, hS5⟩ := hSw); go_simp); (try with_reducible rfl))
          simp only [Act.put, stB, stZ, stS]
          refine tk 5 (some 38) (v := ?_) rfl rfl ?_ ?_
          rotate_left
          · (intro w _; go_simp; (try with_reducible rfl))
          simp only [Act.put, stB, stZ, stS]
          refine tk 6 (some 39) (v := ?_) rfl rfl ?_ ?_
          rotate_left
          · (intro w _; go_simp; (try with_reducible rfl))
          simp only [Act.put, stB, stZ, stS]
          refine tk 7 (some 40) (v := ?_) rfl rfl ?_ ?_
          rotate_left
          · (intro w hSw; (try dsimp only at hSw); ((try obtain ⟨hS0, hS1, hS2, hS3, hS4, hS5⟩ := hSw); go_simp); (try with_reducible rfl))
          simp only [Act.put, stB, stZ, stS]
          refine tk 8 (some 41) (v := ?_) rfl rfl ?_ ?_
          rotate_left
          · (intro w hSw; (try dsimp only at hSw); ((try obtain ⟨hS0, hS1, hS2, hS3, hS4, hS5⟩ := hSw); go_simp); (try with_reducible rfl))
          simp only [Act.put, stB, stZ, stS]
          refine wpAnyH_ready (rs := [0, 9]) (by kernel_rfl) (by simp) ?_
          refine (AllReadyH.cons (o := { dst := some 33, op := Op.load 40 (Operand.tmp 6), type := 40, pos := "vec.go:47", after := #[], guard := none }) rfl (fun K hK => ?_) (AllReadyH.cons (o := { dst := some 42, op := Op.call { callee := Callee.value (Operand.func 44), args := #[Operand.tmp 37, Operand.tmp 41], argTypes := #[40, 40] }, type := 40, pos := "vec.go:47", after := #[{ on := 4, ground := Ground.data }, { on := 8, ground := Ground.data }], guard := none }) rfl (fun K hK => ?_) AllReadyH.nil))
          · skip
            obtain ⟨t0, t1, t2⟩ := HAC.out.cell
            go_simp
            clear t0 t1 t2
            refine hK.out _ _ (hHeld) (fun hHeld2 => ?_)
            clear hK K hHeld
            rename _ => hHeld
            try simp only [Act.put, stB, stZ, stS]
            refine wpAnyH_ready (rs := [9]) (by kernel_rfl) (by simp) ?_
            refine (AllReadyH.cons (o := { dst := some 42, op := Op.call { callee := Callee.value (Operand.func 44), args := #[Operand.tmp 37, Operand.tmp 41], argTypes := #[40, 40] }, type := 40, pos := "vec.go:47", after := #[{ on := 4, ground := Ground.data }, { on := 8, ground := Ground.data }], guard := none }) rfl (fun K hK => ?_) AllReadyH.nil)
            go_simp
            refine (HCM.out u v _ HUO.out HVO.out rfl rfl).mono ?_
            rintro e V1 ⟨p, rfl, ho, hq, hb⟩
            unfold Rv.val
            have HPO := Lib.hid ho
            have HPQ := Lib.hid hq
            clear ho hq
            replace HAC := Lib.hid (HAC.out.call hb)
            replace HUO := Lib.hid (HUO.out.below hb)
            replace HVO := Lib.hid (HVO.out.below hb)
            have hKK := And.intro (hu hb hHeld.1) <| And.intro (hu hb hHeld.2.1) <| And.intro (hu hb hHeld.2.2.1) <| And.intro (hu hb hHeld.2.2.2.1) <| And.intro (hu hb hHeld.2.2.2.2.1) <| hu hb hHeld.2.2.2.2.2
            clear hb
            refine hK.out _ _ (hKK) (fun hHeld2 => ?_)
            clear hK K hHeld
            rename _ => hHeld
            try simp only [Act.put, stB, stZ, stS]
            refine wpAnyH_ready (rs := [10]) (by kernel_rfl) (by simp) ?_
            refine (AllReadyH.cons (o := { dst := some 43, op := Op.call { callee := Callee.value (Operand.func 16), args := #[Operand.tmp 33, Operand.tmp 42], argTypes := #[40, 40] }, type := 40, pos := "vec.go:47", after := #[{ on := 0, ground := Ground.data }, { on := 9, ground := Ground.data }, { on := 9, ground := Ground.chain }], guard := none }) rfl (fun K hK => ?_) AllReadyH.nil)
            go_simp
            refine (HCA.out t p _ HAC.out.ok HPO.out HTQ.out HPQ.out).mono ?_
            rintro e V2 ⟨r, rfl, ho, hq, hb⟩
            unfold Rv.val
            have HRO := Lib.hid ho
            have HRQ := Lib.hid hq
            clear ho hq
            replace HAC := Lib.hid (HAC.out.call hb)
            have hKK := And.intro (hu hb hHeld.1) <| And.intro (hu hb hHeld.2.1) <| And.intro (hu hb hHeld.2.2.1) <| And.intro (hu hb hHeld.2.2.2.1) <| And.intro (hu hb hHeld.2.2.2.2.1) <| hu hb hHeld.2.2.2.2.2
            clear hb
            refine hK.out _ _ (hKK) (fun hHeld2 => ?_)
            clear hK K hHeld
            rename _ => hHeld
            try simp only [Act.put, stB, stZ, stS]
            refine wpAnyH_ready (rs := [11]) (by kernel_rfl) (by simp) ?_
            refine (AllReadyH.cons (o := { dst := none, op := Op.store 40 (Operand.tmp 6) (Operand.tmp 43), type := 0, pos := "vec.go:47", after := #[{ on := 10, ground := Ground.data }, { on := 10, ground := Ground.chain }, { on := 0, ground := Ground.phase }, { on := 1, ground := Ground.phase }, { on := 2, ground := Ground.phase }, { on := 3, ground := Ground.phase }, { on := 4, ground := Ground.phase }, { on := 5, ground := Ground.phase }, { on := 6, ground := Ground.phase }, { on := 7, ground := Ground.phase }, { on := 8, ground := Ground.phase }, { on := 9, ground := Ground.phase }, { on := 10, ground := Ground.phase }], guard := none }) rfl (fun K hK => ?_) AllReadyH.nil)
            obtain ⟨t0, t1, t2⟩ := HAC.out.cell
            have fz := HAC.out.free
            have fz0 := fz 0
            have fz1 := fz 1
            have fz2 := fz 2
            go_simp
            have HAS := Lib.hid (HAC.out.store HRO.out)
            clear fz fz0 fz1 fz2 t0 t1 t2
            refine hK.out _ _ (And.intro (set3_far HNB1.out (hHeld.1)) <| And.intro (set3_far HNB1.out (hHeld.2.1)) <| And.intro (set3_far HNB1.out (hHeld.2.2.1)) <| And.intro (set3_far HNB2.out (hHeld.2.2.2.1)) <| And.intro (set3_far HNB2.out (hHeld.2.2.2.2.1)) <| set3_far HNB2.out (hHeld.2.2.2.2.2)) (fun hHeld2 => ?_)
            clear hK K hHeld
            rename _ => hHeld
            try simp only [Act.put, stB, stZ, stS]
            refine wpAnyH_done (by kernel_rfl) ?_ _
            (try simp only [Exit.inBlock, Exit.then])
            clear hHeld
            go_wp2_with fail
            go_roundw
            case rel => exact ⟨k + 1, r, by omega, by go_num, by rw [HRQ.out, HDT.out], HAS.out⟩
            case measure => simp [intOf]; omega
          · skip
            go_simp
            refine (HCM.out u v _ HUO.out HVO.out rfl rfl).mono ?_
            rintro e V1 ⟨p, rfl, ho, hq, hb⟩
            unfold Rv.val
            have HPO := Lib.hid ho
            have HPQ := Lib.hid hq
            clear ho hq
            replace HAC := Lib.hid (HAC.out.call hb)
            replace HUO := Lib.hid (HUO.out.below hb)
            replace HVO := Lib.hid (HVO.out.below hb)
            have hKK := And.intro (hu hb hHeld.1) <| And.intro (hu hb hHeld.2.1) <| And.intro (hu hb hHeld.2.2.1) <| And.intro (hu hb hHeld.2.2.2.1) <| And.intro (hu hb hHeld.2.2.2.2.1) <| hu hb hHeld.2.2.2.2.2
            clear hb
            refine hK.out _ _ (hKK) (fun hHeld2 => ?_)
            clear hK K hHeld
            rename _ => hHeld
            try simp only [Act.put, stB, stZ, stS]
            refine wpAnyH_ready (rs := [0]) (by kernel_rfl) (by simp) ?_
            refine (AllReadyH.cons (o := { dst := some 33, op := Op.load 40 (Operand.tmp 6), type := 40, pos := "vec.go:47", after := #[], guard := none }) rfl (fun K hK => ?_) AllReadyH.nil)
            obtain ⟨t0, t1, t2⟩ := HAC.out.cell
            go_simp
            clear t0 t1 t2
            refine hK.out _ _ (hHeld) (fun hHeld2 => ?_)
            clear hK K hHeld
            rename _ => hHeld
            try simp only [Act.put, stB, stZ, stS]
            refine wpAnyH_ready (rs := [10]) (by kernel_rfl) (by simp) ?_
            refine (AllReadyH.cons (o := { dst := some 43, op := Op.call { callee := Callee.value (Operand.func 16), args := #[Operand.tmp 33, Operand.tmp 42], argTypes := #[40, 40] }, type := 40, pos := "vec.go:47", after := #[{ on := 0, ground := Ground.data }, { on := 9, ground := Ground.data }, { on := 9, ground := Ground.chain }], guard := none }) rfl (fun K hK => ?_) AllReadyH.nil)
            go_simp
            refine (HCA.out t p _ HAC.out.ok HPO.out HTQ.out HPQ.out).mono ?_
            rintro e V2 ⟨r, rfl, ho, hq, hb⟩
            unfold Rv.val
            have HRO := Lib.hid ho
            have HRQ := Lib.hid hq
            clear ho hq
            replace HAC := Lib.hid (HAC.out.call hb)
            have hKK := And.intro (hu hb hHeld.1) <| And.intro (hu hb hHeld.2.1) <| And.intro (hu hb hHeld.2.2.1) <| And.intro (hu hb hHeld.2.2.2.1) <| And.intro (hu hb hHeld.2.2.2.2.1) <| hu hb hHeld.2.2.2.2.2
            clear hb
            refine hK.out _ _ (hKK) (fun hHeld2 => ?_)
            clear hK K hHeld
            rename _ => hHeld
            try simp only [Act.put, stB, stZ, stS]
            refine wpAnyH_ready (rs := [11]) (by kernel_rfl) (by simp) ?_
            refine (AllReadyH.cons (o := { dst := none, op := Op.store 40 (Operand.tmp 6) (Operand.tmp 43), type := 0, pos := "vec.go:47", after := #[{ on := 10, ground := Ground.data }, { on := 10, ground := Ground.chain }, { on := 0, ground := Ground.phase }, { on := 1, ground := Ground.phase }, { on := 2, ground := Ground.phase }, { on := 3, ground := Ground.phase }, { on := 4, ground := Ground.phase }, { on := 5, ground := Ground.phase }, { on := 6, ground := Ground.phase }, { on := 7, ground := Ground.phase }, { on := 8, ground := Ground.phase }, { on := 9, ground := Ground.phase }, { on := 10, ground := Ground.phase }], guard := none }) rfl (fun K hK => ?_) AllReadyH.nil)
            obtain ⟨t0, t1, t2⟩ := HAC.out.cell
            have fz := HAC.out.free
            have fz0 := fz 0
            have fz1 := fz 1
            have fz2 := fz 2
            go_simp
            have HAS := Lib.hid (HAC.out.store HRO.out)
            clear fz fz0 fz1 fz2 t0 t1 t2
            refine hK.out _ _ (And.intro (set3_far HNB1.out (hHeld.1)) <| And.intro (set3_far HNB1.out (hHeld.2.1)) <| And.intro (set3_far HNB1.out (hHeld.2.2.1)) <| And.intro (set3_far HNB2.out (hHeld.2.2.2.1)) <| And.intro (set3_far HNB2.out (hHeld.2.2.2.2.1)) <| set3_far HNB2.out (hHeld.2.2.2.2.2)) (fun hHeld2 => ?_)
            clear hK K hHeld
            rename _ => hHeld
            try simp only [Act.put, stB, stZ, stS]
            refine wpAnyH_done (by kernel_rfl) ?_ _
            (try simp only [Exit.inBlock, Exit.then])
            clear hHeld
            go_wp2_with fail
            go_roundw
            case rel => exact ⟨k + 1, r, by omega, by go_num, by rw [HRQ.out, HDT.out], HAS.out⟩
            case measure => simp [intOf]; omega
    · obtain rfl : k = m := by omega
      rw [List.take_of_length_le (by rw [qs_len, HU.out.len]; exact Nat.le_refl _), List.take_of_length_le (by rw [qs_len, HV.out.len]; exact Nat.le_refl _)] at htq
      have HTQ := Lib.hid htq
      obtain ⟨t0, t1, t2⟩ := hacc.cell
      have r0 := cell_of_block (j := 0) hacc.r rfl
      have r1 := cell_of_block (j := 1) hacc.r rfl
      have r2 := cell_of_block (j := 2) hacc.r rfl
      have f0 : wr.frozen? ⟨rb, 0, none⟩ = false := free_of_block hacc.r
      have f1 : wr.frozen? ⟨rb, 1, none⟩ = false := free_of_block hacc.r
      have f2 : wr.frozen? ⟨rb, 2, none⟩ = false := free_of_block hacc.r
      have hne := hacc.ne
      have HN := Lib.hid hacc
      clear htq hacc
      go_wp2_with fail
      have hs := set3_heap wr rb _ _ _ (.bool t.s) (.slice t.a t.l t.c) (.slice t.b t.m t.d) _ HN.out.r
      have j0 := cell_of_block (j := 0) hs rfl
      have j1 := cell_of_block (j := 1) hs rfl
      have j2 := cell_of_block (j := 2) hs rfl
      refine bodyPost_ret (v := .tuple #[.agg #[.bool t.s, .slice t.a t.l t.c, .slice t.b t.m t.d], .bool true]) (by simp [results, Try.results12, go_sem, j0, j1, j2]) rfl ?_
      exact ⟨t, rfl, HN.out.ok.keeps (set3k wr rb _ _ _) (fun q hq => by rw [hq]; exact noWord_of HN.out.r (by decide)), HTQ.out, ((HN.out.bel.setCell HN.out.rn _).setCell HN.out.rn _).setCell HN.out.rn _⟩
set_option maxHeartbeats 4000000 in
theorem vdot_ne (a b : Option Addr) (m n c d : Nat) (w : World) (hm : m ≤ 9223372036854775807) (hn : n ≤ 9223372036854775807) (hne : m ≠ n) : Calls Try.prog 12 #[.slice a m c, .slice b n d] w (RetRB2 0 false w) := by
  have hx : ((m : Int) != (n : Int)) = true := by simp; omega
  go_enter Try.func12, Try.ntmps12
  go_wp2_with fail
  refine bodyPost_ret (v := .tuple #[.agg #[.bool Rv.zero.s, .slice Rv.zero.a Rv.zero.l Rv.zero.c, .slice Rv.zero.b Rv.zero.m Rv.zero.d], .bool false]) (by simp [results, Try.results12, go_sem, Rv.zero]) rfl ?_
  exact ⟨Rv.zero, rfl, Rv.zero_ok _, rfl, belowBox w _⟩
end Go.Proofs.Ytndndfobkbeolaa
namespace Go.Proofs.Ytndndfobkbeolaa
open Go.RowKit Go.Extern.Stop Go.Stop Go.Extern
theorem RvR.ret {q : Rat} {w w' : World} {e : Ending} (h : RvR q w e w') : RetR q w e w' := by
  obtain ⟨v, rfl, ho, rfl, hb⟩ := h
  exact ⟨v.a, v.c, v.b, v.d, by rw [ho.val], ho.num, ho.den, hb⟩
set_option maxRecDepth 100000 in
set_option maxHeartbeats 16000000 in
theorem rsub_any (p q : Rat) (a b e f : Option Addr) (c d i g : Nat) (w : World) (ha : NatW w a c p.num.natAbs) (hb : NatW w b d (denN p.den)) (he : NatW w e i q.num.natAbs) (hf : NatW w f g (denN q.den))
    (hA : ∀ (a3 : Option Addr) (c3 : Nat) (b3 : Option Addr) (d3 : Nat) (W : World), NatW W a c p.num.natAbs → NatW W b d (denN p.den) → NatW W a3 c3 (-q).num.natAbs → NatW W b3 d3 (denN (-q).den) → Calls Try.prog 16 #[ratV a c b d p, ratV a3 c3 b3 d3 (-q)] W (RetR (p + -q) W)) :
    Calls Try.prog 37 #[ratV a c b d p, ratV e i f g q] w (RetR (p + -q) w) := by
  have hNG := fun (W : World) (q1 : NatW W e i q.num.natAbs) (q2 : NatW W f g (denN q.den)) => rneg_any q e f i g W q1 q2
  obtain ⟨r, hr⟩ : ∃ r, p + -q = r := ⟨_, rfl⟩
  obtain ⟨y, hy⟩ : ∃ y, -q = y := ⟨_, rfl⟩
  rw [hy] at hNG hA hr
  rw [hr] at hA
  rw [hy, hr]
  unfold RetR ratV at hNG
  unfold RetR ratV at hA
  unfold ratV
  obtain ⟨sp, hsp⟩ : ∃ z, decide (p.num < 0) = z := ⟨_, rfl⟩
  obtain ⟨mp, hmp⟩ : ∃ z, p.num.natAbs = z := ⟨_, rfl⟩
  obtain ⟨dp, hdp⟩ : ∃ z, denN p.den = z := ⟨_, rfl⟩
  obtain ⟨sq, hsq⟩ : ∃ z, decide (q.num < 0) = z := ⟨_, rfl⟩
  obtain ⟨mq, hmq⟩ : ∃ z, q.num.natAbs = z := ⟨_, rfl⟩
  obtain ⟨dq, hdq⟩ : ∃ z, denN q.den = z := ⟨_, rfl⟩
  obtain ⟨sy, hsy⟩ : ∃ z, decide (y.num < 0) = z := ⟨_, rfl⟩
  obtain ⟨my, hmy⟩ : ∃ z, y.num.natAbs = z := ⟨_, rfl⟩
  obtain ⟨dy, hdy⟩ : ∃ z, denN y.den = z := ⟨_, rfl⟩
  rw [hsq, hmq, hdq, hsy, hmy, hdy] at hNG
  rw [hsp, hmp, hdp, hsy, hmy, hdy] at hA
  rw [hsp, hmp, hdp, hsq, hmq, hdq]
  rw [hmp] at ha
  rw [hdp] at hb
  rw [hmq] at he
  rw [hdq] at hf
  have HNG := Lib.hid hNG
  have HA := Lib.hid hA
  clear hNG hA hr hy hsp hmp hdp hsq hmq hdq hsy hmy hdy
  obtain ⟨W0, hW0⟩ : ∃ W0, W0 = (((w.alloc (.cells #[.bool sp, .slice a (lenW mp) c, .slice b (lenW dp) d] 40)).alloc (.cells #[.bool sq, .slice e (lenW mq) i, .slice f (lenW dq) g] 40)).alloc (.cells #[.bool false, .slice none 0 0, .slice none 0 0] 40)) := ⟨_, rfl⟩
  have hbs : BS w [⟨w.heap.size, 40, [.bool sp, .slice a (lenW mp) c, .slice b (lenW dp) d]⟩, ⟨w.heap.size + 1, 40, [.bool sq, .slice e (lenW mq) i, .slice f (lenW dq) g]⟩, ⟨w.heap.size + 1 + 1, 40, [.bool false, .slice none 0 0, .slice none 0 0]⟩] [⟨a, c, mp⟩, ⟨b, d, dp⟩, ⟨e, i, mq⟩, ⟨f, g, dq⟩] (((w.alloc (.cells #[.bool sp, .slice a (lenW mp) c, .slice b (lenW dp) d] 40)).alloc (.cells #[.bool sq, .slice e (lenW mq) i, .slice f (lenW dq) g] 40)).alloc (.cells #[.bool false, .slice none 0 0, .slice none 0 0] 40)) :=
      ((((BS.begin [⟨a, c, mp⟩, ⟨b, d, dp⟩, ⟨e, i, mq⟩, ⟨f, g, dq⟩] (fun y hy => by
        rcases List.mem_cons.1 hy with rfl | hy
        · exact ha
        rcases List.mem_cons.1 hy with rfl | hy
        · exact hb
        rcases List.mem_cons.1 hy with rfl | hy
        · exact he
        rw [List.mem_singleton.1 hy]; exact hf)).alloc (p := w.heap.size) rfl 40 [.bool sp, .slice a (lenW mp) c, .slice b (lenW dp) d] rfl).alloc (p := w.heap.size + 1) (by simp) 40 [.bool sq, .slice e (lenW mq) i, .slice f (lenW dq) g] rfl).alloc (p := w.heap.size + 1 + 1) (by simp) 40 [.bool false, .slice none 0 0, .slice none 0 0] rfl)
  rw [← hW0] at hbs
  have HW0 := Lib.hid hW0
  have HN := Lib.hid hbs
  clear hW0 hbs
  clear ha hb he hf
  go_enter Try.func37, Try.ntmps37
  go_upto_region 1 with fail
  rw [← HW0.out]
  replace HN := Lib.hid HN.out.drew
  refine wp_region_held_drew (S := fun W => W.cell? ⟨w.heap.size, 0, none⟩ = some (.bool sp) ∧ W.cell? ⟨w.heap.size, 1, none⟩ = some (.slice a (lenW mp) c) ∧ W.cell? ⟨w.heap.size, 2, none⟩ = some (.slice b (lenW dp) d) ∧ W.cell? ⟨w.heap.size + 1, 0, none⟩ = some (.bool sq) ∧ W.cell? ⟨w.heap.size + 1, 1, none⟩ = some (.slice e (lenW mq) i) ∧ W.cell? ⟨w.heap.size + 1, 2, none⟩ = some (.slice f (lenW dq) g)) (by kernel_rfl) (⟨HN.out.cell 0 0 rfl rfl, HN.out.cell 0 1 rfl rfl, HN.out.cell 0 2 rfl rfl, HN.out.cell 1 0 rfl rfl, HN.out.cell 1 1 rfl rfl, HN.out.cell 1 2 rfl rfl⟩) (fun hHeld => ?_)
  generalize W0.drew = wd at HN hHeld ⊢
  refine tk 0 (some 5) (v := ?_) rfl rfl ?_ ?_
  rotate_left
  · (intro w hSw; (try dsimp only at hSw); go_simp; (try with_reducible rfl))
  simp only [Act.put, stB, stZ, stS]
  refine tk 1 (some 6) (v := ?_) rfl rfl ?_ ?_
  rotate_left
  · (intro w hSw; (try dsimp only at hSw); go_simp; (try with_reducible rfl))
  simp only [Act.put, stB, stZ, stS]
  refine wpAnyH_ready (rs := [2]) (by kernel_rfl) (by simp) ?_
  refine (AllReadyH.cons (o := { dst := some 7, op := Op.call { callee := Callee.value (Operand.func 63), args := #[Operand.tmp 6], argTypes := #[40] }, type := 40, pos := "rat.go:81", after := #[{ on := 1, ground := Ground.data }], guard := none }) rfl (fun K hK => ?_) AllReadyH.nil)
  go_simp
  refine (HNG.out _ (HN.out.nat 2 rfl) (HN.out.nat 3 rfl)).mono ?_
  rintro e w1 ⟨a3, c3, b3, d3, rfl, hq0, hq1, hb⟩
  replace HN := Lib.hid (((HN.out.call hb).got hq0).got hq1)
  clear hb hq0 hq1
  go_wp2_with fail
  refine hK.out _ _ (⟨HN.out.cell 0 0 rfl rfl, HN.out.cell 0 1 rfl rfl, HN.out.cell 0 2 rfl rfl, HN.out.cell 1 0 rfl rfl, HN.out.cell 1 1 rfl rfl, HN.out.cell 1 2 rfl rfl⟩) (fun hHeld2 => ?_)
  clear hK K hHeld
  rename _ => hHeld
  try simp only [Act.put, stB, stZ, stS]
  refine wpAnyH_ready (rs := [3]) (by kernel_rfl) (by simp) ?_
  refine (AllReadyH.cons (o := { dst := some 8, op := Op.call { callee := Callee.value (Operand.func 16), args := #[Operand.tmp 5, Operand.tmp 7], argTypes := #[40, 40] }, type := 40, pos := "rat.go:81", after := #[{ on := 0, ground := Ground.data }, { on := 2, ground := Ground.data }, { on := 2, ground := Ground.chain }], guard := none }) rfl (fun K hK => ?_) AllReadyH.nil)
  go_simp
  refine (HA.out _ _ _ _ _ (HN.out.nat 0 rfl) (HN.out.nat 1 rfl) (HN.out.nat 4 rfl) (HN.out.nat 5 rfl)).mono ?_
  rintro e w2 ⟨a8, c8, b9, d9, rfl, hq0, hq1, hb⟩
  replace HN := Lib.hid (((HN.out.call hb).got hq0).got hq1)
  clear hb hq0 hq1
  go_wp2_with fail
  refine hK.out _ _ (⟨HN.out.cell 0 0 rfl rfl, HN.out.cell 0 1 rfl rfl, HN.out.cell 0 2 rfl rfl, HN.out.cell 1 0 rfl rfl, HN.out.cell 1 1 rfl rfl, HN.out.cell 1 2 rfl rfl⟩) (fun hHeld2 => ?_)
  clear hK K hHeld
  rename _ => hHeld
  try simp only [Act.put, stB, stZ, stS]
  refine wpAnyH_ready (rs := [4]) (by kernel_rfl) (by simp) ?_
  refine (AllReadyH.cons (o := { dst := none, op := Op.store 40 (Operand.tmp 4) (Operand.tmp 8), type := 0, pos := "rat.go:81", after := #[{ on := 3, ground := Ground.data }, { on := 3, ground := Ground.chain }, { on := 0, ground := Ground.phase }, { on := 1, ground := Ground.phase }, { on := 2, ground := Ground.phase }, { on := 3, ground := Ground.phase }], guard := none }) rfl (fun K hK => ?_) AllReadyH.nil)
  have hc0 := HN.out.cell 2 0 rfl rfl
  have hf0 := HN.out.free 2 0 rfl
  have hc1 := HN.out.cell 2 1 rfl rfl
  have hf1 := HN.out.free 2 1 rfl
  have hc2 := HN.out.cell 2 2 rfl rfl
  have hf2 := HN.out.free 2 2 rfl
  go_simp
  clear hc0 hf0 hc1 hf1 hc2 hf2
  replace HN := Lib.hid ((((HN.out).set 2 0 rfl rfl (fun _ => by simp) (.bool (decide (r.num < 0)))).set 2 1 rfl rfl (fun _ => by simp) (.slice a8 (lenW r.num.natAbs) c8)).set 2 2 rfl rfl (fun _ => by simp) (.slice b9 (lenW (denN r.den)) d9))
  refine hK.out _ _ (⟨HN.out.cell 0 0 rfl rfl, HN.out.cell 0 1 rfl rfl, HN.out.cell 0 2 rfl rfl, HN.out.cell 1 0 rfl rfl, HN.out.cell 1 1 rfl rfl, HN.out.cell 1 2 rfl rfl⟩) (fun hHeld2 => ?_)
  clear hK K hHeld
  rename _ => hHeld
  try simp only [Act.put, stB, stZ, stS]
  refine wpAnyH_done (by kernel_rfl) ?_ _
  have j0_2 := HN.out.cell 2 0 rfl rfl
  have j1_2 := HN.out.cell 2 1 rfl rfl
  have j2_2 := HN.out.cell 2 2 rfl rfl
  go_wp2_with fail
  refine bodyPost_ret (v := .agg #[.bool (decide (r.num < 0)), .slice a8 (lenW r.num.natAbs) c8, .slice b9 (lenW (denN r.den)) d9]) (by simp [results, Try.results37, go_sem, j0_2, j1_2, j2_2]) rfl ?_
  exact ⟨a8, c8, b9, d9, rfl, HN.out.nat 6 rfl, HN.out.nat 7 rfl, HN.out.bel⟩
theorem canSub {p q : Rat} (h : CanAdd p (-q)) (u v : Rv) (w : World) (hu : u.ok w) (hv : v.ok w) (e1 : u.q = p) (e2 : v.q = q) : Calls Try.prog 37 #[.agg #[.bool u.s, .slice u.a u.l u.c, .slice u.b u.m u.d], .agg #[.bool v.s, .slice v.a v.l v.c, .slice v.b v.m v.d]] w (RvR (p - q) w) := by
  subst e1 e2
  have e1 := hu.val
  have e2 := hv.val
  unfold Rv.val at e1 e2
  rw [e1, e2, Rat.sub_eq_add_neg]
  refine (rsub_any u.q v.q u.a u.b v.a v.b u.c u.d v.c v.d w hu.num hu.den hv.num hv.den fun a3 c3 b3 d3 W h1 h2 h3 h4 => ?_).mono fun e w' hr => RvR.of hr
  have h5 := h ⟨u.s, u.a, u.l, u.c, u.b, u.m, u.d, u.q⟩ ⟨decide ((-v.q).num < 0), a3, lenW (-v.q).num.natAbs, c3, b3, lenW (denN (-v.q).den), d3, -v.q⟩ W ⟨hu.s, hu.l, hu.m, h1, h2⟩ ⟨rfl, rfl, rfl, h3, h4⟩ rfl rfl
  have e3 : (.agg #[.bool u.s, .slice u.a u.l u.c, .slice u.b u.m u.d] : Value) = ratV u.a u.c u.b u.d u.q := e1
  dsimp only at h5
  rw [e3] at h5
  exact h5.mono fun e w' hr => hr.ret
end Go.Proofs.Ytndndfobkbeolaa
namespace Go.Proofs.Ytndndfobkbeolaa
open Go.RowKit Go.Extern.Stop Go.Stop Go.Extern
structure PRow where
  a : Option Addr
  n : Nat
  c : Nat
  coef : List Rv
  kind : Int
  rhs : Rv
def prowCells (r : PRow) : List Value := [.slice r.a r.n r.c, .int .i64 r.kind, .bool r.rhs.s, .slice r.rhs.a r.rhs.l r.rhs.c, .slice r.rhs.b r.rhs.m r.rhs.d]
theorem prowCells_len (r : PRow) : (prowCells r).length = 5 := rfl
structure PRow.ok (w : World) (r : PRow) : Prop where
  vec : VecW w r.a r.n r.c r.coef
  rhs : r.rhs.ok w
  kind : I64 r.kind
theorem PRow.ok.below {w w' : World} {r : PRow} (h : r.ok w) (hb : Below w.heap.size w w') : r.ok w' := ⟨h.vec.below hb, h.rhs.below hb, h.kind⟩
structure PrW (w : World) (ca : Option Addr) (cn cc : Nat) (ra : Option Addr) (rn rc : Nat) (cs : List Rv) (rows : List PRow) : Prop where
  cost : VecW w ca cn cc cs
  len : rows.length = rn
  sl : Sl w 5 (.slice ra rn rc) rn (rows.flatMap prowCells)
  ok : ∀ r, r ∈ rows → r.ok w
theorem PrW.below {w w' : World} {ca : Option Addr} {cn cc : Nat} {ra : Option Addr} {rn rc : Nat} {cs : List Rv} {rows : List PRow} (h : PrW w ca cn cc ra rn rc cs rows) (hb : Below w.heap.size w w') : PrW w' ca cn cc ra rn rc cs rows :=
  ⟨h.cost.below hb, h.len, h.sl.below hb, fun r hr => (h.ok r hr).below hb⟩
theorem prow_get {w : World} {a : Option Addr} {c : Nat} {rows : List PRow} (h : Sl w 5 (.slice a rows.length c) rows.length (rows.flatMap prowCells)) (k : Nat) (hk : k < rows.length) :
    ∃ b o, a = some ⟨b, o, none⟩ ∧ b < w.heap.size ∧ w.cell? ⟨b, o + k * 5, none⟩ = some (.slice rows[k].a rows[k].n rows[k].c) ∧ w.cell? ⟨b, o + k * 5 + 1, none⟩ = some (.int .i64 rows[k].kind) ∧ w.cell? ⟨b, o + k * 5 + 2, none⟩ = some (.bool rows[k].rhs.s) ∧ w.cell? ⟨b, o + k * 5 + 3, none⟩ = some (.slice rows[k].rhs.a rows[k].rhs.l rows[k].rhs.c) ∧ w.cell? ⟨b, o + k * 5 + 4, none⟩ = some (.slice rows[k].rhs.b rows[k].rhs.m rows[k].rhs.d) := by
  obtain ⟨b, o, c', e, h1, h2, h3, h4⟩ := h.plain (by omega)
  cases e
  have hc := fun j u hj => h4 _ u (flat_at prowCells 5 prowCells_len rows k hk j u hj)
  have c0 := hc 0 _ rfl
  have c1 := hc 1 _ rfl
  have c2 := hc 2 _ rfl
  have c3 := hc 3 _ rfl
  have c4 := hc 4 _ rfl
  simp only [← Nat.add_assoc, Nat.add_zero] at c0 c1 c2 c3 c4
  exact ⟨b, o, rfl, h3, c0, c1, c2, c3, c4⟩
theorem PrW.get {w : World} {ca : Option Addr} {cn cc : Nat} {ra : Option Addr} {rn rc : Nat} {cs : List Rv} {rows : List PRow} (h : PrW w ca cn cc ra rn rc cs rows) (k : Nat) (hk : k < rn) :
    ∃ b o r, ra = some ⟨b, o, none⟩ ∧ rows[k]? = some r ∧ b < w.heap.size ∧ w.cell? ⟨b, o + k * 5, none⟩ = some (.slice r.a r.n r.c) ∧ w.cell? ⟨b, o + k * 5 + 1, none⟩ = some (.int .i64 r.kind) ∧ w.cell? ⟨b, o + k * 5 + 2, none⟩ = some (.bool r.rhs.s) ∧ w.cell? ⟨b, o + k * 5 + 3, none⟩ = some (.slice r.rhs.a r.rhs.l r.rhs.c) ∧ w.cell? ⟨b, o + k * 5 + 4, none⟩ = some (.slice r.rhs.b r.rhs.m r.rhs.d) ∧ r.ok w := by
  obtain ⟨hc, hl, hs, ho⟩ := h
  subst hl
  obtain ⟨b, o, e, hb, h0, h1, h2, h3, h4⟩ := prow_get hs k hk
  exact ⟨b, o, rows[k], e, List.getElem?_eq_getElem hk, hb, h0, h1, h2, h3, h4, ho _ (List.getElem_mem hk)⟩
theorem PrW.lenI {w : World} {ca : Option Addr} {cn cc : Nat} {ra : Option Addr} {rn rc : Nat} {cs : List Rv} {rows : List PRow} (h : PrW w ca cn cc ra rn rc cs rows) : cn ≤ 9223372036854775807 ∧ rn ≤ 9223372036854775807 := ⟨h.cost.sl.lenI.1, h.sl.lenI.1⟩
set_option maxRecDepth 100000 in
set_option maxHeartbeats 8000000 in
theorem over_eq (a : Option Addr) (n c : Nat) (kd : Int) (h : Rv) (us : List Rv) (xa : Option Addr) (xc : Nat) (xs : List Rv) (w : World) (hu1 : VecW w a n c us) (hh : h.ok w) (hx : VecW w xa n xc xs) (hcd : CanDot (qs us) (qs xs)) (hca : CanAdd (dotQ (qs us) (qs xs)) (-h.q)) : Calls Try.prog 13 #[.agg #[.slice a n c, .int .i64 kd, .bool h.s, .slice h.a h.l h.c, .slice h.b h.m h.d], .slice xa n xc] w (RetRB2 (dotQ (qs us) (qs xs) - h.q) true w) := by
  have HU := Lib.hid (fun (W : World) (hb : Below w.heap.size w W) => hu1.below hb)
  have HX := Lib.hid (fun (W : World) (hb : Below w.heap.size w W) => hx.below hb)
  have HH := Lib.hid (fun (W : World) (hb : Below w.heap.size w W) => hh.below hb)
  have HCD := Lib.hid hcd
  have HCA := Lib.hid hca
  clear hu1 hx hh hcd hca
  obtain ⟨W0, hW0⟩ : ∃ W0, W0 = ((w.alloc (.cells #[.slice a n c, .int .i64 kd, .bool h.s, .slice h.a h.l h.c, .slice h.b h.m h.d] 45)).alloc (.cells #[.bool false, .slice none 0 0, .slice none 0 0] 40)) := ⟨_, rfl⟩
  have hbs : BS w [⟨w.heap.size, 45, [.slice a n c, .int .i64 kd, .bool h.s, .slice h.a h.l h.c, .slice h.b h.m h.d]⟩, ⟨w.heap.size + 1, 40, [.bool false, .slice none 0 0, .slice none 0 0]⟩] [] ((w.alloc (.cells #[.slice a n c, .int .i64 kd, .bool h.s, .slice h.a h.l h.c, .slice h.b h.m h.d] 45)).alloc (.cells #[.bool false, .slice none 0 0, .slice none 0 0] 40)) :=
      (((BS.start w).alloc (p := w.heap.size) rfl 45 [.slice a n c, .int .i64 kd, .bool h.s, .slice h.a h.l h.c, .slice h.b h.m h.d] rfl).alloc (p := w.heap.size + 1) (by simp) 40 [.bool false, .slice none 0 0, .slice none 0 0] rfl)
  rw [← hW0] at hbs
  have HW0 := Lib.hid hW0
  have HN := Lib.hid hbs
  clear hW0 hbs
  go_enter Try.func13, Try.ntmps13
  go_wp2_with fail
  rw [← HW0.out]
  refine (vdot_eq a xa n c xc us xs _ (HU.out _ HN.out.bel) (HX.out _ HN.out.bel) HCD.out).mono ?_
  rintro e w1 ⟨v, rfl, ho, hq, hb⟩
  replace HN := Lib.hid (HN.out.call hb)
  have HV := Lib.hid (fun (W : World) (h1 : Below w1.heap.size w1 W) => ho.below h1)
  have HQ := Lib.hid hq
  clear ho hq hb
  unfold Rv.val
  have k00 := HN.out.cell 0 0 rfl rfl
  have f00 := HN.out.free 0 0 rfl
  have k01 := HN.out.cell 0 1 rfl rfl
  have f01 := HN.out.free 0 1 rfl
  have k02 := HN.out.cell 0 2 rfl rfl
  have f02 := HN.out.free 0 2 rfl
  have k03 := HN.out.cell 0 3 rfl rfl
  have f03 := HN.out.free 0 3 rfl
  have k04 := HN.out.cell 0 4 rfl rfl
  have f04 := HN.out.free 0 4 rfl
  have l0 := HN.out.lt 0 rfl
  have k10 := HN.out.cell 1 0 rfl rfl
  have f10 := HN.out.free 1 0 rfl
  have k11 := HN.out.cell 1 1 rfl rfl
  have f11 := HN.out.free 1 1 rfl
  have k12 := HN.out.cell 1 2 rfl rfl
  have f12 := HN.out.free 1 2 rfl
  have l1 := HN.out.lt 1 rfl
  have HP := Lib.hid (HN.out.alloc (p := w1.heap.size) rfl 40 [.bool v.s, .slice v.a v.l v.c, .slice v.b v.m v.d] rfl)
  have k00p := HP.out.cell 0 0 rfl rfl
  have f00p := HP.out.free 0 0 rfl
  have k01p := HP.out.cell 0 1 rfl rfl
  have f01p := HP.out.free 0 1 rfl
  have k02p := HP.out.cell 0 2 rfl rfl
  have f02p := HP.out.free 0 2 rfl
  have k03p := HP.out.cell 0 3 rfl rfl
  have f03p := HP.out.free 0 3 rfl
  have k04p := HP.out.cell 0 4 rfl rfl
  have f04p := HP.out.free 0 4 rfl
  have k10p := HP.out.cell 1 0 rfl rfl
  have f10p := HP.out.free 1 0 rfl
  have k11p := HP.out.cell 1 1 rfl rfl
  have f11p := HP.out.free 1 1 rfl
  have k12p := HP.out.cell 1 2 rfl rfl
  have f12p := HP.out.free 1 2 rfl
  have k20p := HP.out.cell 2 0 rfl rfl
  have f20p := HP.out.free 2 0 rfl
  have k21p := HP.out.cell 2 1 rfl rfl
  have f21p := HP.out.free 2 1 rfl
  have k22p := HP.out.cell 2 2 rfl rfl
  have f22p := HP.out.free 2 2 rfl
  go_wp2_with fail
  clear k00 f00 k01 f01 k02 f02 k03 f03 k04 f04 l0 k10 f10 k11 f11 k12 f12 l1 k00p f00p k01p f01p k02p f02p k03p f03p k04p f04p k10p f10p k11p f11p k12p f12p k20p f20p k21p f21p k22p f22p HN
  have HN := HP
  clear HP
  have HBA := Lib.hid (belowBox w1 (.cells #[.bool v.s, .slice v.a v.l v.c, .slice v.b v.m v.d] 40))
  generalize (w1.alloc (.cells #[.bool v.s, .slice v.a v.l v.c, .slice v.b v.m v.d] 40)) = wa1 at HN HBA ⊢
  have HB2 := Lib.hid (show Below w1.heap.size w1 wa1 from HBA.out)
  refine (canSub HCA.out v h _ (HV.out _ HB2.out) (HH.out _ HN.out.bel) HQ.out rfl).mono ?_
  rintro e w2 ⟨r, rfl, ho, hq, hb⟩
  replace HN := Lib.hid (HN.out.call hb)
  have HV2 := Lib.hid ho
  have HQ2 := Lib.hid hq
  clear ho hq hb
  unfold Rv.val
  have k00 := HN.out.cell 0 0 rfl rfl
  have f00 := HN.out.free 0 0 rfl
  have k01 := HN.out.cell 0 1 rfl rfl
  have f01 := HN.out.free 0 1 rfl
  have k02 := HN.out.cell 0 2 rfl rfl
  have f02 := HN.out.free 0 2 rfl
  have k03 := HN.out.cell 0 3 rfl rfl
  have f03 := HN.out.free 0 3 rfl
  have k04 := HN.out.cell 0 4 rfl rfl
  have f04 := HN.out.free 0 4 rfl
  have k10 := HN.out.cell 1 0 rfl rfl
  have f10 := HN.out.free 1 0 rfl
  have k11 := HN.out.cell 1 1 rfl rfl
  have f11 := HN.out.free 1 1 rfl
  have k12 := HN.out.cell 1 2 rfl rfl
  have f12 := HN.out.free 1 2 rfl
  have k20 := HN.out.cell 2 0 rfl rfl
  have f20 := HN.out.free 2 0 rfl
  have k21 := HN.out.cell 2 1 rfl rfl
  have f21 := HN.out.free 2 1 rfl
  have k22 := HN.out.cell 2 2 rfl rfl
  have f22 := HN.out.free 2 2 rfl
  have HE := Lib.hid ((((HN.out).set 1 0 rfl rfl (fun _ => by simp) (.bool r.s)).set 1 1 rfl rfl (fun _ => by simp) (.slice r.a r.l r.c)).set 1 2 rfl rfl (fun _ => by simp) (.slice r.b r.m r.d))
  have j0_1 := HE.out.cell 1 0 rfl rfl
  have j1_1 := HE.out.cell 1 1 rfl rfl
  have j2_1 := HE.out.cell 1 2 rfl rfl
  go_wp2_with fail
  refine bodyPost_ret (v := .tuple #[.agg #[.bool r.s, .slice r.a r.l r.c, .slice r.b r.m r.d], .bool true]) (by simp [results, Try.results13, go_sem, j0_1, j1_1, j2_1, k00, k01, k02, k03, k04, k10, k11, k12, k20, k21, k22]) rfl ?_
  exact ⟨r, rfl, HV2.out.keeps (set3k w2 _ _ _ _) (fun q hq => by rw [hq]; exact noWord_of (HN.out.at 1 rfl) (show (40 : Nat) ≠ 128 by decide)), HQ2.out, HE.out.bel⟩
set_option maxRecDepth 100000 in
set_option maxHeartbeats 8000000 in
theorem over_ne (a : Option Addr) (n c : Nat) (kd : Int) (h : Rv) (xa : Option Addr) (m xc : Nat) (w : World) (h1 : n ≤ 9223372036854775807) (h2 : m ≤ 9223372036854775807) (hne : n ≠ m) : Calls Try.prog 13 #[.agg #[.slice a n c, .int .i64 kd, .bool h.s, .slice h.a h.l h.c, .slice h.b h.m h.d], .slice xa m xc] w (RetRB2 0 false w) := by
  have HD := Lib.hid (fun W => vdot_ne a xa n m c xc W h1 h2 hne)
  clear h1 h2 hne
  obtain ⟨W0, hW0⟩ : ∃ W0, W0 = ((w.alloc (.cells #[.slice a n c, .int .i64 kd, .bool h.s, .slice h.a h.l h.c, .slice h.b h.m h.d] 45)).alloc (.cells #[.bool false, .slice none 0 0, .slice none 0 0] 40)) := ⟨_, rfl⟩
  have hbs : BS w [⟨w.heap.size, 45, [.slice a n c, .int .i64 kd, .bool h.s, .slice h.a h.l h.c, .slice h.b h.m h.d]⟩, ⟨w.heap.size + 1, 40, [.bool false, .slice none 0 0, .slice none 0 0]⟩] [] ((w.alloc (.cells #[.slice a n c, .int .i64 kd, .bool h.s, .slice h.a h.l h.c, .slice h.b h.m h.d] 45)).alloc (.cells #[.bool false, .slice none 0 0, .slice none 0 0] 40)) :=
      (((BS.start w).alloc (p := w.heap.size) rfl 45 [.slice a n c, .int .i64 kd, .bool h.s, .slice h.a h.l h.c, .slice h.b h.m h.d] rfl).alloc (p := w.heap.size + 1) (by simp) 40 [.bool false, .slice none 0 0, .slice none 0 0] rfl)
  rw [← hW0] at hbs
  have HW0 := Lib.hid hW0
  have HN := Lib.hid hbs
  clear hW0 hbs
  go_enter Try.func13, Try.ntmps13
  go_wp2_with fail
  rw [← HW0.out]
  refine (HD.out _).mono ?_
  rintro e w1 ⟨v, rfl, ho, hq, hb⟩
  replace HN := Lib.hid (HN.out.call hb)
  clear ho hq hb HD
  unfold Rv.val
  have hat := HN.out.at 1 rfl
  have hl := HN.out.lt 1 rfl
  have hl0 := HN.out.lt 0 rfl
  have hge := HN.out.ge 1 rfl
  have k0 := HN.out.cell 0 0 rfl rfl
  have r0 := HN.out.cell 1 0 rfl rfl
  have r1 := HN.out.cell 1 1 rfl rfl
  have r2 := HN.out.cell 1 2 rfl rfl
  have q0 := HN.out.free 1 0 rfl
  have q1 := HN.out.free 1 1 rfl
  have q2 := HN.out.free 1 2 rfl
  have hne : w1.heap.size ≠ w.heap.size + 1 := by dsimp only at hl; omega
  go_wp2_with fail
  have hs := set3_heap w1 (w.heap.size + 1) _ _ _ (.bool false) (.slice none 0 0) (.slice none 0 0) 40 hat
  have j0 := cell_of_block (j := 0) hs rfl
  have j1 := cell_of_block (j := 1) hs rfl
  have j2 := cell_of_block (j := 2) hs rfl
  refine bodyPost_ret (v := .tuple #[.agg #[.bool Rv.zero.s, .slice Rv.zero.a Rv.zero.l Rv.zero.c, .slice Rv.zero.b Rv.zero.m Rv.zero.d], .bool false]) (by simp [results, Try.results13, go_sem, World.cell?_alloc_lt, hl, j0, j1, j2, Rv.zero]) rfl ?_
  exact ⟨Rv.zero, rfl, Rv.zero_ok _, rfl, (((HN.out.bel.setCell hge _).setCell hge _).setCell hge _).alloc (by have := HN.out.bel.size; simp; omega) _⟩
def holdsQ (kd : Int) (q : Rat) : Bool := if kd = 1 then decide (q.num ≤ 0) else if kd = 2 then decide (0 ≤ q.num) else decide (kd = 3) && decide (q = 0)
theorem signZ_le (z : Int) : (decide (signZ z ≤ 0)) = decide (z ≤ 0) := by
  refine decide_eq_decide.2 ?_
  unfold signZ
  repeat' split
  all_goals omega
theorem signZ_ge (z : Int) : (decide (0 ≤ signZ z)) = decide (0 ≤ z) := by
  refine decide_eq_decide.2 ?_
  unfold signZ
  repeat' split
  all_goals omega
set_option maxRecDepth 100000 in
set_option maxHeartbeats 8000000 in
theorem holds_no (a : Option Addr) (n c : Nat) (kd : Int) (h : Rv) (xa : Option Addr) (m xc : Nat) (q : Rat) (w : World) (hov : ∀ W : World, Below w.heap.size w W → Calls Try.prog 13 #[.agg #[.slice a n c, .int .i64 kd, .bool h.s, .slice h.a h.l h.c, .slice h.b h.m h.d], .slice xa m xc] W (RetRB2 q false W))  : Calls Try.prog 17 #[.agg #[.slice a n c, .int .i64 kd, .bool h.s, .slice h.a h.l h.c, .slice h.b h.m h.d], .slice xa m xc] w fun e w' => e = .returned (.bool (false)) ∧ Below w.heap.size w w' := by
  have HOV := Lib.hid hov
  clear hov

  obtain ⟨W0, hW0⟩ : ∃ W0, W0 = (w.alloc (.cells #[.slice a n c, .int .i64 kd, .bool h.s, .slice h.a h.l h.c, .slice h.b h.m h.d] 45)) := ⟨_, rfl⟩
  have hbs : BS w [⟨w.heap.size, 45, [.slice a n c, .int .i64 kd, .bool h.s, .slice h.a h.l h.c, .slice h.b h.m h.d]⟩] [] (w.alloc (.cells #[.slice a n c, .int .i64 kd, .bool h.s, .slice h.a h.l h.c, .slice h.b h.m h.d] 45)) :=
      ((BS.start w).alloc (p := w.heap.size) rfl 45 [.slice a n c, .int .i64 kd, .bool h.s, .slice h.a h.l h.c, .slice h.b h.m h.d] rfl)
  rw [← hW0] at hbs
  have HW0 := Lib.hid hW0
  have HN := Lib.hid hbs
  clear hW0 hbs
  go_enter Try.func17, Try.ntmps17
  go_wp2_with fail
  rw [← HW0.out]
  refine (HOV.out _ HN.out.bel).mono ?_
  rintro e w1 ⟨v, rfl, ho, hq, hb⟩
  replace HN := Lib.hid (HN.out.call hb)
  have HV := Lib.hid (fun (W : World) (h1 : Below w1.heap.size w1 W) => ho.below h1)
  have HQ := Lib.hid hq
  clear ho hq hb HOV
  unfold Rv.val
  have k00 := HN.out.cell 0 0 rfl rfl
  have f00 := HN.out.free 0 0 rfl
  have k01 := HN.out.cell 0 1 rfl rfl
  have f01 := HN.out.free 0 1 rfl
  have k02 := HN.out.cell 0 2 rfl rfl
  have f02 := HN.out.free 0 2 rfl
  have k03 := HN.out.cell 0 3 rfl rfl
  have f03 := HN.out.free 0 3 rfl
  have k04 := HN.out.cell 0 4 rfl rfl
  have f04 := HN.out.free 0 4 rfl
  have l0 := HN.out.lt 0 rfl
  have HP := Lib.hid (HN.out.alloc (p := w1.heap.size) rfl 40 [.bool v.s, .slice v.a v.l v.c, .slice v.b v.m v.d] rfl)
  have k00p := HP.out.cell 0 0 rfl rfl
  have f00p := HP.out.free 0 0 rfl
  have k01p := HP.out.cell 0 1 rfl rfl
  have f01p := HP.out.free 0 1 rfl
  have k02p := HP.out.cell 0 2 rfl rfl
  have f02p := HP.out.free 0 2 rfl
  have k03p := HP.out.cell 0 3 rfl rfl
  have f03p := HP.out.free 0 3 rfl
  have k04p := HP.out.cell 0 4 rfl rfl
  have f04p := HP.out.free 0 4 rfl
  have k10p := HP.out.cell 1 0 rfl rfl
  have f10p := HP.out.free 1 0 rfl
  have k11p := HP.out.cell 1 1 rfl rfl
  have f11p := HP.out.free 1 1 rfl
  have k12p := HP.out.cell 1 2 rfl rfl
  have f12p := HP.out.free 1 2 rfl
  go_wp2_with fail
  clear k00 f00 k01 f01 k02 f02 k03 f03 k04 f04 l0 k00p f00p k01p f01p k02p f02p k03p f03p k04p f04p k10p f10p k11p f11p k12p f12p HN
  have HN := HP
  clear HP
  generalize (w1.alloc (.cells #[.bool v.s, .slice v.a v.l v.c, .slice v.b v.m v.d] 40)) = wa1 at HN ⊢
  go_ret
  exact ⟨rfl, HN.out.bel⟩
set_option maxRecDepth 100000 in
set_option maxHeartbeats 8000000 in
theorem holds_le (a : Option Addr) (n c : Nat) (kd : Int) (h : Rv) (xa : Option Addr) (m xc : Nat) (q : Rat) (w : World) (hov : ∀ W : World, Below w.heap.size w W → Calls Try.prog 13 #[.agg #[.slice a n c, .int .i64 kd, .bool h.s, .slice h.a h.l h.c, .slice h.b h.m h.d], .slice xa m xc] W (RetRB2 q true W)) (hk : kd = 1) : Calls Try.prog 17 #[.agg #[.slice a n c, .int .i64 kd, .bool h.s, .slice h.a h.l h.c, .slice h.b h.m h.d], .slice xa m xc] w fun e w' => e = .returned (.bool (holdsQ kd q)) ∧ Below w.heap.size w w' := by
  have HOV := Lib.hid hov
  clear hov
  subst hk
  obtain ⟨z, hz⟩ : ∃ z, signZ q.num = z := ⟨_, rfl⟩
  have hz2 : decide (z ≤ 0) = holdsQ 1 q := by rw [← hz]; exact signZ_le q.num
  obtain ⟨B, hB⟩ : ∃ B, holdsQ 1 q = B := ⟨_, rfl⟩
  rw [hB] at hz2 ⊢
  have HZ := Lib.hid hz
  have HZ2 := Lib.hid hz2
  clear hz hz2 hB
  obtain ⟨W0, hW0⟩ : ∃ W0, W0 = (w.alloc (.cells #[.slice a n c, .int .i64 1, .bool h.s, .slice h.a h.l h.c, .slice h.b h.m h.d] 45)) := ⟨_, rfl⟩
  have hbs : BS w [⟨w.heap.size, 45, [.slice a n c, .int .i64 1, .bool h.s, .slice h.a h.l h.c, .slice h.b h.m h.d]⟩] [] (w.alloc (.cells #[.slice a n c, .int .i64 1, .bool h.s, .slice h.a h.l h.c, .slice h.b h.m h.d] 45)) :=
      ((BS.start w).alloc (p := w.heap.size) rfl 45 [.slice a n c, .int .i64 1, .bool h.s, .slice h.a h.l h.c, .slice h.b h.m h.d] rfl)
  rw [← hW0] at hbs
  have HW0 := Lib.hid hW0
  have HN := Lib.hid hbs
  clear hW0 hbs
  go_enter Try.func17, Try.ntmps17
  go_wp2_with fail
  rw [← HW0.out]
  refine (HOV.out _ HN.out.bel).mono ?_
  rintro e w1 ⟨v, rfl, ho, hq, hb⟩
  replace HN := Lib.hid (HN.out.call hb)
  have HV := Lib.hid (fun (W : World) (h1 : Below w1.heap.size w1 W) => ho.below h1)
  have HQ := Lib.hid hq
  clear ho hq hb HOV
  unfold Rv.val
  have k00 := HN.out.cell 0 0 rfl rfl
  have f00 := HN.out.free 0 0 rfl
  have k01 := HN.out.cell 0 1 rfl rfl
  have f01 := HN.out.free 0 1 rfl
  have k02 := HN.out.cell 0 2 rfl rfl
  have f02 := HN.out.free 0 2 rfl
  have k03 := HN.out.cell 0 3 rfl rfl
  have f03 := HN.out.free 0 3 rfl
  have k04 := HN.out.cell 0 4 rfl rfl
  have f04 := HN.out.free 0 4 rfl
  have l0 := HN.out.lt 0 rfl
  have HP := Lib.hid (HN.out.alloc (p := w1.heap.size) rfl 40 [.bool v.s, .slice v.a v.l v.c, .slice v.b v.m v.d] rfl)
  have k00p := HP.out.cell 0 0 rfl rfl
  have f00p := HP.out.free 0 0 rfl
  have k01p := HP.out.cell 0 1 rfl rfl
  have f01p := HP.out.free 0 1 rfl
  have k02p := HP.out.cell 0 2 rfl rfl
  have f02p := HP.out.free 0 2 rfl
  have k03p := HP.out.cell 0 3 rfl rfl
  have f03p := HP.out.free 0 3 rfl
  have k04p := HP.out.cell 0 4 rfl rfl
  have f04p := HP.out.free 0 4 rfl
  have k10p := HP.out.cell 1 0 rfl rfl
  have f10p := HP.out.free 1 0 rfl
  have k11p := HP.out.cell 1 1 rfl rfl
  have f11p := HP.out.free 1 1 rfl
  have k12p := HP.out.cell 1 2 rfl rfl
  have f12p := HP.out.free 1 2 rfl
  go_wp2_with fail
  clear k00 f00 k01 f01 k02 f02 k03 f03 k04 f04 l0 k00p f00p k01p f01p k02p f02p k03p f03p k04p f04p k10p f10p k11p f11p k12p f12p HN
  have HN := HP
  clear HP
  have HBA := Lib.hid (belowBox w1 (.cells #[.bool v.s, .slice v.a v.l v.c, .slice v.b v.m v.d] 40))
  generalize (w1.alloc (.cells #[.bool v.s, .slice v.a v.l v.c, .slice v.b v.m v.d] 40)) = wa1 at HN HBA ⊢
  refine (rv_sign v _ (HV.out _ HBA.out)).mono ?_
  rintro e w2 ⟨rfl, hb⟩
  replace HN := Lib.hid (HN.out.call hb)
  clear hb HV
  rw [HQ.out, HZ.out]
  have k00 := HN.out.cell 0 0 rfl rfl
  have f00 := HN.out.free 0 0 rfl
  have k01 := HN.out.cell 0 1 rfl rfl
  have f01 := HN.out.free 0 1 rfl
  have k02 := HN.out.cell 0 2 rfl rfl
  have f02 := HN.out.free 0 2 rfl
  have k03 := HN.out.cell 0 3 rfl rfl
  have f03 := HN.out.free 0 3 rfl
  have k04 := HN.out.cell 0 4 rfl rfl
  have f04 := HN.out.free 0 4 rfl
  have k10 := HN.out.cell 1 0 rfl rfl
  have f10 := HN.out.free 1 0 rfl
  have k11 := HN.out.cell 1 1 rfl rfl
  have f11 := HN.out.free 1 1 rfl
  have k12 := HN.out.cell 1 2 rfl rfl
  have f12 := HN.out.free 1 2 rfl
  go_wp2
  clear k00 f00 k01 f01 k02 f02 k03 f03 k04 f04 k10 f10 k11 f11 k12 f12
  go_ret
  exact ⟨by rw [← HZ2.out]; rfl, HN.out.bel⟩
set_option maxRecDepth 100000 in
set_option maxHeartbeats 8000000 in
theorem holds_ge (a : Option Addr) (n c : Nat) (kd : Int) (h : Rv) (xa : Option Addr) (m xc : Nat) (q : Rat) (w : World) (hov : ∀ W : World, Below w.heap.size w W → Calls Try.prog 13 #[.agg #[.slice a n c, .int .i64 kd, .bool h.s, .slice h.a h.l h.c, .slice h.b h.m h.d], .slice xa m xc] W (RetRB2 q true W)) (hk : kd = 2) : Calls Try.prog 17 #[.agg #[.slice a n c, .int .i64 kd, .bool h.s, .slice h.a h.l h.c, .slice h.b h.m h.d], .slice xa m xc] w fun e w' => e = .returned (.bool (holdsQ kd q)) ∧ Below w.heap.size w w' := by
  have HOV := Lib.hid hov
  clear hov
  subst hk
  obtain ⟨z, hz⟩ : ∃ z, signZ q.num = z := ⟨_, rfl⟩
  have hz2 : decide (0 ≤ z) = holdsQ 2 q := by rw [← hz]; exact signZ_ge q.num
  obtain ⟨B, hB⟩ : ∃ B, holdsQ 2 q = B := ⟨_, rfl⟩
  rw [hB] at hz2 ⊢
  have HZ := Lib.hid hz
  have HZ2 := Lib.hid hz2
  clear hz hz2 hB
  obtain ⟨W0, hW0⟩ : ∃ W0, W0 = (w.alloc (.cells #[.slice a n c, .int .i64 2, .bool h.s, .slice h.a h.l h.c, .slice h.b h.m h.d] 45)) := ⟨_, rfl⟩
  have hbs : BS w [⟨w.heap.size, 45, [.slice a n c, .int .i64 2, .bool h.s, .slice h.a h.l h.c, .slice h.b h.m h.d]⟩] [] (w.alloc (.cells #[.slice a n c, .int .i64 2, .bool h.s, .slice h.a h.l h.c, .slice h.b h.m h.d] 45)) :=
      ((BS.start w).alloc (p := w.heap.size) rfl 45 [.slice a n c, .int .i64 2, .bool h.s, .slice h.a h.l h.c, .slice h.b h.m h.d] rfl)
  rw [← hW0] at hbs
  have HW0 := Lib.hid hW0
  have HN := Lib.hid hbs
  clear hW0 hbs
  go_enter Try.func17, Try.ntmps17
  go_wp2_with fail
  rw [← HW0.out]
  refine (HOV.out _ HN.out.bel).mono ?_
  rintro e w1 ⟨v, rfl, ho, hq, hb⟩
  replace HN := Lib.hid (HN.out.call hb)
  have HV := Lib.hid (fun (W : World) (h1 : Below w1.heap.size w1 W) => ho.below h1)
  have HQ := Lib.hid hq
  clear ho hq hb HOV
  unfold Rv.val
  have k00 := HN.out.cell 0 0 rfl rfl
  have f00 := HN.out.free 0 0 rfl
  have k01 := HN.out.cell 0 1 rfl rfl
  have f01 := HN.out.free 0 1 rfl
  have k02 := HN.out.cell 0 2 rfl rfl
  have f02 := HN.out.free 0 2 rfl
  have k03 := HN.out.cell 0 3 rfl rfl
  have f03 := HN.out.free 0 3 rfl
  have k04 := HN.out.cell 0 4 rfl rfl
  have f04 := HN.out.free 0 4 rfl
  have l0 := HN.out.lt 0 rfl
  have HP := Lib.hid (HN.out.alloc (p := w1.heap.size) rfl 40 [.bool v.s, .slice v.a v.l v.c, .slice v.b v.m v.d] rfl)
  have k00p := HP.out.cell 0 0 rfl rfl
  have f00p := HP.out.free 0 0 rfl
  have k01p := HP.out.cell 0 1 rfl rfl
  have f01p := HP.out.free 0 1 rfl
  have k02p := HP.out.cell 0 2 rfl rfl
  have f02p := HP.out.free 0 2 rfl
  have k03p := HP.out.cell 0 3 rfl rfl
  have f03p := HP.out.free 0 3 rfl
  have k04p := HP.out.cell 0 4 rfl rfl
  have f04p := HP.out.free 0 4 rfl
  have k10p := HP.out.cell 1 0 rfl rfl
  have f10p := HP.out.free 1 0 rfl
  have k11p := HP.out.cell 1 1 rfl rfl
  have f11p := HP.out.free 1 1 rfl
  have k12p := HP.out.cell 1 2 rfl rfl
  have f12p := HP.out.free 1 2 rfl
  go_wp2_with fail
  clear k00 f00 k01 f01 k02 f02 k03 f03 k04 f04 l0 k00p f00p k01p f01p k02p f02p k03p f03p k04p f04p k10p f10p k11p f11p k12p f12p HN
  have HN := HP
  clear HP
  have HBA := Lib.hid (belowBox w1 (.cells #[.bool v.s, .slice v.a v.l v.c, .slice v.b v.m v.d] 40))
  generalize (w1.alloc (.cells #[.bool v.s, .slice v.a v.l v.c, .slice v.b v.m v.d] 40)) = wa1 at HN HBA ⊢
  refine (rv_sign v _ (HV.out _ HBA.out)).mono ?_
  rintro e w2 ⟨rfl, hb⟩
  replace HN := Lib.hid (HN.out.call hb)
  clear hb HV
  rw [HQ.out, HZ.out]
  have k00 := HN.out.cell 0 0 rfl rfl
  have f00 := HN.out.free 0 0 rfl
  have k01 := HN.out.cell 0 1 rfl rfl
  have f01 := HN.out.free 0 1 rfl
  have k02 := HN.out.cell 0 2 rfl rfl
  have f02 := HN.out.free 0 2 rfl
  have k03 := HN.out.cell 0 3 rfl rfl
  have f03 := HN.out.free 0 3 rfl
  have k04 := HN.out.cell 0 4 rfl rfl
  have f04 := HN.out.free 0 4 rfl
  have k10 := HN.out.cell 1 0 rfl rfl
  have f10 := HN.out.free 1 0 rfl
  have k11 := HN.out.cell 1 1 rfl rfl
  have f11 := HN.out.free 1 1 rfl
  have k12 := HN.out.cell 1 2 rfl rfl
  have f12 := HN.out.free 1 2 rfl
  go_wp2
  clear k00 f00 k01 f01 k02 f02 k03 f03 k04 f04 k10 f10 k11 f11 k12 f12
  go_ret
  exact ⟨by rw [← HZ2.out]; rfl, HN.out.bel⟩
set_option maxRecDepth 100000 in
set_option maxHeartbeats 8000000 in
theorem holds_eq (a : Option Addr) (n c : Nat) (kd : Int) (h : Rv) (xa : Option Addr) (m xc : Nat) (q : Rat) (w : World) (hov : ∀ W : World, Below w.heap.size w W → Calls Try.prog 13 #[.agg #[.slice a n c, .int .i64 kd, .bool h.s, .slice h.a h.l h.c, .slice h.b h.m h.d], .slice xa m xc] W (RetRB2 q true W)) (hk : kd = 3) : Calls Try.prog 17 #[.agg #[.slice a n c, .int .i64 kd, .bool h.s, .slice h.a h.l h.c, .slice h.b h.m h.d], .slice xa m xc] w fun e w' => e = .returned (.bool (holdsQ kd q)) ∧ Below w.heap.size w w' := by
  have HOV := Lib.hid hov
  clear hov
  subst hk
  have hz2 : decide (q = 0) = holdsQ 3 q := by unfold holdsQ; simp
  obtain ⟨B, hB⟩ : ∃ B, holdsQ 3 q = B := ⟨_, rfl⟩
  rw [hB] at hz2 ⊢
  have HZ2 := Lib.hid hz2
  clear hz2 hB
  obtain ⟨W0, hW0⟩ : ∃ W0, W0 = (w.alloc (.cells #[.slice a n c, .int .i64 3, .bool h.s, .slice h.a h.l h.c, .slice h.b h.m h.d] 45)) := ⟨_, rfl⟩
  have hbs : BS w [⟨w.heap.size, 45, [.slice a n c, .int .i64 3, .bool h.s, .slice h.a h.l h.c, .slice h.b h.m h.d]⟩] [] (w.alloc (.cells #[.slice a n c, .int .i64 3, .bool h.s, .slice h.a h.l h.c, .slice h.b h.m h.d] 45)) :=
      ((BS.start w).alloc (p := w.heap.size) rfl 45 [.slice a n c, .int .i64 3, .bool h.s, .slice h.a h.l h.c, .slice h.b h.m h.d] rfl)
  rw [← hW0] at hbs
  have HW0 := Lib.hid hW0
  have HN := Lib.hid hbs
  clear hW0 hbs
  go_enter Try.func17, Try.ntmps17
  go_wp2_with fail
  rw [← HW0.out]
  refine (HOV.out _ HN.out.bel).mono ?_
  rintro e w1 ⟨v, rfl, ho, hq, hb⟩
  replace HN := Lib.hid (HN.out.call hb)
  have HV := Lib.hid (fun (W : World) (h1 : Below w1.heap.size w1 W) => ho.below h1)
  have HQ := Lib.hid hq
  clear ho hq hb HOV
  unfold Rv.val
  have k00 := HN.out.cell 0 0 rfl rfl
  have f00 := HN.out.free 0 0 rfl
  have k01 := HN.out.cell 0 1 rfl rfl
  have f01 := HN.out.free 0 1 rfl
  have k02 := HN.out.cell 0 2 rfl rfl
  have f02 := HN.out.free 0 2 rfl
  have k03 := HN.out.cell 0 3 rfl rfl
  have f03 := HN.out.free 0 3 rfl
  have k04 := HN.out.cell 0 4 rfl rfl
  have f04 := HN.out.free 0 4 rfl
  have l0 := HN.out.lt 0 rfl
  have HP := Lib.hid (HN.out.alloc (p := w1.heap.size) rfl 40 [.bool v.s, .slice v.a v.l v.c, .slice v.b v.m v.d] rfl)
  have k00p := HP.out.cell 0 0 rfl rfl
  have f00p := HP.out.free 0 0 rfl
  have k01p := HP.out.cell 0 1 rfl rfl
  have f01p := HP.out.free 0 1 rfl
  have k02p := HP.out.cell 0 2 rfl rfl
  have f02p := HP.out.free 0 2 rfl
  have k03p := HP.out.cell 0 3 rfl rfl
  have f03p := HP.out.free 0 3 rfl
  have k04p := HP.out.cell 0 4 rfl rfl
  have f04p := HP.out.free 0 4 rfl
  have k10p := HP.out.cell 1 0 rfl rfl
  have f10p := HP.out.free 1 0 rfl
  have k11p := HP.out.cell 1 1 rfl rfl
  have f11p := HP.out.free 1 1 rfl
  have k12p := HP.out.cell 1 2 rfl rfl
  have f12p := HP.out.free 1 2 rfl
  go_wp2_with fail
  clear k00 f00 k01 f01 k02 f02 k03 f03 k04 f04 l0 k00p f00p k01p f01p k02p f02p k03p f03p k04p f04p k10p f10p k11p f11p k12p f12p HN
  have HN := HP
  clear HP
  have HBA := Lib.hid (belowBox w1 (.cells #[.bool v.s, .slice v.a v.l v.c, .slice v.b v.m v.d] 40))
  generalize (w1.alloc (.cells #[.bool v.s, .slice v.a v.l v.c, .slice v.b v.m v.d] 40)) = wa1 at HN HBA ⊢
  refine (rv_zero v _ (HV.out _ HBA.out)).mono ?_
  rintro e w2 ⟨rfl, hb⟩
  replace HN := Lib.hid (HN.out.call hb)
  clear hb HV
  rw [HQ.out, HZ2.out]
  have k00 := HN.out.cell 0 0 rfl rfl
  have f00 := HN.out.free 0 0 rfl
  have k01 := HN.out.cell 0 1 rfl rfl
  have f01 := HN.out.free 0 1 rfl
  have k02 := HN.out.cell 0 2 rfl rfl
  have f02 := HN.out.free 0 2 rfl
  have k03 := HN.out.cell 0 3 rfl rfl
  have f03 := HN.out.free 0 3 rfl
  have k04 := HN.out.cell 0 4 rfl rfl
  have f04 := HN.out.free 0 4 rfl
  have k10 := HN.out.cell 1 0 rfl rfl
  have f10 := HN.out.free 1 0 rfl
  have k11 := HN.out.cell 1 1 rfl rfl
  have f11 := HN.out.free 1 1 rfl
  have k12 := HN.out.cell 1 2 rfl rfl
  have f12 := HN.out.free 1 2 rfl
  go_wp2
  clear k00 f00 k01 f01 k02 f02 k03 f03 k04 f04 k10 f10 k11 f11 k12 f12
  go_ret
  exact ⟨rfl, HN.out.bel⟩
set_option maxRecDepth 100000 in
set_option maxHeartbeats 8000000 in
theorem holds_other (a : Option Addr) (n c : Nat) (kd : Int) (h : Rv) (xa : Option Addr) (m xc : Nat) (q : Rat) (w : World) (hov : ∀ W : World, Below w.heap.size w W → Calls Try.prog 13 #[.agg #[.slice a n c, .int .i64 kd, .bool h.s, .slice h.a h.l h.c, .slice h.b h.m h.d], .slice xa m xc] W (RetRB2 q true W)) (hk1 : kd ≠ 1) (hk2 : kd ≠ 2) (hk3 : kd ≠ 3) : Calls Try.prog 17 #[.agg #[.slice a n c, .int .i64 kd, .bool h.s, .slice h.a h.l h.c, .slice h.b h.m h.d], .slice xa m xc] w fun e w' => e = .returned (.bool (holdsQ kd q)) ∧ Below w.heap.size w w' := by
  have HOV := Lib.hid hov
  clear hov
  have hz2 : holdsQ kd q = false := by unfold holdsQ; rw [if_neg hk1, if_neg hk2, decide_eq_false hk3]; rfl
  rw [hz2]
  have e1 : (kd == 1) = false := beq_eq_false_iff_ne.2 hk1
  have e2 : (kd == 2) = false := beq_eq_false_iff_ne.2 hk2
  have e3 : (kd == 3) = false := beq_eq_false_iff_ne.2 hk3
  clear hz2
  obtain ⟨W0, hW0⟩ : ∃ W0, W0 = (w.alloc (.cells #[.slice a n c, .int .i64 kd, .bool h.s, .slice h.a h.l h.c, .slice h.b h.m h.d] 45)) := ⟨_, rfl⟩
  have hbs : BS w [⟨w.heap.size, 45, [.slice a n c, .int .i64 kd, .bool h.s, .slice h.a h.l h.c, .slice h.b h.m h.d]⟩] [] (w.alloc (.cells #[.slice a n c, .int .i64 kd, .bool h.s, .slice h.a h.l h.c, .slice h.b h.m h.d] 45)) :=
      ((BS.start w).alloc (p := w.heap.size) rfl 45 [.slice a n c, .int .i64 kd, .bool h.s, .slice h.a h.l h.c, .slice h.b h.m h.d] rfl)
  rw [← hW0] at hbs
  have HW0 := Lib.hid hW0
  have HN := Lib.hid hbs
  clear hW0 hbs
  go_enter Try.func17, Try.ntmps17
  go_wp2_with fail
  rw [← HW0.out]
  refine (HOV.out _ HN.out.bel).mono ?_
  rintro e w1 ⟨v, rfl, ho, hq, hb⟩
  replace HN := Lib.hid (HN.out.call hb)
  have HV := Lib.hid (fun (W : World) (h1 : Below w1.heap.size w1 W) => ho.below h1)
  have HQ := Lib.hid hq
  clear ho hq hb HOV
  unfold Rv.val
  have k00 := HN.out.cell 0 0 rfl rfl
  have f00 := HN.out.free 0 0 rfl
  have k01 := HN.out.cell 0 1 rfl rfl
  have f01 := HN.out.free 0 1 rfl
  have k02 := HN.out.cell 0 2 rfl rfl
  have f02 := HN.out.free 0 2 rfl
  have k03 := HN.out.cell 0 3 rfl rfl
  have f03 := HN.out.free 0 3 rfl
  have k04 := HN.out.cell 0 4 rfl rfl
  have f04 := HN.out.free 0 4 rfl
  have l0 := HN.out.lt 0 rfl
  have HP := Lib.hid (HN.out.alloc (p := w1.heap.size) rfl 40 [.bool v.s, .slice v.a v.l v.c, .slice v.b v.m v.d] rfl)
  have k00p := HP.out.cell 0 0 rfl rfl
  have f00p := HP.out.free 0 0 rfl
  have k01p := HP.out.cell 0 1 rfl rfl
  have f01p := HP.out.free 0 1 rfl
  have k02p := HP.out.cell 0 2 rfl rfl
  have f02p := HP.out.free 0 2 rfl
  have k03p := HP.out.cell 0 3 rfl rfl
  have f03p := HP.out.free 0 3 rfl
  have k04p := HP.out.cell 0 4 rfl rfl
  have f04p := HP.out.free 0 4 rfl
  have k10p := HP.out.cell 1 0 rfl rfl
  have f10p := HP.out.free 1 0 rfl
  have k11p := HP.out.cell 1 1 rfl rfl
  have f11p := HP.out.free 1 1 rfl
  have k12p := HP.out.cell 1 2 rfl rfl
  have f12p := HP.out.free 1 2 rfl
  go_wp2_with fail
  clear k00 f00 k01 f01 k02 f02 k03 f03 k04 f04 l0 k00p f00p k01p f01p k02p f02p k03p f03p k04p f04p k10p f10p k11p f11p k12p f12p HN
  have HN := HP
  clear HP
  generalize (w1.alloc (.cells #[.bool v.s, .slice v.a v.l v.c, .slice v.b v.m v.d] 40)) = wa1 at HN ⊢
  go_ret
  exact ⟨rfl, HN.out.bel⟩
def rowHolds (r : PRow) (xs : List Rv) (m : Nat) : Bool := decide (r.n = m) && holdsQ r.kind (dotQ (qs r.coef) (qs xs) - r.rhs.q)
def CanOver (r : PRow) (xs : List Rv) : Prop := CanDot (qs r.coef) (qs xs) ∧ CanAdd (dotQ (qs r.coef) (qs xs)) (-r.rhs.q)
theorem holds_any (r : PRow) (xa : Option Addr) (m xc : Nat) (xs : List Rv) (w : World) (hr : r.ok w) (hx : VecW w xa m xc xs) (hc : r.n = m → CanOver r xs) : Calls Try.prog 17 #[.agg #[.slice r.a r.n r.c, .int .i64 r.kind, .bool r.rhs.s, .slice r.rhs.a r.rhs.l r.rhs.c, .slice r.rhs.b r.rhs.m r.rhs.d], .slice xa m xc] w fun e w' => e = .returned (.bool (rowHolds r xs m)) ∧ Below w.heap.size w w' := by
  by_cases hn : r.n = m
  · subst hn
    unfold rowHolds
    rw [decide_eq_true rfl, Bool.true_and]
    have hov := fun (W : World) (hb : Below w.heap.size w W) => over_eq r.a r.n r.c r.kind r.rhs r.coef xa xc xs W (hr.vec.below hb) (hr.rhs.below hb) (hx.below hb) (hc rfl).1 (hc rfl).2
    by_cases h1 : r.kind = 1
    · exact holds_le r.a r.n r.c r.kind r.rhs xa r.n xc _ w hov h1
    · by_cases h2 : r.kind = 2
      · exact holds_ge r.a r.n r.c r.kind r.rhs xa r.n xc _ w hov h2
      · by_cases h3 : r.kind = 3
        · exact holds_eq r.a r.n r.c r.kind r.rhs xa r.n xc _ w hov h3
        · exact holds_other r.a r.n r.c r.kind r.rhs xa r.n xc _ w hov h1 h2 h3
  · unfold rowHolds
    rw [decide_eq_false hn, Bool.false_and]
    exact holds_no r.a r.n r.c r.kind r.rhs xa m xc 0 w (fun W hb => over_ne r.a r.n r.c r.kind r.rhs xa m xc W hr.vec.sl.lenI.1 hx.sl.lenI.1 hn)
end Go.Proofs.Ytndndfobkbeolaa
namespace Go.Proofs.Ytndndfobkbeolaa
open Go.RowKit Go.Extern.Stop Go.Stop Go.Extern
def mayAt (cn : Nat) : Nat → List PRow → Fl
  | _, [] => noF
  | k, r :: rs => if r.n ≠ cn then (2, whRow, (k : Int)) else if r.kind < 1 ∨ 3 < r.kind then (160, whRow, (k : Int)) else mayAt cn (k + 1) rs
theorem mayAt_nil (cn k : Nat) : mayAt cn k [] = noF := rfl
theorem mayAt_cons (cn k : Nat) (r : PRow) (rs : List PRow) : mayAt cn k (r :: rs) = if r.n ≠ cn then (2, whRow, (k : Int)) else if r.kind < 1 ∨ 3 < r.kind then (160, whRow, (k : Int)) else mayAt cn (k + 1) rs := rfl
def mayF (cn : Nat) (rows : List PRow) : Fl := if 24 < cn ∨ 20 < rows.length then (2, noWh, 0) else mayAt cn 0 rows
set_option maxRecDepth 100000 in
set_option maxHeartbeats 8000000 in
theorem may_cols (ca : Option Addr) (cn cc : Nat) (ra : Option Addr) (rn rc : Nat) (cs : List Rv) (rows : List PRow) (w : World) (h : PrW w ca cn cc ra rn rc cs rows) (h1 : 24 < cn) : Calls Try.prog 53 #[.agg #[.slice ca cn cc, .slice ra rn rc]] w fun e w' => ∃ v, e = .returned v ∧ ErrV w' w.heap.size (mayF cn rows) v ∧ Below w.heap.size w w' := by
  have hF : mayF cn rows = (2, noWh, 0) := by unfold mayF; rw [if_pos (by have := h.len; omega)]
  have hln := h.lenI
  obtain ⟨w1, hw1⟩ : ∃ w1, w.alloc (.cells #[.slice ca cn cc, .slice ra rn rc] 31) = w1 := ⟨_, rfl⟩
  obtain ⟨pb, hpb⟩ : ∃ pb, w.heap.size = pb := ⟨_, rfl⟩
  have hb1 : Below w.heap.size w w1 := by rw [← hw1]; exact belowBox w (.cells #[.slice ca cn cc, .slice ra rn rc] 31)
  have p0 : w1.cell? ⟨pb, 0, none⟩ = some (.slice ca cn cc) := by rw [← hw1, ← hpb]; simp
  have p1 : w1.cell? ⟨pb, 1, none⟩ = some (.slice ra rn rc) := by rw [← hw1, ← hpb]; simp
  have hpl : pb < w1.heap.size := by rw [← hw1, ← hpb]; simp
  have HB1 := Lib.hid hb1
  have HW1 := Lib.hid hw1
  have HPB := Lib.hid hpb
  have HF := Lib.hid hF
  have hcl : (24 : Int) < (cn : Int) := by omega
  clear h hb1 hw1 hpb hF
  go_enter Try.func53, Try.ntmps53
  go_upto_region 1 with fail
  (try simp only [HW1.out])
  (try simp only [HPB.out])
  clear HW1
  go_wp2_with fail
  go_ret
  exact ⟨eE 2, rfl, by rw [HF.out]; exact ErrV.num _ _ (by decide), HB1.out⟩
set_option maxRecDepth 100000 in
set_option maxHeartbeats 8000000 in
theorem may_rows (ca : Option Addr) (cn cc : Nat) (ra : Option Addr) (rn rc : Nat) (cs : List Rv) (rows : List PRow) (w : World) (h : PrW w ca cn cc ra rn rc cs rows) (h1 : ¬ 24 < cn) (h2 : 20 < rn) : Calls Try.prog 53 #[.agg #[.slice ca cn cc, .slice ra rn rc]] w fun e w' => ∃ v, e = .returned v ∧ ErrV w' w.heap.size (mayF cn rows) v ∧ Below w.heap.size w w' := by
  have hF : mayF cn rows = (2, noWh, 0) := by unfold mayF; rw [if_pos (by have := h.len; omega)]
  have hln := h.lenI
  obtain ⟨w1, hw1⟩ : ∃ w1, w.alloc (.cells #[.slice ca cn cc, .slice ra rn rc] 31) = w1 := ⟨_, rfl⟩
  obtain ⟨pb, hpb⟩ : ∃ pb, w.heap.size = pb := ⟨_, rfl⟩
  have hb1 : Below w.heap.size w w1 := by rw [← hw1]; exact belowBox w (.cells #[.slice ca cn cc, .slice ra rn rc] 31)
  have p0 : w1.cell? ⟨pb, 0, none⟩ = some (.slice ca cn cc) := by rw [← hw1, ← hpb]; simp
  have p1 : w1.cell? ⟨pb, 1, none⟩ = some (.slice ra rn rc) := by rw [← hw1, ← hpb]; simp
  have hpl : pb < w1.heap.size := by rw [← hw1, ← hpb]; simp
  have HB1 := Lib.hid hb1
  have HW1 := Lib.hid hw1
  have HPB := Lib.hid hpb
  have HF := Lib.hid hF
  have hcl : ¬ (24 : Int) < (cn : Int) := by omega
  have hrl : (20 : Int) < (rn : Int) := by omega
  clear h hb1 hw1 hpb hF
  go_enter Try.func53, Try.ntmps53
  go_upto_region 1 with fail
  (try simp only [HW1.out])
  (try simp only [HPB.out])
  clear HW1
  go_wp2_with fail
  go_ret
  exact ⟨eE 2, rfl, by rw [HF.out]; exact ErrV.num _ _ (by decide), HB1.out⟩
set_option maxRecDepth 100000 in
set_option maxHeartbeats 8000000 in
theorem may_fits (ca : Option Addr) (cn cc : Nat) (ra : Option Addr) (rn rc : Nat) (cs : List Rv) (rows : List PRow) (w : World) (h : PrW w ca cn cc ra rn rc cs rows) (h1 : ¬ 24 < cn) (h2 : ¬ 20 < rn) : Calls Try.prog 53 #[.agg #[.slice ca cn cc, .slice ra rn rc]] w fun e w' => ∃ v, e = .returned v ∧ ErrV w' w.heap.size (mayF cn rows) v ∧ Below w.heap.size w w' := by
  have hF0 : mayF cn rows = mayAt cn 0 rows := by unfold mayF; rw [if_neg (by have := h.len; omega)]
  rw [hF0]
  clear hF0
  have hln := h.lenI
  obtain ⟨w1, hw1⟩ : ∃ w1, w.alloc (.cells #[.slice ca cn cc, .slice ra rn rc] 31) = w1 := ⟨_, rfl⟩
  obtain ⟨pb, hpb⟩ : ∃ pb, w.heap.size = pb := ⟨_, rfl⟩
  have hb1 : Below w.heap.size w w1 := by rw [← hw1]; exact belowBox w (.cells #[.slice ca cn cc, .slice ra rn rc] 31)
  have p0 : w1.cell? ⟨pb, 0, none⟩ = some (.slice ca cn cc) := by rw [← hw1, ← hpb]; simp
  have p1 : w1.cell? ⟨pb, 1, none⟩ = some (.slice ra rn rc) := by rw [← hw1, ← hpb]; simp
  have hpl : pb < w1.heap.size := by rw [← hw1, ← hpb]; simp
  have HP := Lib.hid (h.below hb1)
  have HLEN := Lib.hid h.len
  have HB1 := Lib.hid hb1
  have HW1 := Lib.hid hw1
  have HPB := Lib.hid hpb
  have hcl : ¬ (24 : Int) < (cn : Int) := by omega
  have hrl : ¬ (20 : Int) < (rn : Int) := by omega
  clear h hb1 hw1 hpb h1 h2
  go_enter Try.func53, Try.ntmps53
  go_upto_region 1 with fail
  (try simp only [HW1.out])
  (try simp only [HPB.out])
  clear HW1
  go_wp2_with fail
  go_loopw [19] (fun iv wr => ∃ k : Nat, k ≤ rn ∧ iv = .int .i64 k ∧ mayAt cn 0 rows = mayAt cn k (rows.drop k) ∧ Below w1.heap.size w1 wr) (fun iv _ => rn - (intOf iv).toNat)
  case atStart => exact ⟨0, Nat.zero_le _, rfl, rfl, Below.refl _ _⟩
  case round =>
    obtain ⟨k, hk9, rfl, hF, hb⟩ := hrel
    have HB := Lib.hid hb
    by_cases hlt : k < rn
    · have q0 := (hb.cell (p := ⟨pb, 0, none⟩) hpl).trans p0
      have qa : ∀ o, (wr.alloc o).cell? ⟨pb, 0, none⟩ = some (.slice ca cn cc) := fun o => ((hb.alloc hb.size o).cell (p := ⟨pb, 0, none⟩) hpl).trans p0
      obtain ⟨b, o, r, e1, e2, hbl, x0, x1, x2, x3, x4, hok⟩ := (HP.out.below hb).get k hlt
      have hd := List.drop_eq_getElem_cons (by rw [HLEN.out]; exact hlt : k < rows.length)
      rw [(List.getElem?_eq_some_iff.1 e2).2] at hd
      rw [hd] at hF
      rw [mayAt_cons] at hF
      have hn := hok.vec.sl.lenI
      have hkd := hok.kind
      unfold I64 at hkd
      have i0 : (0 : Int) ≤ (k : Int) := by omega
      have i1 : (k : Int) < (rn : Int) := by omega
      subst e1
      by_cases hne : r.n = cn
      · rw [if_neg (by omega : ¬ r.n ≠ cn)] at hF
        have hne2 : ((r.n : Int) != (cn : Int)) = false := by rw [hne]; simp
        by_cases hk1 : r.kind < 1
        · rw [if_pos (.inl hk1)] at hF
          have HFF := Lib.hid hF
          clear hb e2 hok hd hF hkd
          go_wp2_with fail
          refine (wrap_E 160 whRow (k : Int) _).mono ?_
          rintro e w2 ⟨rfl, hi, rfl⟩
          rw [World.size_alloc] at hi
          have HI := Lib.hid hi
          clear hi
          go_wp2_with fail
          go_ret
          have hsz := HB1.out.size
          have hsz2 := HB.out.size
          exact ⟨_, rfl, by rw [HFF.out]; exact ErrV.place (by decide) whRow_ne (by omega) HI.out, bthen HB1.out (bthen HB.out (bthen (belowBox wr _) (belowBox _ _)))⟩
        · by_cases hk3 : 3 < r.kind
          · rw [if_pos (.inr hk3)] at hF
            have HFF := Lib.hid hF
            clear hb e2 hok hd hF hkd
            go_wp2_with fail
            refine (wrap_E 160 whRow (k : Int) _).mono ?_
            rintro e w2 ⟨rfl, hi, rfl⟩
            rw [World.size_alloc] at hi
            have HI := Lib.hid hi
            clear hi
            go_wp2_with fail
            go_ret
            have hsz := HB1.out.size
            have hsz2 := HB.out.size
            exact ⟨_, rfl, by rw [HFF.out]; exact ErrV.place (by decide) whRow_ne (by omega) HI.out, bthen HB1.out (bthen HB.out (bthen (belowBox wr _) (belowBox _ _)))⟩
          · rw [if_neg (fun h => h.elim hk1 hk3)] at hF
            have HFF := Lib.hid hF
            clear hb e2 hok hd hF hkd
            go_wp2_with fail
            go_roundw
            case rel => exact ⟨k + 1, by omega, by go_num, HFF.out, bthen HB.out (belowBox wr _)⟩
            case measure => simp [intOf]; omega
      · rw [if_pos hne] at hF
        have hne2 : ((r.n : Int) != (cn : Int)) = true := by simp; omega
        have HFF := Lib.hid hF
        clear hb e2 hok hd hF hkd hne
        go_wp2_with fail
        refine (wrap_E 2 whRow (k : Int) _).mono ?_
        rintro e w2 ⟨rfl, hi, rfl⟩
        rw [World.size_alloc] at hi
        have HI := Lib.hid hi
        clear hi
        go_wp2_with fail
        go_ret
        have hsz := HB1.out.size
        have hsz2 := HB.out.size
        exact ⟨_, rfl, by rw [HFF.out]; exact ErrV.place (by decide) whRow_ne (by omega) HI.out, bthen HB1.out (bthen HB.out (bthen (belowBox wr _) (belowBox _ _)))⟩
    · obtain rfl : k = rn := by omega
      rw [List.drop_of_length_le (by rw [HLEN.out]; exact Nat.le_refl _), mayAt_nil] at hF
      have HFF := Lib.hid hF
      clear hb hF
      go_wp2_with fail
      go_ret
      exact ⟨_, rfl, by rw [HFF.out]; exact ErrV.nil0 _ _, bthen HB1.out HB.out⟩
theorem may_any (ca : Option Addr) (cn cc : Nat) (ra : Option Addr) (rn rc : Nat) (cs : List Rv) (rows : List PRow) (w : World) (h : PrW w ca cn cc ra rn rc cs rows) : Calls Try.prog 53 #[.agg #[.slice ca cn cc, .slice ra rn rc]] w fun e w' => ∃ v, e = .returned v ∧ ErrV w' w.heap.size (mayF cn rows) v ∧ Below w.heap.size w w' := by
  by_cases h1 : 24 < cn
  · exact may_cols ca cn cc ra rn rc cs rows w h h1
  · by_cases h2 : 20 < rn
    · exact may_rows ca cn cc ra rn rc cs rows w h h1 h2
    · exact may_fits ca cn cc ra rn rc cs rows w h h1 h2
def fitsQ (cn : Nat) (rows : List PRow) (xs : List Rv) (m : Nat) : Bool := decide (m = cn) && !belowQ (qs xs) && rows.all fun r => rowHolds r xs m
theorem all_take {α : Type} {f : α → Bool} {l : List α} {k : Nat} {x : α} (h : (l.take k).all f = true) (hk : l[k]? = some x) : (l.take (k + 1)).all f = f x := by
  obtain ⟨h1, rfl⟩ := List.getElem?_eq_some_iff.1 hk
  rw [List.take_succ_eq_append_getElem h1, List.all_append, h]
  simp
theorem all_more {α : Type} {f : α → Bool} {l : List α} {k : Nat} (h : (l.take k).all f = false) : l.all f = false := by
  rw [← List.take_append_drop k l, List.all_append, h]; rfl
set_option maxRecDepth 100000 in
set_option maxHeartbeats 8000000 in
theorem fits_any (ca : Option Addr) (cn cc : Nat) (ra : Option Addr) (rn rc : Nat) (cs : List Rv) (rows : List PRow) (w : World) (h : PrW w ca cn cc ra rn rc cs rows) (xa : Option Addr) (m xc : Nat) (xs : List Rv) (hx : VecW w xa m xc xs) (hc : ∀ r, r ∈ rows → r.n = m → m = cn → CanOver r xs) : Calls Try.prog 19 #[.agg #[.slice ca cn cc, .slice ra rn rc], .slice xa m xc] w fun e w' => e = .returned (.bool (fitsQ cn rows xs m)) ∧ Below w.heap.size w w' := by
  have hln := h.lenI
  have hxl := hx.sl.lenI
  obtain ⟨w1, hw1⟩ : ∃ w1, w.alloc (.cells #[.slice ca cn cc, .slice ra rn rc] 31) = w1 := ⟨_, rfl⟩
  obtain ⟨pb, hpb⟩ : ∃ pb, w.heap.size = pb := ⟨_, rfl⟩
  have hb1 : Below w.heap.size w w1 := by rw [← hw1]; exact belowBox w (.cells #[.slice ca cn cc, .slice ra rn rc] 31)
  have p0 : w1.cell? ⟨pb, 0, none⟩ = some (.slice ca cn cc) := by rw [← hw1, ← hpb]; simp
  have p1 : w1.cell? ⟨pb, 1, none⟩ = some (.slice ra rn rc) := by rw [← hw1, ← hpb]; simp
  have hpl : pb < w1.heap.size := by rw [← hw1, ← hpb]; simp
  have HP := Lib.hid (h.below hb1)
  have HX := Lib.hid (hx.below hb1)
  have HLEN := Lib.hid h.len
  have HB1 := Lib.hid hb1
  have HW1 := Lib.hid hw1
  have HPB := Lib.hid hpb
  have HC := Lib.hid hc
  have HVB := Lib.hid (fun (W : World) (hb : Below w1.heap.size w1 W) => vbelow_any xa m xc xs W ((hx.below hb1).below hb))
  clear h hx hb1 hw1 hpb hc
  obtain ⟨FQ, hFQ⟩ : ∃ b, fitsQ cn rows xs m = b := ⟨_, rfl⟩
  rw [hFQ]
  unfold fitsQ at hFQ
  by_cases hmc : m = cn
  · have hne : ((m : Int) != (cn : Int)) = false := by rw [hmc]; simp
    rw [decide_eq_true hmc, Bool.true_and] at hFQ
    obtain ⟨BQ, hBQ⟩ : ∃ b, belowQ (qs xs) = b := ⟨_, rfl⟩
    rw [hBQ] at hFQ HVB
    cases BQ with
    | true =>
      have HFQ := Lib.hid (show FQ = false by rw [← hFQ]; rfl)
      clear hFQ hBQ hmc
      go_enter Try.func19, Try.ntmps19
      go_upto_region 1 with fail
      (try simp only [HW1.out])
      (try simp only [HPB.out])
      clear HW1
      go_wp2_with fail
      refine (HVB.out _ (Below.refl _ _)).mono ?_
      rintro e w2 ⟨rfl, hb⟩
      have HB := Lib.hid hb
      clear hb
      go_wp2_with fail
      go_ret
      exact ⟨by rw [HFQ.out]; rfl, bthen HB1.out HB.out⟩
    | false =>
      have HFQ := Lib.hid (show rows.all (fun r => rowHolds r xs m) = FQ by rw [← hFQ]; rfl)
      have HMC := Lib.hid hmc
      clear hFQ hBQ hmc
      go_enter Try.func19, Try.ntmps19
      go_upto_region 1 with fail
      (try simp only [HW1.out])
      (try simp only [HPB.out])
      clear HW1
      go_wp2_with fail
      refine (HVB.out _ (Below.refl _ _)).mono ?_
      rintro e w2 ⟨rfl, hb⟩
      replace p0 := hu hb p0
      replace p1 := hu hb p1
      have HB := Lib.hid hb
      have HPL := Lib.hid hpl
      clear hb hpl HVB
      go_wp2_with fail
      go_loopw [20] (fun iv wr => ∃ k : Nat, k ≤ rn ∧ iv = .int .i64 k ∧ (rows.take k).all (fun r => rowHolds r xs m) = true ∧ Below w2.heap.size w2 wr) (fun iv _ => rn - (intOf iv).toNat)
      case atStart => exact ⟨0, Nat.zero_le _, rfl, rfl, Below.refl _ _⟩
      case round =>
        obtain ⟨k, hk9, rfl, hT, hb⟩ := hrel
        by_cases hlt : k < rn
        · obtain ⟨b, o, r, e1, e2, hbl, x0, x1, x2, x3, x4, hok⟩ := ((HP.out.below HB.out).below hb).get k hlt
          have hTT := all_take hT e2
          have i0 : (0 : Int) ≤ (k : Int) := by omega
          have i1 : (k : Int) < (rn : Int) := by omega
          have HBB := Lib.hid hb
          have HH := Lib.hid (holds_any r xa m xc xs (wr.alloc (.cells #[.slice r.a r.n r.c, .int .i64 r.kind, .bool r.rhs.s, .slice r.rhs.a r.rhs.l r.rhs.c, .slice r.rhs.b r.rhs.m r.rhs.d] 45)) (hok.below (belowBox wr _)) (((HX.out.below HB.out).below hb).below (belowBox wr _)) (fun hn => HC.out r (List.mem_of_getElem? e2) hn HMC.out))
          obtain ⟨z, hz⟩ : ∃ z, rowHolds r xs m = z := ⟨_, rfl⟩
          rw [hz] at HH hTT
          subst e1
          cases z with
          | true =>
            have HTT := Lib.hid hTT
            clear hT hTT hb e2 hok hz
            go_wp2_with fail
            refine HH.out.mono ?_
            rintro e w3 ⟨rfl, hb⟩
            have HB3 := Lib.hid hb
            clear hb
            go_wp2
            go_roundw
            case rel => exact ⟨k + 1, by omega, by go_num, HTT.out, bthen HBB.out (bthen (belowBox wr _) HB3.out)⟩
            case measure => simp [intOf]; omega
          | false =>
            have HTT := Lib.hid (all_more hTT)
            clear hT hTT hb e2 hok hz
            go_wp2_with fail
            refine HH.out.mono ?_
            rintro e w3 ⟨rfl, hb⟩
            have HB3 := Lib.hid hb
            clear hb
            go_wp2
            go_ret
            exact ⟨by rw [← HFQ.out, HTT.out]; rfl, bthen HB1.out (bthen HB.out (bthen HBB.out (bthen (belowBox wr _) HB3.out)))⟩
        · obtain rfl : k = rn := by omega
          rw [List.take_of_length_le (by rw [HLEN.out]; exact Nat.le_refl _)] at hT
          have HTT := Lib.hid hT
          have HBB := Lib.hid hb
          clear hT hb
          go_wp2
          go_ret
          exact ⟨by rw [← HFQ.out, HTT.out]; rfl, bthen HB1.out (bthen HB.out HBB.out)⟩
  · have hne : ((m : Int) != (cn : Int)) = true := by simp; omega
    rw [decide_eq_false hmc, Bool.false_and, Bool.false_and] at hFQ
    have HFQ := Lib.hid hFQ
    clear hFQ hmc HVB
    go_enter Try.func19, Try.ntmps19
    go_upto_region 1 with fail
    (try simp only [HW1.out])
    (try simp only [HPB.out])
    clear HW1
    go_wp2_with fail
    go_ret
    exact ⟨by rw [← HFQ.out]; rfl, HB1.out⟩
end Go.Proofs.Ytndndfobkbeolaa
namespace Go.Proofs.Ytndndfobkbeolaa
open Go.RowKit
def CanCmpV (us vs : List Rv) : Prop := ∀ (k : Nat) (u v : Rv), us[k]? = some u → vs[k]? = some v → CanCmp u.q v.q
def sameQ (us vs : List Rv) : Prop := us.map (·.q) = vs.map (·.q)
instance (us vs : List Rv) : Decidable (sameQ us vs) := inferInstanceAs (Decidable (_ = _))
def CmpV (us vs : List Rv) (w : World) (e : Ending) (w' : World) : Prop := ∃ z : Int, e = .returned (.int .i64 z) ∧ (z == 0) = decide (sameQ us vs) ∧ Below w.heap.size w w'
theorem take_same {us vs : List Rv} {k : Nat} {u v : Rv} (h : (us.take k).map (·.q) = (vs.take k).map (·.q)) (hu : us[k]? = some u) (hv : vs[k]? = some v) (hq : u.q = v.q) : (us.take (k + 1)).map (·.q) = (vs.take (k + 1)).map (·.q) := by
  obtain ⟨h1, rfl⟩ := List.getElem?_eq_some_iff.1 hu
  obtain ⟨h2, rfl⟩ := List.getElem?_eq_some_iff.1 hv
  rw [List.take_succ_eq_append_getElem h1, List.take_succ_eq_append_getElem h2, List.map_append, List.map_append, h]
  simp [hq]
theorem not_same {us vs : List Rv} {k : Nat} {u v : Rv} (hu : us[k]? = some u) (hv : vs[k]? = some v) (hq : u.q ≠ v.q) : ¬ sameQ us vs := fun h => by
  have h1 : (us.map (·.q))[k]? = some u.q := by rw [List.getElem?_map, hu]; rfl
  have h2 : (vs.map (·.q))[k]? = some v.q := by rw [List.getElem?_map, hv]; rfl
  unfold sameQ at h
  rw [h, h2] at h1
  exact hq (Option.some.inj h1).symm
theorem same_len {us vs : List Rv} (h : sameQ us vs) : us.length = vs.length := by
  have := congrArg List.length h
  simpa using this
set_option maxRecDepth 100000 in
set_option maxHeartbeats 4000000 in
theorem vcmp_eq (a b : Option Addr) (m n c d : Nat) (us vs : List Rv) (w : World) (hu : VecW w a m c us) (hv : VecW w b n d vs) (hcn : CanCmpV us vs) (hmn : m = n) : Calls Try.prog 57 #[.slice a m c, .slice b n d] w (CmpV us vs w) := by
  subst hmn
  have hm1 := hu.sl.lenI
  have hn1 := hv.sl.lenI
  have HU := Lib.hid hu
  have HV := Lib.hid hv
  have HCN := Lib.hid hcn
  clear hu hv hcn
  go_enter Try.func57, Try.ntmps57
  go_wp2
  go_loopw [12] (fun iv wr => ∃ k : Nat, k ≤ m ∧ iv = .int .i64 k ∧ Below w.heap.size w wr ∧ (us.take k).map (·.q) = (vs.take k).map (·.q)) (fun iv _ => m - (intOf iv).toNat)
  case atStart => exact ⟨0, Nat.zero_le _, rfl, Below.refl _ _, rfl⟩
  case round =>
    obtain ⟨k, hk, rfl, hb, ht⟩ := hrel
    have hu := HU.out.below hb
    have hv := HV.out.below hb
    by_cases hlt : k < m
    · obtain ⟨b1, o1, u, rfl, eu, _, p0, p1, p2, uok⟩ := hu.get k (by omega)
      obtain ⟨b2, o2, v, rfl, ev, _, q0, q1, q2, vok⟩ := hv.get k (by omega)
      have i0 : (0 : Int) ≤ (k : Int) := by omega
      have i1 : (k : Int) < (m : Int) := by omega
      have HC := Lib.hid (fun (W : World) (h : Below wr.heap.size wr W) => (HCN.out k u v eu ev u v W (uok.below h) (vok.below h) rfl rfl))
      have HKS := Lib.hid (fun (W : World) (h : Below wr.heap.size wr W) => (⟨(h.cell (p := ⟨b1, o1 + k * 3, none⟩) (World.block_lt_of_cell? _ _ p0)).trans p0, (h.cell (p := ⟨b1, o1 + k * 3 + 1, none⟩) (World.block_lt_of_cell? _ _ p1)).trans p1, (h.cell (p := ⟨b1, o1 + k * 3 + 2, none⟩) (World.block_lt_of_cell? _ _ p2)).trans p2, (h.cell (p := ⟨b2, o2 + k * 3, none⟩) (World.block_lt_of_cell? _ _ q0)).trans q0, (h.cell (p := ⟨b2, o2 + k * 3 + 1, none⟩) (World.block_lt_of_cell? _ _ q1)).trans q1, (h.cell (p := ⟨b2, o2 + k * 3 + 2, none⟩) (World.block_lt_of_cell? _ _ q2)).trans q2⟩ :
        W.cell? ⟨b1, o1 + k * 3, none⟩ = some (.bool u.s) ∧ W.cell? ⟨b1, o1 + k * 3 + 1, none⟩ = some (.slice u.a u.l u.c) ∧ W.cell? ⟨b1, o1 + k * 3 + 2, none⟩ = some (.slice u.b u.m u.d) ∧ W.cell? ⟨b2, o2 + k * 3, none⟩ = some (.bool v.s) ∧ W.cell? ⟨b2, o2 + k * 3 + 1, none⟩ = some (.slice v.a v.l v.c) ∧ W.cell? ⟨b2, o2 + k * 3 + 2, none⟩ = some (.slice v.b v.m v.d)))
      have HDR := Lib.hid (Below.drawn wr 1)
      obtain ⟨z, hz⟩ : ∃ z, cmpR u.q v.q = z := ⟨_, rfl⟩
      rw [hz] at HC
      have HB := Lib.hid hb
      by_cases hq : u.q = v.q
      · have hz0 : z = 0 := by rw [← hz]; exact (cmpR_same _ _).2 hq
        subst hz0
        have HT := Lib.hid (take_same ht eu ev hq)
        clear hu hv p0 p1 p2 q0 q1 q2 uok vok hz hq ht eu ev hb
        go_upto_region 4 with fail
        go_region_held3 (fun W => W.cell? ⟨b1, o1 + k * 3, none⟩ = some (.bool u.s) ∧ W.cell? ⟨b1, o1 + k * 3 + 1, none⟩ = some (.slice u.a u.l u.c) ∧ W.cell? ⟨b1, o1 + k * 3 + 2, none⟩ = some (.slice u.b u.m u.d) ∧ W.cell? ⟨b2, o2 + k * 3, none⟩ = some (.bool v.s) ∧ W.cell? ⟨b2, o2 + k * 3 + 1, none⟩ = some (.slice v.a v.l v.c) ∧ W.cell? ⟨b2, o2 + k * 3 + 2, none⟩ = some (.slice v.b v.m v.d)) (first | exact HKS.out _ HDR.out | exact HKS.out _ (by assumption)) (first
          | (go_at_call 14; refine (HC.out _ HDR.out).mono ?_; rintro e w1 ⟨rfl, hb1⟩; have hbb := bthen HDR.out hb1; have HB1 := Lib.hid hb1; clear hb1))
        all_goals
          go_wp2
          go_roundw
          case rel => exact ⟨k + 1, by omega, by go_num, bthen (bthen HB.out HDR.out) HB1.out, HT.out⟩
          case measure => simp [intOf]; omega
      · have hz0 : z ≠ 0 := by rw [← hz]; exact fun h => hq ((cmpR_same _ _).1 h)
        have hzb : (z != 0) = true := by simp [hz0]
        have HD := Lib.hid (show (z == 0) = decide (sameQ us vs) by rw [decide_eq_false (not_same eu ev hq)]; exact beq_eq_false_iff_ne.2 hz0)
        clear hu hv p0 p1 p2 q0 q1 q2 uok vok hz hq ht eu ev hb hz0
        go_upto_region 4 with fail
        go_region_held3 (fun W => W.cell? ⟨b1, o1 + k * 3, none⟩ = some (.bool u.s) ∧ W.cell? ⟨b1, o1 + k * 3 + 1, none⟩ = some (.slice u.a u.l u.c) ∧ W.cell? ⟨b1, o1 + k * 3 + 2, none⟩ = some (.slice u.b u.m u.d) ∧ W.cell? ⟨b2, o2 + k * 3, none⟩ = some (.bool v.s) ∧ W.cell? ⟨b2, o2 + k * 3 + 1, none⟩ = some (.slice v.a v.l v.c) ∧ W.cell? ⟨b2, o2 + k * 3 + 2, none⟩ = some (.slice v.b v.m v.d)) (first | exact HKS.out _ HDR.out | exact HKS.out _ (by assumption)) (first
          | (go_at_call 14; refine (HC.out _ HDR.out).mono ?_; rintro e w1 ⟨rfl, hb1⟩; have hbb := bthen HDR.out hb1; have HB1 := Lib.hid hb1; clear hb1))
        all_goals
          go_wp2
          go_ret
          exact ⟨z, rfl, HD.out, bthen (bthen HB.out HDR.out) HB1.out⟩
    · obtain rfl : k = m := by omega
      have hs : sameQ us vs := by
        have e1 := hu.len
        have e2 := hv.len
        rw [← e1, List.take_length] at ht
        rw [show us.length = vs.length by omega, List.take_length] at ht
        exact ht
      have HD := Lib.hid (decide_eq_true hs)
      have HB := Lib.hid hb
      clear hu hv hb ht
      go_wp2
      go_ret
      exact ⟨0, rfl, by rw [HD.out]; rfl, HB.out⟩
set_option maxRecDepth 100000 in
set_option maxHeartbeats 4000000 in
theorem vcmp_lt (a b : Option Addr) (m n c d : Nat) (us vs : List Rv) (w : World) (hu : VecW w a m c us) (hv : VecW w b n d vs) (hcn : CanCmpV us vs) (hmn : m < n) : Calls Try.prog 57 #[.slice a m c, .slice b n d] w (CmpV us vs w) := by
  have hm1 := hu.sl.lenI
  have hn1 := hv.sl.lenI
  have HU := Lib.hid hu
  have HV := Lib.hid hv
  have HCN := Lib.hid hcn
  clear hu hv hcn
  go_enter Try.func57, Try.ntmps57
  go_wp2
  go_loopw [12] (fun iv wr => ∃ k : Nat, k ≤ m ∧ iv = .int .i64 k ∧ Below w.heap.size w wr ∧ (us.take k).map (·.q) = (vs.take k).map (·.q)) (fun iv _ => m - (intOf iv).toNat)
  case atStart => exact ⟨0, Nat.zero_le _, rfl, Below.refl _ _, rfl⟩
  case round =>
    obtain ⟨k, hk, rfl, hb, ht⟩ := hrel
    have hu := HU.out.below hb
    have hv := HV.out.below hb
    by_cases hlt : k < m
    · obtain ⟨b1, o1, u, rfl, eu, _, p0, p1, p2, uok⟩ := hu.get k (by omega)
      obtain ⟨b2, o2, v, rfl, ev, _, q0, q1, q2, vok⟩ := hv.get k (by omega)
      have i0 : (0 : Int) ≤ (k : Int) := by omega
      have i1 : (k : Int) < (m : Int) := by omega
      have i2 : (k : Int) < (n : Int) := by omega
      have HC := Lib.hid (fun (W : World) (h : Below wr.heap.size wr W) => (HCN.out k u v eu ev u v W (uok.below h) (vok.below h) rfl rfl))
      have HKS := Lib.hid (fun (W : World) (h : Below wr.heap.size wr W) => (⟨(h.cell (p := ⟨b1, o1 + k * 3, none⟩) (World.block_lt_of_cell? _ _ p0)).trans p0, (h.cell (p := ⟨b1, o1 + k * 3 + 1, none⟩) (World.block_lt_of_cell? _ _ p1)).trans p1, (h.cell (p := ⟨b1, o1 + k * 3 + 2, none⟩) (World.block_lt_of_cell? _ _ p2)).trans p2, (h.cell (p := ⟨b2, o2 + k * 3, none⟩) (World.block_lt_of_cell? _ _ q0)).trans q0, (h.cell (p := ⟨b2, o2 + k * 3 + 1, none⟩) (World.block_lt_of_cell? _ _ q1)).trans q1, (h.cell (p := ⟨b2, o2 + k * 3 + 2, none⟩) (World.block_lt_of_cell? _ _ q2)).trans q2⟩ :
        W.cell? ⟨b1, o1 + k * 3, none⟩ = some (.bool u.s) ∧ W.cell? ⟨b1, o1 + k * 3 + 1, none⟩ = some (.slice u.a u.l u.c) ∧ W.cell? ⟨b1, o1 + k * 3 + 2, none⟩ = some (.slice u.b u.m u.d) ∧ W.cell? ⟨b2, o2 + k * 3, none⟩ = some (.bool v.s) ∧ W.cell? ⟨b2, o2 + k * 3 + 1, none⟩ = some (.slice v.a v.l v.c) ∧ W.cell? ⟨b2, o2 + k * 3 + 2, none⟩ = some (.slice v.b v.m v.d)))
      have HDR := Lib.hid (Below.drawn wr 1)
      obtain ⟨z, hz⟩ : ∃ z, cmpR u.q v.q = z := ⟨_, rfl⟩
      rw [hz] at HC
      have HB := Lib.hid hb
      by_cases hq : u.q = v.q
      · have hz0 : z = 0 := by rw [← hz]; exact (cmpR_same _ _).2 hq
        subst hz0
        have HT := Lib.hid (take_same ht eu ev hq)
        clear hu hv p0 p1 p2 q0 q1 q2 uok vok hz hq ht eu ev hb
        go_upto_region 4 with fail
        go_region_held3 (fun W => W.cell? ⟨b1, o1 + k * 3, none⟩ = some (.bool u.s) ∧ W.cell? ⟨b1, o1 + k * 3 + 1, none⟩ = some (.slice u.a u.l u.c) ∧ W.cell? ⟨b1, o1 + k * 3 + 2, none⟩ = some (.slice u.b u.m u.d) ∧ W.cell? ⟨b2, o2 + k * 3, none⟩ = some (.bool v.s) ∧ W.cell? ⟨b2, o2 + k * 3 + 1, none⟩ = some (.slice v.a v.l v.c) ∧ W.cell? ⟨b2, o2 + k * 3 + 2, none⟩ = some (.slice v.b v.m v.d)) (first | exact HKS.out _ HDR.out | exact HKS.out _ (by assumption)) (first
          | (go_at_call 14; refine (HC.out _ HDR.out).mono ?_; rintro e w1 ⟨rfl, hb1⟩; have hbb := bthen HDR.out hb1; have HB1 := Lib.hid hb1; clear hb1))
        all_goals
          go_wp2
          go_roundw
          case rel => exact ⟨k + 1, by omega, by go_num, bthen (bthen HB.out HDR.out) HB1.out, HT.out⟩
          case measure => simp [intOf]; omega
      · have hz0 : z ≠ 0 := by rw [← hz]; exact fun h => hq ((cmpR_same _ _).1 h)
        have hzb : (z != 0) = true := by simp [hz0]
        have HD := Lib.hid (show (z == 0) = decide (sameQ us vs) by rw [decide_eq_false (not_same eu ev hq)]; exact beq_eq_false_iff_ne.2 hz0)
        clear hu hv p0 p1 p2 q0 q1 q2 uok vok hz hq ht eu ev hb hz0
        go_upto_region 4 with fail
        go_region_held3 (fun W => W.cell? ⟨b1, o1 + k * 3, none⟩ = some (.bool u.s) ∧ W.cell? ⟨b1, o1 + k * 3 + 1, none⟩ = some (.slice u.a u.l u.c) ∧ W.cell? ⟨b1, o1 + k * 3 + 2, none⟩ = some (.slice u.b u.m u.d) ∧ W.cell? ⟨b2, o2 + k * 3, none⟩ = some (.bool v.s) ∧ W.cell? ⟨b2, o2 + k * 3 + 1, none⟩ = some (.slice v.a v.l v.c) ∧ W.cell? ⟨b2, o2 + k * 3 + 2, none⟩ = some (.slice v.b v.m v.d)) (first | exact HKS.out _ HDR.out | exact HKS.out _ (by assumption)) (first
          | (go_at_call 14; refine (HC.out _ HDR.out).mono ?_; rintro e w1 ⟨rfl, hb1⟩; have hbb := bthen HDR.out hb1; have HB1 := Lib.hid hb1; clear hb1))
        all_goals
          go_wp2
          go_ret
          exact ⟨z, rfl, HD.out, bthen (bthen HB.out HDR.out) HB1.out⟩
    · obtain rfl : k = m := by omega
      have HD := Lib.hid (decide_eq_false (fun h : sameQ us vs => by have := same_len h; have := hu.len; have := hv.len; omega))
      have HB := Lib.hid hb
      clear hu hv hb ht
      go_wp2
      go_ret
      exact ⟨-1, rfl, by rw [HD.out]; rfl, HB.out⟩
set_option maxRecDepth 100000 in
set_option maxHeartbeats 4000000 in
theorem vcmp_gt (a b : Option Addr) (m n c d : Nat) (us vs : List Rv) (w : World) (hu : VecW w a m c us) (hv : VecW w b n d vs) (hcn : CanCmpV us vs) (hmn : n < m) : Calls Try.prog 57 #[.slice a m c, .slice b n d] w (CmpV us vs w) := by
  have hm1 := hu.sl.lenI
  have hn1 := hv.sl.lenI
  have HU := Lib.hid hu
  have HV := Lib.hid hv
  have HCN := Lib.hid hcn
  clear hu hv hcn
  go_enter Try.func57, Try.ntmps57
  go_wp2
  go_loopw [12] (fun iv wr => ∃ k : Nat, k ≤ n ∧ iv = .int .i64 k ∧ Below w.heap.size w wr ∧ (us.take k).map (·.q) = (vs.take k).map (·.q)) (fun iv _ => n - (intOf iv).toNat)
  case atStart => exact ⟨0, Nat.zero_le _, rfl, Below.refl _ _, rfl⟩
  case round =>
    obtain ⟨k, hk, rfl, hb, ht⟩ := hrel
    have hu := HU.out.below hb
    have hv := HV.out.below hb
    by_cases hlt : k < n
    · obtain ⟨b1, o1, u, rfl, eu, _, p0, p1, p2, uok⟩ := hu.get k (by omega)
      obtain ⟨b2, o2, v, rfl, ev, _, q0, q1, q2, vok⟩ := hv.get k (by omega)
      have i0 : (0 : Int) ≤ (k : Int) := by omega
      have i1 : (k : Int) < (m : Int) := by omega
      have i2 : (k : Int) < (n : Int) := by omega
      have HC := Lib.hid (fun (W : World) (h : Below wr.heap.size wr W) => (HCN.out k u v eu ev u v W (uok.below h) (vok.below h) rfl rfl))
      have HKS := Lib.hid (fun (W : World) (h : Below wr.heap.size wr W) => (⟨(h.cell (p := ⟨b1, o1 + k * 3, none⟩) (World.block_lt_of_cell? _ _ p0)).trans p0, (h.cell (p := ⟨b1, o1 + k * 3 + 1, none⟩) (World.block_lt_of_cell? _ _ p1)).trans p1, (h.cell (p := ⟨b1, o1 + k * 3 + 2, none⟩) (World.block_lt_of_cell? _ _ p2)).trans p2, (h.cell (p := ⟨b2, o2 + k * 3, none⟩) (World.block_lt_of_cell? _ _ q0)).trans q0, (h.cell (p := ⟨b2, o2 + k * 3 + 1, none⟩) (World.block_lt_of_cell? _ _ q1)).trans q1, (h.cell (p := ⟨b2, o2 + k * 3 + 2, none⟩) (World.block_lt_of_cell? _ _ q2)).trans q2⟩ :
        W.cell? ⟨b1, o1 + k * 3, none⟩ = some (.bool u.s) ∧ W.cell? ⟨b1, o1 + k * 3 + 1, none⟩ = some (.slice u.a u.l u.c) ∧ W.cell? ⟨b1, o1 + k * 3 + 2, none⟩ = some (.slice u.b u.m u.d) ∧ W.cell? ⟨b2, o2 + k * 3, none⟩ = some (.bool v.s) ∧ W.cell? ⟨b2, o2 + k * 3 + 1, none⟩ = some (.slice v.a v.l v.c) ∧ W.cell? ⟨b2, o2 + k * 3 + 2, none⟩ = some (.slice v.b v.m v.d)))
      have HDR := Lib.hid (Below.drawn wr 1)
      obtain ⟨z, hz⟩ : ∃ z, cmpR u.q v.q = z := ⟨_, rfl⟩
      rw [hz] at HC
      have HB := Lib.hid hb
      by_cases hq : u.q = v.q
      · have hz0 : z = 0 := by rw [← hz]; exact (cmpR_same _ _).2 hq
        subst hz0
        have HT := Lib.hid (take_same ht eu ev hq)
        clear hu hv p0 p1 p2 q0 q1 q2 uok vok hz hq ht eu ev hb
        go_upto_region 4 with fail
        go_region_held3 (fun W => W.cell? ⟨b1, o1 + k * 3, none⟩ = some (.bool u.s) ∧ W.cell? ⟨b1, o1 + k * 3 + 1, none⟩ = some (.slice u.a u.l u.c) ∧ W.cell? ⟨b1, o1 + k * 3 + 2, none⟩ = some (.slice u.b u.m u.d) ∧ W.cell? ⟨b2, o2 + k * 3, none⟩ = some (.bool v.s) ∧ W.cell? ⟨b2, o2 + k * 3 + 1, none⟩ = some (.slice v.a v.l v.c) ∧ W.cell? ⟨b2, o2 + k * 3 + 2, none⟩ = some (.slice v.b v.m v.d)) (first | exact HKS.out _ HDR.out | exact HKS.out _ (by assumption)) (first
          | (go_at_call 14; refine (HC.out _ HDR.out).mono ?_; rintro e w1 ⟨rfl, hb1⟩; have hbb := bthen HDR.out hb1; have HB1 := Lib.hid hb1; clear hb1))
        all_goals
          go_wp2
          go_roundw
          case rel => exact ⟨k + 1, by omega, by go_num, bthen (bthen HB.out HDR.out) HB1.out, HT.out⟩
          case measure => simp [intOf]; omega
      · have hz0 : z ≠ 0 := by rw [← hz]; exact fun h => hq ((cmpR_same _ _).1 h)
        have hzb : (z != 0) = true := by simp [hz0]
        have HD := Lib.hid (show (z == 0) = decide (sameQ us vs) by rw [decide_eq_false (not_same eu ev hq)]; exact beq_eq_false_iff_ne.2 hz0)
        clear hu hv p0 p1 p2 q0 q1 q2 uok vok hz hq ht eu ev hb hz0
        go_upto_region 4 with fail
        go_region_held3 (fun W => W.cell? ⟨b1, o1 + k * 3, none⟩ = some (.bool u.s) ∧ W.cell? ⟨b1, o1 + k * 3 + 1, none⟩ = some (.slice u.a u.l u.c) ∧ W.cell? ⟨b1, o1 + k * 3 + 2, none⟩ = some (.slice u.b u.m u.d) ∧ W.cell? ⟨b2, o2 + k * 3, none⟩ = some (.bool v.s) ∧ W.cell? ⟨b2, o2 + k * 3 + 1, none⟩ = some (.slice v.a v.l v.c) ∧ W.cell? ⟨b2, o2 + k * 3 + 2, none⟩ = some (.slice v.b v.m v.d)) (first | exact HKS.out _ HDR.out | exact HKS.out _ (by assumption)) (first
          | (go_at_call 14; refine (HC.out _ HDR.out).mono ?_; rintro e w1 ⟨rfl, hb1⟩; have hbb := bthen HDR.out hb1; have HB1 := Lib.hid hb1; clear hb1))
        all_goals
          go_wp2
          go_ret
          exact ⟨z, rfl, HD.out, bthen (bthen HB.out HDR.out) HB1.out⟩
    · obtain rfl : k = n := by omega
      have HD := Lib.hid (decide_eq_false (fun h : sameQ us vs => by have := same_len h; have := hu.len; have := hv.len; omega))
      have HB := Lib.hid hb
      clear hu hv hb ht
      go_wp2
      go_ret
      exact ⟨1, rfl, by rw [HD.out]; rfl, HB.out⟩
theorem vcmp_any (a b : Option Addr) (m n c d : Nat) (us vs : List Rv) (w : World) (hu : VecW w a m c us) (hv : VecW w b n d vs) (hcn : CanCmpV us vs) : Calls Try.prog 57 #[.slice a m c, .slice b n d] w (CmpV us vs w) := by
  rcases Nat.lt_trichotomy m n with h | h | h
  · exact vcmp_lt a b m n c d us vs w hu hv hcn h
  · exact vcmp_eq a b m n c d us vs w hu hv hcn h
  · exact vcmp_gt a b m n c d us vs w hu hv hcn h
set_option maxHeartbeats 1000000 in
theorem vsame_any (a b : Option Addr) (m n c d : Nat) (us vs : List Rv) (w : World) (hu : VecW w a m c us) (hv : VecW w b n d vs) (hcn : CanCmpV us vs) : Calls Try.prog 24 #[.slice a m c, .slice b n d] w fun e w' => e = .returned (.bool (decide (sameQ us vs))) ∧ Below w.heap.size w w' := by
  have HC := Lib.hid (vcmp_any a b m n c d us vs w hu hv hcn)
  obtain ⟨z2, hz2⟩ : ∃ z, decide (sameQ us vs) = z := ⟨_, rfl⟩
  have HZ := Lib.hid hz2
  rw [hz2]
  clear hu hv hcn hz2
  go_enter Try.func24, Try.ntmps24
  go_wp2_with fail
  refine HC.out.mono ?_
  rintro e w1 ⟨z, rfl, hz, hb⟩
  rw [HZ.out] at hz
  have HB := Lib.hid hb
  have HZZ := Lib.hid hz
  clear hb hz
  go_wp2_with fail
  go_ret
  exact ⟨by rw [← HZZ.out]; rfl, HB.out⟩
end Go.Proofs.Ytndndfobkbeolaa
namespace Go.Proofs.Ytndndfobkbeolaa
open Go.RowKit Go.Extern.Stop Go.Stop Go.Extern
set_option maxHeartbeats 2000000 in
theorem num_any (s0 : Bool) (a b : Option Addr) (l c m d : Nat) (w : World) : Calls Try.prog 58 #[.agg #[.bool s0, .slice a l c, .slice b m d]] w fun e w' => e = .returned (.agg #[.bool s0, .slice a l c]) ∧ Below w.heap.size w w' := by
  go_enter Try.func58, Try.ntmps58
  go_wp2
  refine bodyPost_ret (v := .agg #[.bool s0, .slice a l c]) (by simp [results, Try.results58, go_sem]) rfl ?_
  exact ⟨rfl, bthen (belowBox w _) (belowBox _ _)⟩
theorem rv_icmp (u v : Rv) (w : World) (hu : u.ok w) (hv : v.ok w) (hq : u.q = v.q) : Calls Try.prog 45 #[.agg #[.bool u.s, .slice u.a u.l u.c], .agg #[.bool v.s, .slice v.a v.l v.c]] w fun e w' => e = .returned (.int .i64 0) ∧ Below w.heap.size w w' := by
  have h := icmp_any u.q.num v.q.num u.a v.a u.c v.c w hu.num hv.num
  rw [← hu.s, ← hu.l, ← hv.s, ← hv.l, hq] at h
  have e : cmpI v.q.num v.q.num = 0 := by unfold cmpI; rw [if_neg (Int.lt_irrefl _), if_neg (Int.lt_irrefl _)]
  rw [e] at h
  exact h
theorem rv_den (v : Rv) (w : World) (hv : v.ok w) : Calls Try.prog 52 #[.agg #[.bool v.s, .slice v.a v.l v.c, .slice v.b v.m v.d]] w (RetN v.q.den w) := by
  have h := den_any v.s v.a v.b v.l v.c v.d v.q w hv.den
  rw [← hv.m] at h
  exact h
theorem ncmp_self (a b : Option Addr) (c d m n : Nat) (w : World) (ha : NatW w a c m) (hb : NatW w b d n) (h : m = n) : Calls Try.prog 59 #[.agg #[.slice a (lenW m) c], .agg #[.slice b (lenW n) d]] w fun e w' => e = .returned (.int .i64 0) ∧ Below w.heap.size w w' := by
  subst h
  have h2 := ncmp_any a b c d m m w ha hb
  have e : cmpN m m = 0 := by unfold cmpN cmpI; rw [if_neg (Int.lt_irrefl _), if_neg (Int.lt_irrefl _)]
  rw [e] at h2
  exact h2
set_option maxRecDepth 100000 in
set_option maxHeartbeats 8000000 in
theorem is_yes (u : Rv) (p d : Int) (w : World) (hu1 : u.ok w) (hp : I64 p) (hd : I64 d) (h0 : d ≠ 0) (hq : u.q = Rat.divInt p d) (hcs : CanSame u.q u.q) : Calls Try.prog 30 #[.agg #[.bool u.s, .slice u.a u.l u.c, .slice u.b u.m u.d], .int .i64 p, .int .i64 d] w fun e w' => e = .returned (.bool true) ∧ Below w.heap.size w w' := by
  obtain ⟨w1, hw1⟩ : ∃ w1, w.alloc (.cells #[.bool u.s, .slice u.a u.l u.c, .slice u.b u.m u.d] 40) = w1 := ⟨_, rfl⟩
  obtain ⟨ab, hab⟩ : ∃ ab, w.heap.size = ab := ⟨_, rfl⟩
  have hb1 : Below w.heap.size w w1 := by rw [← hw1]; exact belowBox w _
  have y0 : w1.cell? ⟨ab, 0, none⟩ = some (.bool u.s) := by rw [← hw1, ← hab]; simp
  have y1 : w1.cell? ⟨ab, 1, none⟩ = some (.slice u.a u.l u.c) := by rw [← hw1, ← hab]; simp
  have y2 : w1.cell? ⟨ab, 2, none⟩ = some (.slice u.b u.m u.d) := by rw [← hw1, ← hab]; simp
  have HOF := Lib.hid (fun W => rof_any (by decide : 1 ≤ 17592186044416) div_upto_word (by decide) (by decide) p d W hp.1 hp.2 hd.1 hd.2 h0)
  have HUO := Lib.hid (hu1.below hb1)
  have HCS := Lib.hid hcs
  have HQ := Lib.hid hq
  have HBW := Lib.hid hb1
  have HW1 := Lib.hid hw1
  have HAB := Lib.hid hab
  clear hu1 hp hd h0 hq hcs hb1 hw1 hab
  go_enter Try.func30, Try.ntmps30
  go_upto_region 1 with fail
  (try simp only [HW1.out])
  (try simp only [HAB.out])
  clear HW1
  go_wp2_with fail
  refine (HOF.out _).mono ?_
  rintro e w2 ⟨a9, c9, b9, d9, rfl, hn9, hm9, hb9⟩
  have hr : RetR (Rat.divInt p d) w1 (.returned (ratV a9 c9 b9 d9 (Rat.divInt p d))) w2 := ⟨a9, c9, b9, d9, rfl, hn9, hm9, hb9⟩
  obtain ⟨v, hv, ho, hq, hb⟩ := RvR.of hr
  rw [Ending.returned.inj hv]
  clear hn9 hm9 hv hr hb9
  unfold Rv.val
  replace y0 := hu hb y0
  replace y1 := hu hb y1
  replace y2 := hu hb y2
  have z0 : (w2.alloc (.cells #[.bool v.s, .slice v.a v.l v.c, .slice v.b v.m v.d] 40)).cell? ⟨w2.heap.size, 0, none⟩ = some (.bool v.s) := by simp
  have z1 : (w2.alloc (.cells #[.bool v.s, .slice v.a v.l v.c, .slice v.b v.m v.d] 40)).cell? ⟨w2.heap.size, 1, none⟩ = some (.slice v.a v.l v.c) := by simp
  have z2 : (w2.alloc (.cells #[.bool v.s, .slice v.a v.l v.c, .slice v.b v.m v.d] 40)).cell? ⟨w2.heap.size, 2, none⟩ = some (.slice v.b v.m v.d) := by simp
  have hal := belowBox w2 (.cells #[.bool v.s, .slice v.a v.l v.c, .slice v.b v.m v.d] 40)
  have HUV := Lib.hid (show v.q = u.q by rw [hq, HQ.out])
  have HVO := Lib.hid (ho.below hal)
  replace HUO := Lib.hid ((HUO.out.below hb).below hal)
  replace HBW := Lib.hid (bthen (bthen HBW.out hb) hal)
  replace y0 := hu hal y0
  replace y1 := hu hal y1
  replace y2 := hu hal y2
  clear hb ho hq HQ HOF
  go_upto_region 2 with fail
  generalize w2.heap.size = bb at y0 y1 y2 z0 z1 z2 hal HUO HVO HBW ⊢
  generalize w2.alloc (.cells #[.bool v.s, .slice v.a v.l v.c, .slice v.b v.m v.d] 40) = V0 at y0 y1 y2 z0 z1 z2 HUO HVO HBW ⊢
  clear hal
  replace HUO := Lib.hid (HUO.out.below (show Below V0.heap.size V0 V0.drew from Below.drawn V0 1))
  replace HVO := Lib.hid (HVO.out.below (show Below V0.heap.size V0 V0.drew from Below.drawn V0 1))
  replace HBW := Lib.hid (bthen HBW.out (show Below V0.heap.size V0 V0.drew from Below.drawn V0 1))
  refine wp_region_held_drew (S := fun W => W.cell? ⟨ab, 0, none⟩ = some (.bool u.s) ∧ W.cell? ⟨ab, 1, none⟩ = some (.slice u.a u.l u.c) ∧ W.cell? ⟨ab, 2, none⟩ = some (.slice u.b u.m u.d) ∧ W.cell? ⟨bb, 0, none⟩ = some (.bool v.s) ∧ W.cell? ⟨bb, 1, none⟩ = some (.slice v.a v.l v.c) ∧ W.cell? ⟨bb, 2, none⟩ = some (.slice v.b v.m v.d)) (by kernel_rfl) (⟨y0, y1, y2, z0, z1, z2⟩) (fun hHeld => ?_)
  generalize V0.drew = wd at HBW HUO HVO hHeld ⊢
  refine tk 0 (some 15) (v := ?_) rfl rfl ?_ ?_
  rotate_left
  · (intro w _; go_simp; (try with_reducible rfl))
  simp only [Act.put, stB, stZ, stS]
  refine tk 1 (some 16) (v := ?_) rfl rfl ?_ ?_
  rotate_left
  · (intro w _; go_simp; (try with_reducible rfl))
  simp only [Act.put, stB, stZ, stS]
  refine tk 2 (some 17) (v := ?_) rfl rfl ?_ ?_
  rotate_left
  · (intro w hSw; (try dsimp only at hSw); ((try obtain ⟨hS0, hS1, hS2, hS3, hS4, hS5⟩ := hSw); go_simp); (try with_reducible rfl))
  simp only [Act.put, stB, stZ, stS]
  refine tk 3 (some 18) (v := ?_) rfl rfl ?_ ?_
  rotate_left
  · (intro w hSw; (try dsimp only at hSw); ((try obtain ⟨hS0, hS1, hS2, hS3, hS4, hS5⟩ := hSw); go_simp); (try with_reducible rfl))
  simp only [Act.put, stB, stZ, stS]
  refine wpAnyH_ready (rs := [4]) (by kernel_rfl) (by simp) ?_
  refine (AllReadyH.cons (o := { dst := some 19, op := Op.call { callee := Callee.value (Operand.func 15), args := #[Operand.tmp 17, Operand.tmp 18], argTypes := #[40, 40] }, type := 4, pos := "law.go:35", after := #[{ on := 2, ground := Ground.data }, { on := 3, ground := Ground.data }, { on := 1, ground := Ground.chain }, { on := 1, ground := Ground.guard }], guard := some (1, true) }) rfl (fun K hK => ?_) AllReadyH.nil)
  go_simp
  refine (HCS.out u v _ HUO.out HVO.out rfl HUV.out).mono ?_
  rintro e V1 ⟨rfl, hb⟩
  rw [decide_eq_true rfl]
  replace HUO := Lib.hid (HUO.out.below hb)
  replace HVO := Lib.hid (HVO.out.below hb)
  replace HBW := Lib.hid (bthen HBW.out hb)
  have hKK := And.intro (hu hb hHeld.1) <| And.intro (hu hb hHeld.2.1) <| And.intro (hu hb hHeld.2.2.1) <| And.intro (hu hb hHeld.2.2.2.1) <| And.intro (hu hb hHeld.2.2.2.2.1) <| hu hb hHeld.2.2.2.2.2
  clear hb
  refine hK.out _ _ (hKK) (fun hHeld2 => ?_)
  clear hK K hHeld
  rename _ => hHeld
  try simp only [Act.put, stB, stZ, stS]
  refine tk 5 (some 20) (v := ?_) rfl rfl ?_ ?_
  rotate_left
  · (intro w _; go_simp; (try with_reducible rfl))
  simp only [Act.put, stB, stZ, stS]
  refine tk 6 (some 21) (v := ?_) rfl rfl ?_ ?_
  rotate_left
  · (intro w _; go_simp; (try with_reducible rfl))
  simp only [Act.put, stB, stZ, stS]
  refine tk 7 (some 22) (v := ?_) rfl rfl ?_ ?_
  rotate_left
  · (intro w hSw; (try dsimp only at hSw); ((try obtain ⟨hS0, hS1, hS2, hS3, hS4, hS5⟩ := hSw); go_simp); (try with_reducible rfl))
  simp only [Act.put, stB, stZ, stS]
  refine tk 9 (some 24) (v := ?_) rfl rfl ?_ ?_
  rotate_left
  · (intro w hSw; (try dsimp only at hSw); ((try obtain ⟨hS0, hS1, hS2, hS3, hS4, hS5⟩ := hSw); go_simp); (try with_reducible rfl))
  simp only [Act.put, stB, stZ, stS]
  refine wpAnyH_ready (rs := [8]) (by kernel_rfl) (by simp) ?_
  refine (AllReadyH.cons (o := { dst := some 23, op := Op.call { callee := Callee.value (Operand.func 58), args := #[Operand.tmp 22], argTypes := #[40] }, type := 38, pos := "law.go:35", after := #[{ on := 7, ground := Ground.data }, { on := 6, ground := Ground.chain }, { on := 6, ground := Ground.guard }], guard := some (6, true) }) rfl (fun K hK => ?_) AllReadyH.nil)
  go_simp
  refine (num_any u.s u.a u.b u.l u.c u.m u.d _).mono ?_
  rintro e V2 ⟨rfl, hb⟩
  replace HUO := Lib.hid (HUO.out.below hb)
  replace HVO := Lib.hid (HVO.out.below hb)
  replace HBW := Lib.hid (bthen HBW.out hb)
  have hKK := And.intro (hu hb hHeld.1) <| And.intro (hu hb hHeld.2.1) <| And.intro (hu hb hHeld.2.2.1) <| And.intro (hu hb hHeld.2.2.2.1) <| And.intro (hu hb hHeld.2.2.2.2.1) <| hu hb hHeld.2.2.2.2.2
  clear hb
  refine hK.out _ _ (hKK) (fun hHeld2 => ?_)
  clear hK K hHeld
  rename _ => hHeld
  try simp only [Act.put, stB, stZ, stS]
  refine wpAnyH_ready (rs := [10]) (by kernel_rfl) (by simp) ?_
  refine (AllReadyH.cons (o := { dst := some 25, op := Op.call { callee := Callee.value (Operand.func 58), args := #[Operand.tmp 24], argTypes := #[40] }, type := 38, pos := "law.go:35", after := #[{ on := 9, ground := Ground.data }, { on := 8, ground := Ground.chain }, { on := 6, ground := Ground.guard }], guard := some (6, true) }) rfl (fun K hK => ?_) AllReadyH.nil)
  go_simp
  refine (num_any v.s v.a v.b v.l v.c v.m v.d _).mono ?_
  rintro e V3 ⟨rfl, hb⟩
  replace HUO := Lib.hid (HUO.out.below hb)
  replace HVO := Lib.hid (HVO.out.below hb)
  replace HBW := Lib.hid (bthen HBW.out hb)
  have hKK := And.intro (hu hb hHeld.1) <| And.intro (hu hb hHeld.2.1) <| And.intro (hu hb hHeld.2.2.1) <| And.intro (hu hb hHeld.2.2.2.1) <| And.intro (hu hb hHeld.2.2.2.2.1) <| hu hb hHeld.2.2.2.2.2
  clear hb
  refine hK.out _ _ (hKK) (fun hHeld2 => ?_)
  clear hK K hHeld
  rename _ => hHeld
  try simp only [Act.put, stB, stZ, stS]
  refine wpAnyH_ready (rs := [11]) (by kernel_rfl) (by simp) ?_
  refine (AllReadyH.cons (o := { dst := some 26, op := Op.call { callee := Callee.value (Operand.func 45), args := #[Operand.tmp 23, Operand.tmp 25], argTypes := #[38, 38] }, type := 3, pos := "law.go:35", after := #[{ on := 8, ground := Ground.data }, { on := 10, ground := Ground.data }, { on := 10, ground := Ground.chain }, { on := 6, ground := Ground.guard }], guard := some (6, true) }) rfl (fun K hK => ?_) AllReadyH.nil)
  go_simp
  refine (rv_icmp u v _ HUO.out HVO.out HUV.out.symm).mono ?_
  rintro e V4 ⟨rfl, hb⟩
  replace HUO := Lib.hid (HUO.out.below hb)
  replace HVO := Lib.hid (HVO.out.below hb)
  replace HBW := Lib.hid (bthen HBW.out hb)
  have hKK := And.intro (hu hb hHeld.1) <| And.intro (hu hb hHeld.2.1) <| And.intro (hu hb hHeld.2.2.1) <| And.intro (hu hb hHeld.2.2.2.1) <| And.intro (hu hb hHeld.2.2.2.2.1) <| hu hb hHeld.2.2.2.2.2
  clear hb
  refine hK.out _ _ (hKK) (fun hHeld2 => ?_)
  clear hK K hHeld
  rename _ => hHeld
  try simp only [Act.put, stB, stZ, stS]
  refine tk 12 (some 27) (v := ?_) rfl rfl ?_ ?_
  rotate_left
  · (intro w _; go_simp; (try with_reducible rfl))
  simp only [Act.put, stB, stZ, stS]
  refine tk 13 (some 28) (v := ?_) rfl rfl ?_ ?_
  rotate_left
  · (intro w _; go_simp; (try with_reducible rfl))
  simp only [Act.put, stB, stZ, stS]
  refine tk 14 (some 29) (v := ?_) rfl rfl ?_ ?_
  rotate_left
  · (intro w _; go_simp; (try with_reducible rfl))
  simp only [Act.put, stB, stZ, stS]
  refine tk 15 (some 30) (v := ?_) rfl rfl ?_ ?_
  rotate_left
  · (intro w hSw; (try dsimp only at hSw); ((try obtain ⟨hS0, hS1, hS2, hS3, hS4, hS5⟩ := hSw); go_simp); (try with_reducible rfl))
  simp only [Act.put, stB, stZ, stS]
  refine tk 17 (some 32) (v := ?_) rfl rfl ?_ ?_
  rotate_left
  · (intro w hSw; (try dsimp only at hSw); ((try obtain ⟨hS0, hS1, hS2, hS3, hS4, hS5⟩ := hSw); go_simp); (try with_reducible rfl))
  simp only [Act.put, stB, stZ, stS]
  refine wpAnyH_ready (rs := [16]) (by kernel_rfl) (by simp) ?_
  refine (AllReadyH.cons (o := { dst := some 31, op := Op.call { callee := Callee.value (Operand.func 52), args := #[Operand.tmp 30], argTypes := #[40] }, type := 36, pos := "law.go:35", after := #[{ on := 15, ground := Ground.data }, { on := 14, ground := Ground.chain }, { on := 14, ground := Ground.guard }], guard := some (14, true) }) rfl (fun K hK => ?_) AllReadyH.nil)
  go_simp
  refine (rv_den u _ HUO.out).mono ?_
  rintro e V5 ⟨n1, m1, rfl, hn1, hb⟩
  have HN1 := Lib.hid hn1
  clear hn1
  replace HUO := Lib.hid (HUO.out.below hb)
  replace HVO := Lib.hid (HVO.out.below hb)
  replace HBW := Lib.hid (bthen HBW.out hb)
  have hKK := And.intro (hu hb hHeld.1) <| And.intro (hu hb hHeld.2.1) <| And.intro (hu hb hHeld.2.2.1) <| And.intro (hu hb hHeld.2.2.2.1) <| And.intro (hu hb hHeld.2.2.2.2.1) <| hu hb hHeld.2.2.2.2.2
  clear hb
  refine hK.out _ _ (hKK) (fun hHeld2 => ?_)
  clear hK K hHeld
  rename _ => hHeld
  try simp only [Act.put, stB, stZ, stS]
  refine wpAnyH_ready (rs := [18]) (by kernel_rfl) (by simp) ?_
  refine (AllReadyH.cons (o := { dst := some 33, op := Op.call { callee := Callee.value (Operand.func 52), args := #[Operand.tmp 32], argTypes := #[40] }, type := 36, pos := "law.go:35", after := #[{ on := 17, ground := Ground.data }, { on := 16, ground := Ground.chain }, { on := 14, ground := Ground.guard }], guard := some (14, true) }) rfl (fun K hK => ?_) AllReadyH.nil)
  go_simp
  refine (rv_den v _ HVO.out).mono ?_
  rintro e V6 ⟨n2, m2, rfl, hn2, hb⟩
  have HN2 := Lib.hid hn2
  clear hn2
  replace HN1 := Lib.hid (HN1.out.below hb)
  replace HUO := Lib.hid (HUO.out.below hb)
  replace HVO := Lib.hid (HVO.out.below hb)
  replace HBW := Lib.hid (bthen HBW.out hb)
  have hKK := And.intro (hu hb hHeld.1) <| And.intro (hu hb hHeld.2.1) <| And.intro (hu hb hHeld.2.2.1) <| And.intro (hu hb hHeld.2.2.2.1) <| And.intro (hu hb hHeld.2.2.2.2.1) <| hu hb hHeld.2.2.2.2.2
  clear hb
  refine hK.out _ _ (hKK) (fun hHeld2 => ?_)
  clear hK K hHeld
  rename _ => hHeld
  try simp only [Act.put, stB, stZ, stS]
  refine wpAnyH_ready (rs := [19]) (by kernel_rfl) (by simp) ?_
  refine (AllReadyH.cons (o := { dst := some 34, op := Op.call { callee := Callee.value (Operand.func 59), args := #[Operand.tmp 31, Operand.tmp 33], argTypes := #[36, 36] }, type := 3, pos := "law.go:35", after := #[{ on := 16, ground := Ground.data }, { on := 18, ground := Ground.data }, { on := 18, ground := Ground.chain }, { on := 14, ground := Ground.guard }], guard := some (14, true) }) rfl (fun K hK => ?_) AllReadyH.nil)
  go_simp
  refine (ncmp_self n1 n2 m1 m2 u.q.den v.q.den _ HN1.out HN2.out (by rw [HUV.out])).mono ?_
  rintro e V7 ⟨rfl, hb⟩
  replace HUO := Lib.hid (HUO.out.below hb)
  replace HVO := Lib.hid (HVO.out.below hb)
  replace HBW := Lib.hid (bthen HBW.out hb)
  have hKK := And.intro (hu hb hHeld.1) <| And.intro (hu hb hHeld.2.1) <| And.intro (hu hb hHeld.2.2.1) <| And.intro (hu hb hHeld.2.2.2.1) <| And.intro (hu hb hHeld.2.2.2.2.1) <| hu hb hHeld.2.2.2.2.2
  clear hb
  refine hK.out _ _ (hKK) (fun hHeld2 => ?_)
  clear hK K hHeld
  rename _ => hHeld
  try simp only [Act.put, stB, stZ, stS]
  refine tk 20 (some 35) (v := ?_) rfl rfl ?_ ?_
  rotate_left
  · (intro w _; go_simp; (try with_reducible rfl))
  simp only [Act.put, stB, stZ, stS]
  refine tk 21 (some 36) (v := ?_) rfl rfl ?_ ?_
  rotate_left
  · (intro w _; go_simp; (try with_reducible rfl))
  simp only [Act.put, stB, stZ, stS]
  refine tk 22 (some 6) (v := ?_) rfl rfl ?_ ?_
  rotate_left
  · (intro w _; go_simp; (try with_reducible rfl))
  simp only [Act.put, stB, stZ, stS]
  refine wpAnyH_done (by kernel_rfl) ?_ _
  (try simp only [Exit.inBlock, Exit.then])
  clear hHeld
  go_wp2_with fail
  go_ret
  exact ⟨rfl, HBW.out⟩
end Go.Proofs.Ytndndfobkbeolaa
