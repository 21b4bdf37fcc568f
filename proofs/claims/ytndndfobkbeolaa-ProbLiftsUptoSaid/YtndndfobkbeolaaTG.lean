/-
 What the laws stand on, part G: contracts and plain laws of PLong, PCost; the conditions are each law's own.
-/
import Derived.Test.YtndndfobkbeolaaTV
import Derived.Test.YtndndfobkbeolaaTD
import Derived.Test.YtndndfobkbeolaaTE
set_option linter.unusedVariables false
set_option linter.unusedSimpArgs false
namespace Go.Proofs.Ytndndfobkbeolaa
open Go.RowKit
structure Long (B : Nat) (q : Rat) : Prop where
 num : lenW q.num.natAbs ≤ B
 den : lenW q.den ≤ B
theorem Long.mono {B C : Nat} {q : Rat} (h : Long B q) (hc : B ≤ C) : Long C q := ⟨Nat.le_trans h.num hc, Nat.le_trans h.den hc⟩
theorem Long.divInt {B : Nat} {n d : Int} (hd : d ≠ 0) (hn : lenW n.natAbs ≤ B) (h : lenW d.natAbs ≤ B) : Long B (Rat.divInt n d) :=
 ⟨by rw [rat_num n d hd, newI_abs]; exact Nat.le_trans (lenW_mono (Nat.div_le_self _ _)) hn, by rw [rat_den n d hd]; exact Nat.le_trans (lenW_mono (Nat.div_le_self _ _)) h⟩
theorem den_ne (p q : Rat) : ((p.den * q.den : Nat) : Int) ≠ 0 := by
 have := Nat.mul_ne_zero p.den_nz q.den_nz
 omega
theorem Long.add {B C : Nat} {p q : Rat} (h1 : Long B p) (h2 : Long C q) : Long (B + C + 1) (p + q) := by
 rw [← rat_add]
 refine Long.divInt (den_ne p q) (lenW_addI ?_ ?_) ?_
 ·
  exact Nat.le_trans (lenW_mulI _ _) (by rw [lenW_denI]; exact Nat.add_le_add h1.num h2.den)
 ·
  exact Nat.le_trans (lenW_mulI _ _) (by rw [lenW_denI, Nat.add_comm B]; exact Nat.add_le_add h2.num h1.den)
 ·
  exact Nat.le_trans (lenW_mul _ _) (Nat.le_trans (Nat.add_le_add h1.den h2.den) (by omega))
theorem Long.mul {B C : Nat} {p q : Rat} (h1 : Long B p) (h2 : Long C q) : Long (B + C) (p * q) := by
 rw [← rat_mul]
 exact Long.divInt (den_ne p q) (Nat.le_trans (lenW_mulI _ _) (Nat.add_le_add h1.num h2.num)) (Nat.le_trans (lenW_mul _ _) (Nat.add_le_add h1.den h2.den))
theorem Long.neg {B : Nat} {p : Rat} (h : Long B p) : Long B (-p) := ⟨by rw [rat_neg_num, Int.natAbs_neg]; exact h.num, h.den⟩
theorem Long.sub {B C : Nat} {p q : Rat} (h1 : Long B p) (h2 : Long C q) : Long (B + C + 1) (p - q) := by rw [Rat.sub_eq_add_neg]; exact h1.add h2.neg
theorem Long.whole {z : Int} (h : z.natAbs < W64) : Long 1 (z : Rat) := ⟨lenW_word.2 h, by show lenW 1 ≤ 1; rw [lenW_pos1]; exact Nat.le_refl _⟩
theorem Long.zero : Long 1 0 := Long.whole (z := 0) (by unfold W64; omega)
theorem Long.frac {v : Fr} (h1 : I64 v.1) (h2 : I64 v.2) : Long 1 (fracQ v) := ⟨(fracQ_small h1 h2).1, (fracQ_small h1 h2).2⟩
section
variable {B C : Nat} {p q : Rat}
theorem canCmp_long (h1 : Long B p) (h2 : Long C q) (h : B + C ≤ 1000000000000) : CanCmp p q := canCmp_of (mul_upto 4398046511104 (Nat.le_refl _)) (by have := h1.num; have := h2.den; omega) (by have := h2.num; have := h1.den; omega)
theorem canSame_long (h1 : Long B p) (h2 : Long C q) (h : B + C ≤ 1000000000000) : CanSame p q := canSame_of (mul_upto 4398046511104 (Nat.le_refl _)) (by have := h1.num; have := h2.den; omega) (by have := h2.num; have := h1.den; omega)
theorem canAdd_long (h1 : Long B p) (h2 : Long C q) (h : B + C ≤ 1000000000000) : CanAdd p q :=
 canAdd_of (mul_upto 4398046511104 (Nat.le_refl _)) (by omega) (Nat.le_refl _) div_upto (by have := h1.num; have := h2.den; omega) (by have := h2.num; have := h1.den; omega) (by have := h1.den; have := h2.den; omega)
  (Nat.le_trans (lenW_addI (k := B + C) (Nat.le_trans (lenW_mulI _ _) (by rw [lenW_denI]; have := h1.num; have := h2.den; omega)) (Nat.le_trans (lenW_mulI _ _) (by rw [lenW_denI]; have := h2.num; have := h1.den; omega))) (by omega))
  (Nat.le_trans (lenW_mul _ _) (by have := h1.den; have := h2.den; omega))
theorem canMul_long (h1 : Long B p) (h2 : Long C q) (h : B + C ≤ 1000000000000) : CanMul p q :=
 canMul_of (mul_upto 4398046511104 (Nat.le_refl _)) (by omega) (Nat.le_refl _) div_upto (by have := h1.num; have := h2.num; omega) (by have := h1.den; have := h2.den; omega)
  (Nat.le_trans (lenW_mulI _ _) (by have := h1.num; have := h2.num; omega)) (Nat.le_trans (lenW_mul _ _) (by have := h1.den; have := h2.den; omega))
end
def AllL (B : Nat) (l : List Rat) : Prop := ∀ q, q ∈ l → Long B q
theorem AllL.get {B : Nat} {l : List Rat} (h : AllL B l) {k : Nat} {q : Rat} (hk : l[k]? = some q) : Long B q := h q (List.mem_of_getElem? hk)
theorem AllL.take {B : Nat} {l : List Rat} (h : AllL B l) (k : Nat) : AllL B (l.take k) := fun q hq => h q (List.mem_of_mem_take hq)
theorem AllL.append {B : Nat} {l m : List Rat} (h : AllL B l) (h2 : AllL B m) : AllL B (l ++ m) := fun q hq => (List.mem_append.1 hq).elim (h q) (h2 q)
theorem AllL.mono {B C : Nat} {l : List Rat} (h : AllL B l) (hc : B ≤ C) : AllL C l := fun q hq => (h q hq).mono hc
theorem allL_zeros (n : Nat) : AllL 1 (List.replicate n 0) := fun q hq => by rw [List.eq_of_mem_replicate hq]; exact Long.zero
theorem allL_frac {fs : List Fr} (h : ∀ v, v ∈ fs → I64 v.1 ∧ I64 v.2) : AllL 1 (fs.map fracQ) := fun q hq => by
 obtain ⟨v, hv, rfl⟩ := List.mem_map.1 hq
 exact Long.frac (h v hv).1 (h v hv).2
theorem dot_long {B C : Nat} : ∀ (us vs : List Rat), AllL B us → AllL C vs → Long (us.length * (B + C + 1) + 1) (dotQ us vs)
 | [], vs, _, _ => by rw [dotQ_nil]; exact Long.zero.mono (by omega)
 | u :: us, [], _, _ => Long.zero.mono (by omega)
 | u :: us, v :: vs, h1, h2 => by
  have ih := dot_long us vs (fun q hq => h1 q (List.mem_cons_of_mem _ hq)) (fun q hq => h2 q (List.mem_cons_of_mem _ hq))
  refine (((h1 u (List.mem_cons_self ..)).mul (h2 v (List.mem_cons_self ..))).add ih).mono ?_
  rw [List.length_cons, Nat.succ_mul]; omega
theorem canDot_long {B C n : Nat} {us vs : List Rat} (h1 : AllL B us) (h2 : AllL C vs) (hn : us.length ≤ n) (hs : n * (B + C + 1) + 1 + (B + C) ≤ 1000000000000) : CanDot us vs := fun k p q hp hq _ _ => by
 have hm : (us.take k).length * (B + C + 1) ≤ n * (B + C + 1) := Nat.mul_le_mul_right _ (Nat.le_trans (List.length_take_le' _ _) hn)
 exact ⟨canMul_long (h1.get hp) (h2.get hq) (by omega), canAdd_long (dot_long _ _ (h1.take k) (h2.take k)) ((h1.get hp).mul (h2.get hq)) (by omega)⟩
end Go.Proofs.Ytndndfobkbeolaa
namespace Go.Proofs.Ytndndfobkbeolaa
open Go.RowKit Go.Extern.Stop Go.Stop Go.Extern
set_option maxRecDepth 100000 in
set_option maxHeartbeats 4000000 in
theorem cost_run (ca : Option Addr) (cn cc : Nat) (ra : Option Addr) (rn rc : Nat) (xa : Option Addr) (m xc : Nat) (q : Rat) (ok : Bool) (w : World) (hd : ∀ W, Below w.heap.size w W → Calls Try.prog 12 #[.slice ca cn cc, .slice xa m xc] W (RetRB2 q ok W)) :
  Calls Try.prog 18 #[.agg #[.slice ca cn cc, .slice ra rn rc], .slice xa m xc] w (RetRB2 q ok w) := by
 have HD := Lib.hid hd
 clear hd
 obtain ⟨W0, hW0⟩ : ∃ W0, W0 = ((w.alloc (.cells #[.slice ca cn cc, .slice ra rn rc] 31)).alloc (.cells #[.bool false, .slice none 0 0, .slice none 0 0] 40)) := ⟨_, rfl⟩
 have hbs : BS w [⟨w.heap.size, 31, [.slice ca cn cc, .slice ra rn rc]⟩, ⟨w.heap.size + 1, 40, [.bool false, .slice none 0 0, .slice none 0 0]⟩] [] ((w.alloc (.cells #[.slice ca cn cc, .slice ra rn rc] 31)).alloc (.cells #[.bool false, .slice none 0 0, .slice none 0 0] 40)) :=
  (((BS.start w).alloc (p := w.heap.size) rfl 31 [.slice ca cn cc, .slice ra rn rc] rfl).alloc (p := w.heap.size + 1) (by simp) 40 [.bool false, .slice none 0 0, .slice none 0 0] rfl)
 rw [← hW0] at hbs
 have HW0 := Lib.hid hW0
 have HN := Lib.hid hbs
 clear hW0 hbs
 go_enter Try.func18, Try.ntmps18
 go_wp2_with fail
 rw [← HW0.out]
 refine (HD.out _ HN.out.bel).mono ?_
 rintro e w1 ⟨v, rfl, ho, hq, hb⟩
 replace HN := Lib.hid (HN.out.call hb)
 have HO := Lib.hid (And.intro ho hq)
 clear ho hq hb HD
 unfold Rv.val
 have hat := HN.out.at 1 rfl
 have hge := HN.out.ge 1 rfl
 have r0 := HN.out.cell 1 0 rfl rfl
 have r1 := HN.out.cell 1 1 rfl rfl
 have r2 := HN.out.cell 1 2 rfl rfl
 have q0 := HN.out.free 1 0 rfl
 have q1 := HN.out.free 1 1 rfl
 have q2 := HN.out.free 1 2 rfl
 go_wp2_with fail
 have hs := set3_heap w1 (w.heap.size + 1) _ _ _ (.bool v.s) (.slice v.a v.l v.c) (.slice v.b v.m v.d) 40 hat
 have j0 := cell_of_block (j := 0) hs rfl
 have j1 := cell_of_block (j := 1) hs rfl
 have j2 := cell_of_block (j := 2) hs rfl
 refine bodyPost_ret (v := .tuple #[.agg #[.bool v.s, .slice v.a v.l v.c, .slice v.b v.m v.d], .bool ok]) (by simp [results, Try.results18, go_sem, j0, j1, j2]) rfl ?_
 exact ⟨v, rfl, HO.out.1.keeps (set3k w1 (w.heap.size + 1) _ _ _) (fun k hk => by rw [hk]; exact noWord_of hat (by decide)), HO.out.2, ((HN.out.bel.setCell hge _).setCell hge _).setCell hge _⟩
end Go.Proofs.Ytndndfobkbeolaa
