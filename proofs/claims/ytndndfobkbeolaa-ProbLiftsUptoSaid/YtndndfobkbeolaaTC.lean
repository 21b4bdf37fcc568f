/-
 What the laws stand on, part C: contracts and plain laws of PLaw, PLLaw, PComb; the conditions are each law's own.
-/
import Derived.Test.YtndndfobkbeolaaTV
import Derived.Test.YtndndfobkbeolaaTG
import Derived.Test.YtndndfobkbeolaaTK
import Derived.Test.YtndndfobkbeolaaTL
set_option linter.unusedVariables false
set_option linter.unusedSimpArgs false
namespace Go.Proofs.Ytndndfobkbeolaa
theorem dotQ_app : ∀ (a b u v : List Rat), a.length = b.length → dotQ (a ++ u) (b ++ v) = dotQ a b + dotQ u v
 | [], [], u, v, _ => by simp only [List.nil_append, dotQ_nil]; grind
 | x :: a, y :: b, u, v, h => by
  simp only [List.cons_append, dotQ]
  rw [dotQ_app a b u v (by simpa using h)]; grind
theorem dotQ_zeros (l : List Rat) : ∀ (n : Nat), dotQ l (List.replicate n 0) = 0 := by
 induction l with
 | nil => intro n; exact dotQ_nil _
 | cons x l ih =>
  intro n
  cases n with
  | zero => rfl
  | succ n => simp only [List.replicate_succ, dotQ]; rw [ih n]; grind
theorem zeros_dotQ : ∀ (n : Nat) (l : List Rat), dotQ (List.replicate n 0) l = 0
 | 0, l => dotQ_nil l
 | n + 1, [] => rfl
 | n + 1, x :: l => by simp only [List.replicate_succ, dotQ]; rw [zeros_dotQ n l]; grind
theorem unit_dotQ : ∀ (n j : Nat) (s : Rat) (l : List Rat) (y : Rat), j < n → l[j]? = some y → dotQ ((List.replicate n 0).set j s) l = s * y
 | 0, _, _, _, _, h, _ => by omega
 | n + 1, _, _, [], _, _, h => by simp at h
 | n + 1, 0, s, x :: l, y, _, h => by
  simp only [List.getElem?_cons_zero, Option.some.injEq] at h
  subst h
  simp only [List.replicate_succ, List.set_cons_zero, dotQ]
  rw [zeros_dotQ]; grind
 | n + 1, j + 1, s, x :: l, y, hj, h => by
  simp only [List.getElem?_cons_succ] at h
  simp only [List.replicate_succ, List.set_cons_succ, dotQ]
  rw [unit_dotQ n j s l y (by omega) h]; grind
abbrev TRow := List Rat × Int × Rat
def kindsT (T : List TRow) : List Int := T.map fun t => t.2.1
def tabT (cn : Nat) (T : List TRow) : List (List Rat) := (T.zip (lefts cn (kindsT T))).map fun y => stdRow y.1.1 (slacks (kindsT T)) y.2 y.1.2.1
def leaves (x : List Rat) (t : TRow) : Rat := (signK t.2.1 : Rat) * (t.2.2 - dotQ t.1 x)
def slackR (x : List Rat) (T : List TRow) : List Rat := T.filterMap fun t => if t.2.1 = 3 then none else some (leaves x t)
theorem slackR_cons (x : List Rat) (t : TRow) (T : List TRow) : slackR x (t :: T) = if t.2.1 = 3 then slackR x T else leaves x t :: slackR x T := by
 unfold slackR
 rw [List.filterMap_cons]
 by_cases h : t.2.1 = 3 <;> simp [h]
theorem kindsT_cons (t : TRow) (T : List TRow) : kindsT (t :: T) = t.2.1 :: kindsT T := rfl
theorem slackR_len (x : List Rat) : ∀ (T : List TRow), (slackR x T).length = slacks (kindsT T)
 | [] => rfl
 | t :: T => by
  rw [slackR_cons, kindsT_cons]
  unfold slacks
  by_cases h : t.2.1 = 3
  ·
   rw [if_pos h, if_pos h, slackR_len x T]; omega
  ·
   rw [if_neg h, if_neg h, List.length_cons, slackR_len x T]; omega
theorem slackR_get (x : List Rat) : ∀ (T : List TRow) (n i : Nat) (t : TRow) (p : Int), T[i]? = some t → (lefts n (kindsT T))[i]? = some p → t.2.1 ≠ 3 → ∃ q : Nat, p = (n + q : Nat) ∧ (slackR x T)[q]? = some (leaves x t)
 | [], _, _, _, _, h, _, _ => by simp at h
 | r :: T, n, i, t, p, h, h2, h3 => by
  rw [kindsT_cons] at h2
  rw [slackR_cons]
  unfold lefts at h2
  cases i with
  | zero =>
   simp only [List.getElem?_cons_zero, Option.some.injEq] at h
   subst h
   rw [if_neg h3] at h2 ⊢
   simp only [List.getElem?_cons_zero, Option.some.injEq] at h2
   exact ⟨0, by rw [← h2]; rfl, rfl⟩
  | succ i =>
   simp only [List.getElem?_cons_succ] at h
   by_cases hr : r.2.1 = 3
   ·
    rw [if_pos hr] at h2 ⊢
    simp only [List.getElem?_cons_succ] at h2
    exact slackR_get x T n i t p h h2 h3
   ·
    rw [if_neg hr] at h2 ⊢
    simp only [List.getElem?_cons_succ] at h2
    obtain ⟨q, e1, e2⟩ := slackR_get x T (n + 1) i t p h h2 h3
    exact ⟨q + 1, by rw [e1]; congr 1; omega, by rw [List.getElem?_cons_succ]; exact e2⟩
def layAt (M : Nat → Nat → Rat) (d : Nat → Rat) : Nat → List Int → List Rat → List Rat
 | _, [], z => z
 | k, x :: ls, z => layAt M d (k + 1) ls (if 0 ≤ x then z.set x.toNat (M k x.toNat * d k) else z)
theorem lay_form (x : List Rat) (M : Nat → Nat → Rat) (d : Nat → Rat) : ∀ (T : List TRow) (k n : Nat) (pre : List Rat), pre.length = n →
  (∀ i t (q : Nat), T[i]? = some t → (lefts n (kindsT T))[i]? = some (q : Int) → t.2.1 ≠ 3 → M (k + i) q * d (k + i) = leaves x t) →
  layAt M d k (lefts n (kindsT T)) (pre ++ List.replicate (slacks (kindsT T)) 0) = pre ++ slackR x T
 | [], k, n, pre, hp, h => by simp [kindsT, lefts, slacks, layAt, slackR]
 | t :: T, k, n, pre, hp, h => by
  rw [slackR_cons, kindsT_cons]
  rw [kindsT_cons] at h
  unfold lefts slacks
  unfold lefts at h
  by_cases ht : t.2.1 = 3
  ·
   rw [if_pos ht] at h
   rw [if_pos ht, if_pos ht, if_pos ht, Nat.zero_add]
   simp only [layAt]
   rw [if_neg (by omega)]
   exact lay_form x M d T (k + 1) n pre hp fun i t q h1 h2 h3 => by
    have := h (i + 1) t q h1 h2 h3
    rwa [show k + (i + 1) = k + 1 + i by omega] at this
  ·
   rw [if_neg ht] at h
   rw [if_neg ht, if_neg ht, if_neg ht]
   simp only [layAt]
   rw [if_pos (by omega), Int.toNat_natCast]
   have h0 := h 0 t n rfl rfl ht
   rw [Nat.add_zero] at h0
   rw [h0, Nat.add_comm 1, List.replicate_succ]
   have e : (pre ++ 0 :: List.replicate (slacks (kindsT T)) 0).set n (leaves x t) = (pre ++ [leaves x t]) ++ List.replicate (slacks (kindsT T)) 0 := by
    rw [List.set_append_right _ _ (by omega), hp, Nat.sub_self]; simp
   rw [e, lay_form x M d T (k + 1) (n + 1) (pre ++ [leaves x t]) (by simp [hp]) fun i t q h1 h2 h3 => by
    have := h (i + 1) t q h1 h2 h3
    rwa [show k + (i + 1) = k + 1 + i by omega] at this]
   simp
theorem signK_two (k : Int) : (signK k : Rat) * (signK k : Rat) = 1 := by
 unfold signK
 split
 ·
  show ((1 : Int) : Rat) * ((1 : Int) : Rat) = 1
  rw [← Rat.intCast_mul]; rfl
 ·
  show ((-1 : Int) : Rat) * ((-1 : Int) : Rat) = 1
  rw [← Rat.intCast_mul]; rfl
theorem std_dot (coef x v : List Rat) (S q cn : Nat) (kd : Int) (y : Rat) (hc : coef.length = cn) (hx : x.length = cn) (hv : v.length = S) (hy : v[q]? = some y) :
  dotQ (stdRow coef S ((cn + q : Nat) : Int) kd) (x ++ v) = dotQ coef x + (signK kd : Rat) * y := by
 have hq : q < S := by rw [← hv]; exact (List.getElem?_eq_some_iff.1 hy).1
 unfold stdRow
 rw [if_pos (by omega), Int.toNat_natCast, List.set_append_right _ _ (by omega), hc, Nat.add_sub_cancel_left, dotQ_app _ _ _ _ (by omega), unit_dotQ S q _ v y hq hy]
theorem std_dot3 (coef x v : List Rat) (S cn : Nat) (kd : Int) (hc : coef.length = cn) (hx : x.length = cn) : dotQ (stdRow coef S (-1) kd) (x ++ v) = dotQ coef x := by
 unfold stdRow
 rw [if_neg (by omega), dotQ_app _ _ _ _ (by omega), zeros_dotQ]; grind
theorem tabT_get (cn : Nat) (T : List TRow) (i : Nat) (t : TRow) (h : T[i]? = some t) : ∃ p, (lefts cn (kindsT T))[i]? = some p ∧ (tabT cn T)[i]? = some (stdRow t.1 (slacks (kindsT T)) p t.2.1) := by
 have hl : (lefts cn (kindsT T)).length = T.length := by rw [lefts_len]; exact List.length_map _
 have hi := (List.getElem?_eq_some_iff.1 h).1
 refine ⟨(lefts cn (kindsT T))[i], List.getElem?_eq_getElem (by omega), ?_⟩
 unfold tabT
 have hz : (T.zip (lefts cn (kindsT T)))[i]? = some (t, (lefts cn (kindsT T))[i]) := List.getElem?_zip_eq_some.2 ⟨h, List.getElem?_eq_getElem (show i < (lefts cn (kindsT T)).length by omega)⟩
 rw [List.getElem?_map, hz]
 rfl
theorem lefts_eq3 : ∀ (T : List TRow) (n i : Nat) (t : TRow) (p : Int), T[i]? = some t → (lefts n (kindsT T))[i]? = some p → t.2.1 = 3 → p = -1
 | [], _, _, _, _, h, _, _ => by simp at h
 | r :: T, n, i, t, p, h, h2, h3 => by
  rw [kindsT_cons] at h2
  unfold lefts at h2
  cases i with
  | zero =>
   simp only [List.getElem?_cons_zero, Option.some.injEq] at h
   subst h
   rw [if_pos h3] at h2
   simp only [List.getElem?_cons_zero, Option.some.injEq] at h2
   exact h2.symm
  | succ i =>
   simp only [List.getElem?_cons_succ] at h
   by_cases hr : r.2.1 = 3
   ·
    rw [if_pos hr] at h2
    simp only [List.getElem?_cons_succ] at h2
    exact lefts_eq3 T n i t p h h2 h3
   ·
    rw [if_neg hr] at h2
    simp only [List.getElem?_cons_succ] at h2
    exact lefts_eq3 T (n + 1) i t p h h2 h3
theorem replicate_get {α : Type} (n : Nat) (x : α) {q : Nat} (h : q < n) : (List.replicate n x)[q]? = some x := by rw [List.getElem?_replicate, if_pos h]
theorem lift_form (cn : Nat) (T : List TRow) (x : List Rat) (hT : ∀ t, t ∈ T → t.1.length = cn) (hx : x.length = cn) :
  layAt (fun k j => ((tabT cn T).getD k []).getD j 0) (fun k => (T.map fun t => t.2.2).getD k 0 - ((tabT cn T).map fun r => dotQ r (x ++ List.replicate (slacks (kindsT T)) 0)).getD k 0) 0 (lefts cn (kindsT T)) (x ++ List.replicate (slacks (kindsT T)) 0) = x ++ slackR x T := by
 refine lay_form x _ _ T 0 cn x hx fun i t q h1 h2 h3 => ?_
 rw [Nat.zero_add]
 have ht := hT t (List.mem_of_getElem? h1)
 obtain ⟨p, e1, e2⟩ := tabT_get cn T i t h1
 rw [h2] at e1
 cases e1
 obtain ⟨q2, e3, e4⟩ := slackR_get x T cn i t q h1 h2 h3
 have e3' : q = cn + q2 := by omega
 subst e3'
 have hq2 : q2 < slacks (kindsT T) := by rw [← slackR_len x T]; exact (List.getElem?_eq_some_iff.1 e4).1
 have hM : ((tabT cn T).getD i []).getD (cn + q2) 0 = (signK t.2.1 : Rat) := by
  rw [List.getD_eq_getElem?_getD, List.getD_eq_getElem?_getD, e2]
  show ((stdRow t.1 (slacks (kindsT T)) ((cn + q2 : Nat) : Int) t.2.1)[cn + q2]?).getD 0 = _
  unfold stdRow
  rw [if_pos (by omega), Int.toNat_natCast, List.getElem?_set_self (by rw [List.length_append, List.length_replicate]; omega)]; rfl
 have hb : (T.map fun t => t.2.2).getD i 0 = t.2.2 := by
  rw [List.getD_eq_getElem?_getD, List.getElem?_map, h1]; rfl
 have hd : ((tabT cn T).map fun r => dotQ r (x ++ List.replicate (slacks (kindsT T)) 0)).getD i 0 = dotQ t.1 x := by
  rw [List.getD_eq_getElem?_getD, List.getElem?_map, e2]
  show dotQ (stdRow t.1 (slacks (kindsT T)) ((cn + q2 : Nat) : Int) t.2.1) (x ++ List.replicate (slacks (kindsT T)) 0) = _
  rw [std_dot t.1 x _ (slacks (kindsT T)) q2 cn t.2.1 0 ht hx (by simp) (replicate_get _ _ hq2)]; grind
 show ((tabT cn T).getD i []).getD (cn + q2) 0 * ((T.map fun t => t.2.2).getD i 0 - _) = _
 rw [hM, hb, hd]; rfl
theorem lift_sum (cn : Nat) (T : List TRow) (x : List Rat) (hT : ∀ t, t ∈ T → t.1.length = cn) (hx : x.length = cn) (i : Nat) (t : TRow) (h : T[i]? = some t) :
  ((tabT cn T).map fun r => dotQ r (x ++ slackR x T))[i]? = some (if t.2.1 = 3 then dotQ t.1 x else t.2.2) := by
 have ht := hT t (List.mem_of_getElem? h)
 obtain ⟨p, e1, e2⟩ := tabT_get cn T i t h
 rw [List.getElem?_map, e2]
 show some (dotQ (stdRow t.1 (slacks (kindsT T)) p t.2.1) (x ++ slackR x T)) = _
 by_cases h3 : t.2.1 = 3
 ·
  rw [lefts_eq3 T cn i t p h e1 h3, std_dot3 _ _ _ _ cn _ ht hx, if_pos h3]
 ·
  obtain ⟨q, rfl, e4⟩ := slackR_get x T cn i t p h e1 h3
  rw [std_dot t.1 x _ _ q cn t.2.1 _ ht hx (slackR_len x T) e4, if_neg h3]
  unfold leaves
  have := signK_two t.2.1
  congr 1
  generalize (signK t.2.1 : Rat) = s at *
  generalize dotQ t.1 x = d at *
  have e : s * (s * (t.2.2 - d)) = (s * s) * (t.2.2 - d) := by grind
  rw [e, this]; grind
theorem lift_cost (cost x v : List Rat) (S : Nat) (h : cost.length = x.length) : dotQ (cost ++ List.replicate S 0) (x ++ v) = dotQ cost x := by
 rw [dotQ_app _ _ _ _ h, zeros_dotQ]; grind
def holdsT (x : List Rat) (t : TRow) : Bool := if t.2.1 = 1 then decide (dotQ t.1 x - t.2.2 ≤ 0) else if t.2.1 = 2 then decide (0 ≤ dotQ t.1 x - t.2.2) else decide (t.2.1 = 3) && decide (dotQ t.1 x - t.2.2 = 0)
theorem leaves_holds (x : List Rat) (t : TRow) (hk : 1 ≤ t.2.1 ∧ t.2.1 ≤ 3) (h3 : t.2.1 ≠ 3) : decide (leaves x t < 0) = !holdsT x t := by
 unfold leaves holdsT signK
 generalize dotQ t.1 x = d
 by_cases h1 : t.2.1 = 1
 ·
  rw [if_pos h1, if_pos h1]
  rw [show (((1 : Int) : Rat)) = 1 from rfl, Bool.eq_iff_iff]
  simp only [decide_eq_true_eq, Bool.not_eq_true', decide_eq_false_iff_not]
  constructor <;> intro h <;> grind
 ·
  have h2 : t.2.1 = 2 := by omega
  rw [if_neg h1, if_neg h1, if_pos h2]
  rw [show (((-1 : Int) : Rat)) = -1 from rfl, Bool.eq_iff_iff]
  simp only [decide_eq_true_eq, Bool.not_eq_true', decide_eq_false_iff_not]
  constructor <;> intro h <;> grind
def anyBelow (l : List Rat) : Bool := l.any fun q => decide (q < 0)
theorem anyBelow_app (l m : List Rat) : anyBelow (l ++ m) = (anyBelow l || anyBelow m) := by unfold anyBelow; rw [List.any_append]
theorem lift_fits (x : List Rat) : ∀ (T : List TRow), (∀ t, t ∈ T → 1 ≤ t.2.1 ∧ t.2.1 ≤ 3) → (!anyBelow (slackR x T) && T.all (fun t => decide (t.2.1 ≠ 3) || holdsT x t)) = T.all (holdsT x)
 | [], _ => rfl
 | t :: T, h => by
  have ih := lift_fits x T fun t ht => h t (List.mem_cons_of_mem _ ht)
  have ht := h t (List.mem_cons_self ..)
  rw [slackR_cons, List.all_cons, List.all_cons, ← ih]
  by_cases h3 : t.2.1 = 3
  ·
   rw [if_pos h3]
   simp only [h3, ne_eq, not_true_eq_false, decide_false, Bool.false_or]
   cases holdsT x t <;> simp
  ·
   rw [if_neg h3]
   have := leaves_holds x t ht h3
   simp only [anyBelow, List.any_cons, this]
   simp only [h3, ne_eq, not_false_eq_true, decide_true, Bool.true_or, Bool.true_and]
   cases holdsT x t <;> simp
def addT (a : List Rat) (r : Rat) (b : List Rat) : List Rat := List.zipWith (fun u v => u + r * v) a b
theorem addT_len (a : List Rat) (r : Rat) (b : List Rat) (h : a.length = b.length) : (addT a r b).length = a.length := by unfold addT; rw [List.length_zipWith]; omega
theorem dotQ_addT (r : Rat) : ∀ (c a b : List Rat), a.length = b.length → dotQ c (addT a r b) = dotQ c a + r * dotQ c b
 | [], a, b, _ => by rw [dotQ_nil, dotQ_nil, dotQ_nil]; grind
 | _ :: _, [], [], _ => by show (0 : Rat) = 0 + r * 0; grind
 | z :: c, x :: a, y :: b, h => by
  show z * (x + r * y) + dotQ c (addT a r b) = z * x + dotQ c a + r * (z * y + dotQ c b)
  rw [dotQ_addT r c a b (by simpa using h)]; grind
def mixT (t : Rat) (xs ys : List Rat) : List Rat := addT (addT (List.replicate xs.length 0) t xs) (1 - t) ys
theorem dotQ_mix (t : Rat) (c xs ys : List Rat) (h : xs.length = ys.length) : dotQ c (mixT t xs ys) = t * dotQ c xs + (1 - t) * dotQ c ys := by
 unfold mixT
 rw [dotQ_addT _ _ _ _ (by rw [addT_len _ _ _ (by simp)]; simp [h]), dotQ_addT _ _ _ _ (by simp), dotQ_zeros]; grind
theorem between {t a b : Rat} (h0 : 0 ≤ t) (h1 : t ≤ 1) : (0 ≤ a → 0 ≤ b → 0 ≤ t * a + (1 - t) * b) ∧ (a ≤ 0 → b ≤ 0 → t * a + (1 - t) * b ≤ 0) ∧ (a ≤ b → a ≤ t * a + (1 - t) * b ∧ t * a + (1 - t) * b ≤ b) ∧ (b ≤ a → b ≤ t * a + (1 - t) * b ∧ t * a + (1 - t) * b ≤ a) := by
 have h2 : 0 ≤ 1 - t := by grind
 refine ⟨fun ha hb => ?_, fun ha hb => ?_, fun hab => ?_, fun hab => ?_⟩
 ·
  have := Rat.mul_nonneg h0 ha
  have := Rat.mul_nonneg h2 hb
  grind
 ·
  have := Rat.mul_nonneg h0 (show 0 ≤ -a by grind)
  have := Rat.mul_nonneg h2 (show 0 ≤ -b by grind)
  grind
 ·
  have := Rat.mul_nonneg h0 (show 0 ≤ b - a by grind)
  have := Rat.mul_nonneg h2 (show 0 ≤ b - a by grind)
  grind
 ·
  have := Rat.mul_nonneg h0 (show 0 ≤ a - b by grind)
  have := Rat.mul_nonneg h2 (show 0 ≤ a - b by grind)
  grind
theorem mix_below {t : Rat} (h0 : 0 ≤ t) (h1 : t ≤ 1) (xs ys : List Rat) (hx : anyBelow xs = false) (hy : anyBelow ys = false) : anyBelow (mixT t xs ys) = false := by
 have hz : ∀ (xs ys : List Rat), anyBelow xs = false → anyBelow ys = false → anyBelow (addT (addT (List.replicate xs.length 0) t xs) (1 - t) ys) = false := by
  intro xs
  induction xs with
  | nil => intro ys _ _; rfl
  | cons x xs ih =>
   intro ys hx hy
   cases ys with
   | nil => rfl
   | cons y ys =>
    simp only [anyBelow, List.any_cons, Bool.or_eq_false_iff, decide_eq_false_iff_not] at hx hy
    simp only [List.length_cons, List.replicate_succ, addT, List.zipWith_cons_cons, anyBelow, List.any_cons, Bool.or_eq_false_iff, decide_eq_false_iff_not]
    refine ⟨?_, ih ys hx.2 hy.2⟩
    have := (between h0 h1 (a := x) (b := y)).1 (by grind) (by grind)
    grind
 exact hz xs ys hx hy
theorem mix_holds {t : Rat} (h0 : 0 ≤ t) (h1 : t ≤ 1) (xs ys : List Rat) (hl : xs.length = ys.length) (r : TRow) (hx : holdsT xs r = true) (hy : holdsT ys r = true) : holdsT (mixT t xs ys) r = true := by
 unfold holdsT at *
 have e : dotQ r.1 (mixT t xs ys) - r.2.2 = t * (dotQ r.1 xs - r.2.2) + (1 - t) * (dotQ r.1 ys - r.2.2) := by
  rw [dotQ_mix _ _ _ _ hl]; grind
 rw [e]
 generalize dotQ r.1 xs - r.2.2 = a at *
 generalize dotQ r.1 ys - r.2.2 = b at *
 obtain ⟨b1, b2, _, _⟩ := between h0 h1 (a := a) (b := b)
 by_cases k1 : r.2.1 = 1
 ·
  rw [if_pos k1] at *
  exact decide_eq_true (b2 (of_decide_eq_true hx) (of_decide_eq_true hy))
 ·
  rw [if_neg k1] at *
  by_cases k2 : r.2.1 = 2
  ·
   rw [if_pos k2] at *
   exact decide_eq_true (b1 (of_decide_eq_true hx) (of_decide_eq_true hy))
  ·
   rw [if_neg k2] at *
   simp only [Bool.and_eq_true, decide_eq_true_eq] at hx hy ⊢
   refine ⟨hx.1, ?_⟩
   rw [hx.2, hy.2]; grind
end Go.Proofs.Ytndndfobkbeolaa
namespace Go.Proofs.Ytndndfobkbeolaa
open Go.RowKit
theorem lay_lift (M : Nat → Nat → Rat) (d : Nat → Rat) : ∀ (ls : List Int) (k : Nat) (z : List Rat), layAt M d k ls z = liftAt M d k ls z
 | [], _, _ => rfl
 | x :: ls, k, z => by
  rw [liftAt_cons]
  show layAt M d (k + 1) ls (if 0 ≤ x then z.set x.toNat (M k x.toNat * d k) else z) = _
  exact lay_lift M d ls (k + 1) _
theorem kinds_rows (rows : List PRow) : rows.map (·.kind) = kindsT (rows.map prowQ) := by unfold kindsT; rw [List.map_map]; rfl
theorem tab_rows (cn : Nat) (rows : List PRow) (ls : List Int) (S : Nat) (hls : ls = lefts cn (kindsT (rows.map prowQ))) (hS : S = slacks (kindsT (rows.map prowQ))) :
  (rows.zip ls).map (fun x => stdRow (qs x.1.coef) S x.2 x.1.kind) = tabT cn (rows.map prowQ) := by
 subst hls hS
 unfold tabT
 rw [List.zip_map_left, List.map_map]
 rfl
theorem lift_std {cn cols : Nat} {cost X : List Rat} {rows : List PRow} {ms : List MRow} {bs cs : List Rv} {ls : List Int} {T : List TRow} {S : Nat} (h : IsStd cn cost rows cols ms bs cs ls) (hT : rows.map prowQ = T) (hS : slacks (kindsT T) = S)
  (hl : ∀ r, r ∈ rows → (qs r.coef).length = cn) (hX : X.length = cn) :
  cols = cn + S ∧ liftQ ms bs ls (X ++ List.replicate S 0) = X ++ slackR X T ∧ qs cs = cost ++ List.replicate S 0 ∧
  (∀ (k : Nat) (r : PRow), rows[k]? = some r → (ms.map fun m => dotQ (qs m.vs) (X ++ slackR X T))[k]? = some (if r.kind = 3 then dotQ (qs r.coef) X else r.rhs.q) ∧ (qs bs)[k]? = some r.rhs.q) ∧ ls = lefts cn (kindsT T) ∧ ms.map (fun r => qs r.vs) = tabT cn T := by
 have hk := kinds_rows rows
 obtain ⟨h1, h2, h3, h4, h5⟩ := h
 rw [hk] at h1 h2 h4 h5
 rw [tab_rows cn rows ls _ h2 rfl] at h5
 rw [hT] at h1 h2 h4 h5
 rw [hS] at h1 h4
 have hTl : ∀ t, t ∈ T → t.1.length = cn := fun t ht => by
  rw [← hT] at ht
  obtain ⟨r, hr, rfl⟩ := List.mem_map.1 ht
  exact hl r hr
 have hb : qs bs = T.map fun t => t.2.2 := by rw [h3, ← hT, List.map_map]; rfl
 refine ⟨h1, ?_, h4, fun k r hr => ⟨?_, by rw [h3, List.getElem?_map, hr]; rfl⟩, h2, h5⟩
 ·
  rw [liftQ_eq, h5, hb]
  unfold liftN
  rw [← lay_lift, h2, ← hS]
  exact lift_form cn T X hTl hX
 ·
  have e : (ms.map fun m => dotQ (qs m.vs) (X ++ slackR X T)) = (ms.map fun r => qs r.vs).map fun r => dotQ r (X ++ slackR X T) := by rw [List.map_map]; rfl
  rw [e, h5]
  exact lift_sum cn T X hTl hX k (prowQ r) (by rw [← hT, List.getElem?_map, hr]; rfl)
theorem stdRow_long {coef : List Rat} (S : Nat) (x kd : Int) (h : AllL 1 coef) : AllL 1 (stdRow coef S x kd) := by
 unfold stdRow
 have h0 : AllL 1 (coef ++ List.replicate S 0) := h.append (allL_zeros S)
 split
 ·
  intro q hq
  rcases List.mem_or_eq_of_mem_set hq with h1 | rfl
  ·
   exact h0 q h1
  ·
   refine Long.whole ?_
   unfold signK
   split <;> (unfold W64; decide)
 ·
  exact h0
theorem leaves_long {X : List Rat} {t : TRow} (h1 : AllL 1 t.1) (h2 : AllL 1 X) (h3 : Long 1 t.2.2) (hl : t.1.length ≤ 5) : Long 40 (leaves X t) := by
 unfold leaves
 have hs : Long 1 (signK t.2.1 : Rat) := Long.whole (by unfold signK; split <;> (unfold W64; decide))
 have hd : Long 16 (dotQ t.1 X) := (dot_long _ _ h1 h2).mono (by omega)
 exact (hs.mul (h3.sub hd)).mono (by omega)
theorem slackR_long {X : List Rat} {T : List TRow} (hT : ∀ t, t ∈ T → AllL 1 t.1 ∧ Long 1 t.2.2 ∧ t.1.length ≤ 5) (hX : AllL 1 X) : AllL 40 (X ++ slackR X T) := by
 refine (hX.mono (by omega)).append fun q hq => ?_
 unfold slackR at hq
 obtain ⟨t, ht, e⟩ := List.mem_filterMap.1 hq
 split at e
 ·
  cases e
 ·
  cases e
  exact leaves_long (hT t ht).1 hX (hT t ht).2.1 (hT t ht).2.2
theorem tab_long {cn : Nat} {T : List TRow} (hT : ∀ t, t ∈ T → AllL 1 t.1) : ∀ r, r ∈ tabT cn T → AllL 1 r := fun r hr => by
 unfold tabT at hr
 obtain ⟨y, hy, rfl⟩ := List.mem_map.1 hr
 exact stdRow_long _ _ _ (hT _ (List.of_mem_zip hy).1)
theorem canLift_long {ms : List MRow} {bs : List Rv} {z : List Rat} {ls : List Int} {n : Nat} (hm : ∀ r, r ∈ ms → AllL 1 (qs r.vs) ∧ r.vs.length ≤ n) (hb : AllL 1 (qs bs)) (hz : AllL 1 z) (hs : n * 3 ≤ 100000000) : CanLift ms bs (sumsOf ms z) ls := fun k B u t mr v _ hu ht hmr hv => by
 have h1 := hm mr (List.mem_of_getElem? hmr)
 have hu2 := hb.get (qs_get hu)
 have hv2 := h1.1.get (qs_get hv)
 have ht2 : Long 200000000 t := by
  unfold sumsOf at ht
  rw [List.getElem?_map] at ht
  cases hx : ms[k]? with
  | none => rw [hx] at ht; cases ht
  | some y =>
   rw [hx] at ht
   cases ht
   have h2 := hm y (List.mem_of_getElem? hx)
   refine (dot_long _ _ h2.1 hz).mono ?_
   have := Nat.mul_le_mul_right (1 + 1 + 1) (show (qs y.vs).length ≤ n by rw [qs_len]; exact h2.2)
   omega
 exact ⟨canAdd_long hu2 ht2.neg (by omega), canMul_long hv2 (hu2.sub ht2) (by omega)⟩
theorem mayAt_right {m : Nat} : ∀ (rows : List PRow) (k : Nat), (∀ r, r ∈ rows → r.n = m ∧ 1 ≤ r.kind ∧ r.kind ≤ 3) → mayAt m k rows = noF
 | [], _, _ => rfl
 | r :: rs, k, h => by
  obtain ⟨h1, h2, h3⟩ := h r (List.mem_cons_self ..)
  rw [mayAt_cons, if_neg (by omega), if_neg (by omega)]
  exact mayAt_right rs (k + 1) fun r hr => h r (List.mem_cons_of_mem _ hr)
theorem mayF_right {m : Nat} {rows : List PRow} (hm : m ≤ 5) (hn : rows.length ≤ 4) (h : ∀ r, r ∈ rows → r.n = m ∧ 1 ≤ r.kind ∧ r.kind ≤ 3) : mayF m rows = noF := by
 unfold mayF
 rw [if_neg (by omega)]
 exact mayAt_right rows 0 h
theorem holdsT_row (r : PRow) (vs : List Rv) (m : Nat) (hn : r.n = m) (hk : 1 ≤ r.kind ∧ r.kind ≤ 3) : rowHolds r vs m = holdsT (qs vs) (prowQ r) := by
 unfold rowHolds holdsQ holdsT
 rw [decide_eq_true hn, Bool.true_and]
 show _ = if r.kind = 1 then decide (dotQ (qs r.coef) (qs vs) - r.rhs.q ≤ 0) else if r.kind = 2 then decide (0 ≤ dotQ (qs r.coef) (qs vs) - r.rhs.q) else decide (r.kind = 3) && decide (dotQ (qs r.coef) (qs vs) - r.rhs.q = 0)
 generalize dotQ (qs r.coef) (qs vs) - r.rhs.q = d
 have e1 : decide (d.num ≤ 0) = decide (d ≤ 0) := by rw [Bool.eq_iff_iff, decide_eq_true_iff, decide_eq_true_iff, ← Rat.not_lt, Rat.lt_iff]; simp
 have e2 : decide (0 ≤ d.num) = decide (0 ≤ d) := by rw [Bool.eq_iff_iff, decide_eq_true_iff, decide_eq_true_iff, Rat.num_nonneg]
 rw [e1, e2]
theorem all_of_mem {α : Type} {p q : α → Bool} : ∀ (l : List α), (∀ r, r ∈ l → p r = q r) → l.all p = l.all q
 | [], _ => rfl
 | x :: l, h => by
  rw [List.all_cons, List.all_cons, h x (List.mem_cons_self ..), all_of_mem l fun r hr => h r (List.mem_cons_of_mem _ hr)]
theorem belowQ_any (l : List Rat) : belowQ l = anyBelow l := by
 unfold belowQ anyBelow
 congr 1
 funext q
 rw [Bool.eq_iff_iff, decide_eq_true_iff, decide_eq_true_iff, Rat.lt_iff]; simp
end Go.Proofs.Ytndndfobkbeolaa
namespace Go.Proofs.Ytndndfobkbeolaa
open Go.RowKit Go.Extern.Stop Go.Stop Go.Extern
set_option maxRecDepth 100000 in
set_option maxHeartbeats 4000000 in
theorem rmin_any (u v : Rv) (w : World) (hu1 : u.ok w) (hv1 : v.ok w) (hc : CanCmp v.q u.q) : Calls Try.prog 38 #[.agg #[.bool u.s, .slice u.a u.l u.c, .slice u.b u.m u.d], .agg #[.bool v.s, .slice v.a v.l v.c, .slice v.b v.m v.d]] w (RvR (if cmpR v.q u.q < 0 then v.q else u.q) w) := by
 have HC := Lib.hid (fun (W : World) (hb : Below w.heap.size w W) => hc v u W (hv1.below hb) (hu1.below hb) rfl rfl)
 have HU := Lib.hid (fun (W : World) (hb : Below w.heap.size w W) => hu1.below hb)
 have HV := Lib.hid (fun (W : World) (hb : Below w.heap.size w W) => hv1.below hb)
 obtain ⟨z, hz⟩ : ∃ z, cmpR v.q u.q = z := ⟨_, rfl⟩
 rw [hz] at HC
 rw [hz]
 clear hu1 hv1 hc hz
 obtain ⟨W0, hW0⟩ : ∃ W0, W0 = (((w.alloc (.cells #[.bool u.s, .slice u.a u.l u.c, .slice u.b u.m u.d] 40)).alloc (.cells #[.bool v.s, .slice v.a v.l v.c, .slice v.b v.m v.d] 40)).alloc (.cells #[.bool false, .slice none 0 0, .slice none 0 0] 40)) := ⟨_, rfl⟩
 have hbs : BS w [⟨w.heap.size, 40, [.bool u.s, .slice u.a u.l u.c, .slice u.b u.m u.d]⟩, ⟨w.heap.size + 1, 40, [.bool v.s, .slice v.a v.l v.c, .slice v.b v.m v.d]⟩, ⟨w.heap.size + 1 + 1, 40, [.bool false, .slice none 0 0, .slice none 0 0]⟩] [] (((w.alloc (.cells #[.bool u.s, .slice u.a u.l u.c, .slice u.b u.m u.d] 40)).alloc (.cells #[.bool v.s, .slice v.a v.l v.c, .slice v.b v.m v.d] 40)).alloc (.cells #[.bool false, .slice none 0 0, .slice none 0 0] 40)) :=
  ((((BS.start w).alloc (p := w.heap.size) rfl 40 [.bool u.s, .slice u.a u.l u.c, .slice u.b u.m u.d] rfl).alloc (p := w.heap.size + 1) (by simp) 40 [.bool v.s, .slice v.a v.l v.c, .slice v.b v.m v.d] rfl).alloc (p := w.heap.size + 1 + 1) (by simp) 40 [.bool false, .slice none 0 0, .slice none 0 0] rfl)
 rw [← hW0] at hbs
 have HW0 := Lib.hid hW0
 have HN := Lib.hid hbs
 clear hW0 hbs
 by_cases hlt : z < 0
 all_goals
  go_enter Try.func38, Try.ntmps38
  go_wp2_with fail
  rw [← HW0.out]
  refine (HC.out _ HN.out.bel).mono ?_
  rintro e w1 ⟨rfl, hb⟩
  replace HN := Lib.hid (HN.out.call hb)
  clear hb HC
  have hat := HN.out.at 2 rfl
  have hge := HN.out.ge 2 rfl
  have a0 := HN.out.cell 0 0 rfl rfl
  have a1 := HN.out.cell 0 1 rfl rfl
  have a2 := HN.out.cell 0 2 rfl rfl
  have b0 := HN.out.cell 1 0 rfl rfl
  have b1 := HN.out.cell 1 1 rfl rfl
  have b2 := HN.out.cell 1 2 rfl rfl
  have r0 := HN.out.cell 2 0 rfl rfl
  have r1 := HN.out.cell 2 1 rfl rfl
  have r2 := HN.out.cell 2 2 rfl rfl
  have q0 := HN.out.free 2 0 rfl
  have q1 := HN.out.free 2 1 rfl
  have q2 := HN.out.free 2 2 rfl
  go_wp2_with fail
 ·
  have hs := set3_heap w1 (w.heap.size + 1 + 1) _ _ _ (.bool v.s) (.slice v.a v.l v.c) (.slice v.b v.m v.d) 40 hat
  have j0 := cell_of_block (j := 0) hs rfl
  have j1 := cell_of_block (j := 1) hs rfl
  have j2 := cell_of_block (j := 2) hs rfl
  refine bodyPost_ret (v := .agg #[.bool v.s, .slice v.a v.l v.c, .slice v.b v.m v.d]) (by simp [results, Try.results38, go_sem, j0, j1, j2]) rfl ?_
  exact ⟨v, rfl, (HV.out _ HN.out.bel).keeps (set3k w1 (w.heap.size + 1 + 1) _ _ _) (fun k hk => by rw [hk]; exact noWord_of hat (by decide)), by first | rfl | exact (if_pos hlt).symm, ((HN.out.bel.setCell hge _).setCell hge _).setCell hge _⟩
 ·
  have hs := set3_heap w1 (w.heap.size + 1 + 1) _ _ _ (.bool u.s) (.slice u.a u.l u.c) (.slice u.b u.m u.d) 40 hat
  have j0 := cell_of_block (j := 0) hs rfl
  have j1 := cell_of_block (j := 1) hs rfl
  have j2 := cell_of_block (j := 2) hs rfl
  refine bodyPost_ret (v := .agg #[.bool u.s, .slice u.a u.l u.c, .slice u.b u.m u.d]) (by simp [results, Try.results38, go_sem, j0, j1, j2]) rfl ?_
  exact ⟨u, rfl, (HU.out _ HN.out.bel).keeps (set3k w1 (w.heap.size + 1 + 1) _ _ _) (fun k hk => by rw [hk]; exact noWord_of hat (by decide)), by first | rfl | exact (if_neg hlt).symm, ((HN.out.bel.setCell hge _).setCell hge _).setCell hge _⟩
set_option maxRecDepth 100000 in
set_option maxHeartbeats 4000000 in
theorem rmax_any (u v : Rv) (w : World) (hu1 : u.ok w) (hv1 : v.ok w) (hc : CanCmp v.q u.q) : Calls Try.prog 39 #[.agg #[.bool u.s, .slice u.a u.l u.c, .slice u.b u.m u.d], .agg #[.bool v.s, .slice v.a v.l v.c, .slice v.b v.m v.d]] w (RvR (if 0 < cmpR v.q u.q then v.q else u.q) w) := by
 have HC := Lib.hid (fun (W : World) (hb : Below w.heap.size w W) => hc v u W (hv1.below hb) (hu1.below hb) rfl rfl)
 have HU := Lib.hid (fun (W : World) (hb : Below w.heap.size w W) => hu1.below hb)
 have HV := Lib.hid (fun (W : World) (hb : Below w.heap.size w W) => hv1.below hb)
 obtain ⟨z, hz⟩ : ∃ z, cmpR v.q u.q = z := ⟨_, rfl⟩
 rw [hz] at HC
 rw [hz]
 clear hu1 hv1 hc hz
 obtain ⟨W0, hW0⟩ : ∃ W0, W0 = (((w.alloc (.cells #[.bool u.s, .slice u.a u.l u.c, .slice u.b u.m u.d] 40)).alloc (.cells #[.bool v.s, .slice v.a v.l v.c, .slice v.b v.m v.d] 40)).alloc (.cells #[.bool false, .slice none 0 0, .slice none 0 0] 40)) := ⟨_, rfl⟩
 have hbs : BS w [⟨w.heap.size, 40, [.bool u.s, .slice u.a u.l u.c, .slice u.b u.m u.d]⟩, ⟨w.heap.size + 1, 40, [.bool v.s, .slice v.a v.l v.c, .slice v.b v.m v.d]⟩, ⟨w.heap.size + 1 + 1, 40, [.bool false, .slice none 0 0, .slice none 0 0]⟩] [] (((w.alloc (.cells #[.bool u.s, .slice u.a u.l u.c, .slice u.b u.m u.d] 40)).alloc (.cells #[.bool v.s, .slice v.a v.l v.c, .slice v.b v.m v.d] 40)).alloc (.cells #[.bool false, .slice none 0 0, .slice none 0 0] 40)) :=
  ((((BS.start w).alloc (p := w.heap.size) rfl 40 [.bool u.s, .slice u.a u.l u.c, .slice u.b u.m u.d] rfl).alloc (p := w.heap.size + 1) (by simp) 40 [.bool v.s, .slice v.a v.l v.c, .slice v.b v.m v.d] rfl).alloc (p := w.heap.size + 1 + 1) (by simp) 40 [.bool false, .slice none 0 0, .slice none 0 0] rfl)
 rw [← hW0] at hbs
 have HW0 := Lib.hid hW0
 have HN := Lib.hid hbs
 clear hW0 hbs
 by_cases hlt : 0 < z
 all_goals
  go_enter Try.func39, Try.ntmps39
  go_wp2_with fail
  rw [← HW0.out]
  refine (HC.out _ HN.out.bel).mono ?_
  rintro e w1 ⟨rfl, hb⟩
  replace HN := Lib.hid (HN.out.call hb)
  clear hb HC
  have hat := HN.out.at 2 rfl
  have hge := HN.out.ge 2 rfl
  have a0 := HN.out.cell 0 0 rfl rfl
  have a1 := HN.out.cell 0 1 rfl rfl
  have a2 := HN.out.cell 0 2 rfl rfl
  have b0 := HN.out.cell 1 0 rfl rfl
  have b1 := HN.out.cell 1 1 rfl rfl
  have b2 := HN.out.cell 1 2 rfl rfl
  have r0 := HN.out.cell 2 0 rfl rfl
  have r1 := HN.out.cell 2 1 rfl rfl
  have r2 := HN.out.cell 2 2 rfl rfl
  have q0 := HN.out.free 2 0 rfl
  have q1 := HN.out.free 2 1 rfl
  have q2 := HN.out.free 2 2 rfl
  go_wp2_with fail
 ·
  have hs := set3_heap w1 (w.heap.size + 1 + 1) _ _ _ (.bool v.s) (.slice v.a v.l v.c) (.slice v.b v.m v.d) 40 hat
  have j0 := cell_of_block (j := 0) hs rfl
  have j1 := cell_of_block (j := 1) hs rfl
  have j2 := cell_of_block (j := 2) hs rfl
  refine bodyPost_ret (v := .agg #[.bool v.s, .slice v.a v.l v.c, .slice v.b v.m v.d]) (by simp [results, Try.results39, go_sem, j0, j1, j2]) rfl ?_
  exact ⟨v, rfl, (HV.out _ HN.out.bel).keeps (set3k w1 (w.heap.size + 1 + 1) _ _ _) (fun k hk => by rw [hk]; exact noWord_of hat (by decide)), by first | rfl | exact (if_pos hlt).symm, ((HN.out.bel.setCell hge _).setCell hge _).setCell hge _⟩
 ·
  have hs := set3_heap w1 (w.heap.size + 1 + 1) _ _ _ (.bool u.s) (.slice u.a u.l u.c) (.slice u.b u.m u.d) 40 hat
  have j0 := cell_of_block (j := 0) hs rfl
  have j1 := cell_of_block (j := 1) hs rfl
  have j2 := cell_of_block (j := 2) hs rfl
  refine bodyPost_ret (v := .agg #[.bool u.s, .slice u.a u.l u.c, .slice u.b u.m u.d]) (by simp [results, Try.results39, go_sem, j0, j1, j2]) rfl ?_
  exact ⟨u, rfl, (HU.out _ HN.out.bel).keeps (set3k w1 (w.heap.size + 1 + 1) _ _ _) (fun k hk => by rw [hk]; exact noWord_of hat (by decide)), by first | rfl | exact (if_neg hlt).symm, ((HN.out.bel.setCell hge _).setCell hge _).setCell hge _⟩
def CanAT (us : List Rat) (r : Rat) (vs : List Rat) : Prop := ∀ (k : Nat) (p q : Rat), us[k]? = some p → vs[k]? = some q → CanMul r q ∧ CanAdd p (r * q)
theorem addT_get (us vs : List Rat) (r p q : Rat) (k : Nat) (h1 : us[k]? = some p) (h2 : vs[k]? = some q) : (addT us r vs)[k]? = some (p + r * q) := by
 unfold addT
 rw [List.getElem?_zipWith, h1, h2]
set_option maxRecDepth 100000 in
set_option maxHeartbeats 8000000 in
theorem addTimes_any (ua : Option Addr) (n uc : Nat) (us : List Rv) (r : Rv) (va : Option Addr) (vc : Nat) (vs : List Rv) (w : World) (hu1 : VecW w ua n uc us) (hr : r.ok w) (hv1 : VecW w va n vc vs) (hn : n ≤ 1000000) (hc : CanAT (qs us) r.q (qs vs)) :
  Calls Try.prog 62 #[.slice ua n uc, .agg #[.bool r.s, .slice r.a r.l r.c, .slice r.b r.m r.d], .slice va n vc] w fun e w' => ∃ a c zs, e = .returned (.tuple #[.slice a n c, .bool true]) ∧ VB w (addT (qs us) r.q (qs vs)) a n c zs w' := by
 have hul := hu1.sl.lenI
 have hmv := fun W => make_vec n (by omega) W
 obtain ⟨w1, hw1⟩ : ∃ w1, w.alloc (.cells #[.bool r.s, .slice r.a r.l r.c, .slice r.b r.m r.d] 40) = w1 := ⟨_, rfl⟩
 obtain ⟨rb, hrb⟩ : ∃ rb, w.heap.size = rb := ⟨_, rfl⟩
 have hb1 : Below w.heap.size w w1 := by rw [← hw1]; exact belowBox w _
 have hrx : w1.heap[rb]? = some (.cells #[.bool r.s, .slice r.a r.l r.c, .slice r.b r.m r.d] 40 (0, 0)) := by rw [← hw1, ← hrb]; exact heap_alloc_new w _
 have HU := Lib.hid (fun (W : World) (hb : Below w1.heap.size w1 W) => (hu1.below hb1).below hb)
 have HV := Lib.hid (fun (W : World) (hb : Below w1.heap.size w1 W) => (hv1.below hb1).below hb)
 have HRO := Lib.hid (fun (W : World) (hb : Below w.heap.size w W) => hr.below hb)
 have HC := Lib.hid hc
 have hal := belowBox w1 (.cells (zeroV n) 40)
 have HVB := Lib.hid (VB.made (Below.refl w1.heap.size w1) n hn)
 have HB1 := Lib.hid hb1
 have HRX := Lib.hid hrx
 have HLN := Lib.hid (show (addT (qs us) r.q (qs vs)).length = n by rw [addT_len _ _ _ (by rw [qs_len, qs_len, hu1.len, hv1.len]), qs_len, hu1.len])
 have HMV := Lib.hid (hmv w1)
 have HW1 := Lib.hid hw1
 have HRB := Lib.hid hrb
 have hnn : ((n : Int) != (n : Int)) = false := by simp
 clear hu1 hr hv1 hc hmv hb1 hw1 hrb hal hrx
 go_enter Try.func62, Try.ntmps62
 go_upto_region 1 with fail
 (try simp only [HW1.out])
 (try simp only [HRB.out])
 clear HW1 HRB
 go_upto_region 3 with fail
 have hmv := HMV.out
 clear HMV
 go_upto_region 4 with fail
 clear hmv
 have HNE0 := Lib.hid (show w1.heap.size ≠ rb by have := lt_of_block HRX.out; omega)
 obtain ⟨g, hg⟩ : ∃ g, w1.heap.size = g := ⟨_, rfl⟩
 have HG := Lib.hid (show w1.heap.size ≤ g by omega)
 rw [hg] at HVB HNE0 ⊢
 clear hg
 generalize w1.alloc (.cells (zeroV n) 40) = w2 at HVB ⊢
 go_wp2_with fail
 go_loopw [20] (fun iv wr => ∃ (k : Nat) (zs : List Rv), k ≤ n ∧ iv = .int .i64 k ∧ VB w1 ((addT (qs us) r.q (qs vs)).take k ++ List.replicate (n - k) 0) (some ⟨g, 0, none⟩) n n zs wr) (fun iv _ => n - (intOf iv).toNat)
 case atStart => exact ⟨0, _, Nat.zero_le _, rfl, by rw [List.take_zero, List.nil_append]; exact HVB.out⟩
 case round =>
  obtain ⟨k, zs, hk, rfl, hvb⟩ := hrel
  by_cases hlt : k < n
  ·
   obtain ⟨b1, o1, u, e1, eu, -, u0, u1, u2, -⟩ := (HU.out wr hvb.bel).get k hlt
   obtain ⟨b2, o2, v, e2, ev, -, v0, v1, v2, -⟩ := (HV.out wr hvb.bel).get k hlt
   have hl1 : b1 < w1.heap.size := by obtain ⟨_, _, _, h1, _, h2, _⟩ := (HU.out w1 (Below.refl _ _)).get k hlt; rw [e1] at h1; cases h1; exact h2
   have hl2 : b2 < w1.heap.size := by obtain ⟨_, _, _, h1, _, h2, _⟩ := (HV.out w1 (Below.refl _ _)).get k hlt; rw [e2] at h1; cases h1; exact h2
   have HNE1 := Lib.hid (show g ≠ b1 by have := HG.out; omega)
   have HNE2 := Lib.hid (show g ≠ b2 by have := HG.out; omega)
   have HUO := Lib.hid (fun (W : World) (hb : Below w1.heap.size w1 W) => (HU.out W hb).ok u (List.mem_of_getElem? eu))
   have HVO := Lib.hid (fun (W : World) (hb : Below w1.heap.size w1 W) => (HV.out W hb).ok v (List.mem_of_getElem? ev))
   obtain ⟨hcm, hca⟩ := HC.out k u.q v.q (qs_get eu) (qs_get ev)
   have HCM := Lib.hid hcm
   have HCA := Lib.hid hca
   have HST := Lib.hid (set_part (addT (qs us) r.q (qs vs)) (0 : Rat) n k (u.q + r.q * v.q) HLN.out hlt (addT_get _ _ _ _ _ _ (qs_get eu) (qs_get ev)))
   have HLT := Lib.hid hlt
   replace HVB := Lib.hid hvb
   have i0 : (0 : Int) ≤ (k : Int) := by omega
   have i1 : (k : Int) < (n : Int) := by omega
   have hK0 : wr.drew.cell? ⟨rb, 0, none⟩ = some (.bool r.s) ∧ wr.drew.cell? ⟨rb, 1, none⟩ = some (.slice r.a r.l r.c) ∧ wr.drew.cell? ⟨rb, 2, none⟩ = some (.slice r.b r.m r.d) ∧ wr.drew.cell? ⟨b1, o1 + k * 3, none⟩ = some (.bool u.s) ∧ wr.drew.cell? ⟨b1, o1 + k * 3 + 1, none⟩ = some (.slice u.a u.l u.c) ∧ wr.drew.cell? ⟨b1, o1 + k * 3 + 2, none⟩ = some (.slice u.b u.m u.d) ∧ wr.drew.cell? ⟨b2, o2 + k * 3, none⟩ = some (.bool v.s) ∧ wr.drew.cell? ⟨b2, o2 + k * 3 + 1, none⟩ = some (.slice v.a v.l v.c) ∧ wr.drew.cell? ⟨b2, o2 + k * 3 + 2, none⟩ = some (.slice v.b v.m v.d) := ⟨hu (bthen hvb.bel (Below.drawn wr 1)) (cell_of_block (j := 0) HRX.out rfl), hu (bthen hvb.bel (Below.drawn wr 1)) (cell_of_block (j := 1) HRX.out rfl), hu (bthen hvb.bel (Below.drawn wr 1)) (cell_of_block (j := 2) HRX.out rfl), u0, u1, u2, v0, v1, v2⟩
   subst e1 e2
   clear hvb eu ev hl1 hl2 hcm hca u0 u1 u2 v0 v1 v2
   go_upto_region 7 with fail
   refine wp_region_held_drew (S := fun W => W.cell? ⟨rb, 0, none⟩ = some (.bool r.s) ∧ W.cell? ⟨rb, 1, none⟩ = some (.slice r.a r.l r.c) ∧ W.cell? ⟨rb, 2, none⟩ = some (.slice r.b r.m r.d) ∧ W.cell? ⟨b1, o1 + k * 3, none⟩ = some (.bool u.s) ∧ W.cell? ⟨b1, o1 + k * 3 + 1, none⟩ = some (.slice u.a u.l u.c) ∧ W.cell? ⟨b1, o1 + k * 3 + 2, none⟩ = some (.slice u.b u.m u.d) ∧ W.cell? ⟨b2, o2 + k * 3, none⟩ = some (.bool v.s) ∧ W.cell? ⟨b2, o2 + k * 3 + 1, none⟩ = some (.slice v.a v.l v.c) ∧ W.cell? ⟨b2, o2 + k * 3 + 2, none⟩ = some (.slice v.b v.m v.d)) (by kernel_rfl) (hK0) (fun hHeld => ?_)
   replace HVB := Lib.hid (HVB.out.call (show Below wr.heap.size wr wr.drew from Below.drawn wr 1))
   generalize wr.drew = wd at HVB hHeld ⊢
   refine tk 0 (some 23) (v := ?_) rfl rfl ?_ ?_
   rotate_left
   ·
    (intro w _; go_simp; (try with_reducible rfl))
   simp only [Act.put, stB, stZ, stS]
   refine tk 1 (some 24) (v := ?_) rfl rfl ?_ ?_
   rotate_left
   ·
    (intro w _; go_simp; (try with_reducible rfl))
   simp only [Act.put, stB, stZ, stS]
   refine tk 2 (some 25) (v := ?_) rfl rfl ?_ ?_
   rotate_left
   ·
    (intro w _; go_simp; (try with_reducible rfl))
   simp only [Act.put, stB, stZ, stS]
   refine tk 3 (some 26) (v := ?_) rfl rfl ?_ ?_
   rotate_left
   ·
    (intro w _; go_simp; (try with_reducible rfl))
   simp only [Act.put, stB, stZ, stS]
   refine tk 4 (some 27) (v := ?_) rfl rfl ?_ ?_
   rotate_left
   ·
    (intro w hSw; (try dsimp only at hSw); ((try obtain ⟨hS0, hS1, hS2, hS3, hS4, hS5, hS6, hS7, hS8⟩ := hSw); go_simp); (try with_reducible rfl))
   simp only [Act.put, stB, stZ, stS]
   refine tk 5 (some 28) (v := ?_) rfl rfl ?_ ?_
   rotate_left
   ·
    (intro w hSw; (try dsimp only at hSw); ((try obtain ⟨hS0, hS1, hS2, hS3, hS4, hS5, hS6, hS7, hS8⟩ := hSw); go_simp); (try with_reducible rfl))
   simp only [Act.put, stB, stZ, stS]
   refine tk 6 (some 29) (v := ?_) rfl rfl ?_ ?_
   rotate_left
   ·
    (intro w hSw; (try dsimp only at hSw); ((try obtain ⟨hS0, hS1, hS2, hS3, hS4, hS5, hS6, hS7, hS8⟩ := hSw); go_simp); (try with_reducible rfl))
   simp only [Act.put, stB, stZ, stS]
   refine tk 7 (some 30) (v := ?_) rfl rfl ?_ ?_
   rotate_left
   ·
    (intro w _; go_simp; (try with_reducible rfl))
   simp only [Act.put, stB, stZ, stS]
   refine tk 8 (some 31) (v := ?_) rfl rfl ?_ ?_
   rotate_left
   ·
    (intro w _; go_simp; (try with_reducible rfl))
   simp only [Act.put, stB, stZ, stS]
   refine tk 9 (some 32) (v := ?_) rfl rfl ?_ ?_
   rotate_left
   ·
    (intro w hSw; (try dsimp only at hSw); ((try obtain ⟨hS0, hS1, hS2, hS3, hS4, hS5, hS6, hS7, hS8⟩ := hSw); go_simp); (try with_reducible rfl))
   simp only [Act.put, stB, stZ, stS]
   refine tk 10 (some 33) (v := ?_) rfl rfl ?_ ?_
   rotate_left
   ·
    (intro w hSw; (try dsimp only at hSw); ((try obtain ⟨hS0, hS1, hS2, hS3, hS4, hS5, hS6, hS7, hS8⟩ := hSw); go_simp); (try with_reducible rfl))
   simp only [Act.put, stB, stZ, stS]
   refine wpAnyH_ready (rs := [11]) (by kernel_rfl) (by simp) ?_
   refine (AllReadyH.cons (o := { dst := some 34, op := Op.call { callee := Callee.value (Operand.func 44), args := #[Operand.tmp 29, Operand.tmp 33], argTypes := #[40, 40] }, type := 40, pos := "vec.go:60", after := #[{ on := 6, ground := Ground.data }, { on := 10, ground := Ground.data }], guard := none }) rfl (fun K hK => ?_) AllReadyH.nil)
   go_simp
   refine (HCM.out r v _ (HRO.out _ (bthen HB1.out HVB.out.bel)) (HVO.out _ HVB.out.bel) rfl rfl).mono ?_
   rintro e w3 ⟨x, rfl, hxo, hxq, hb⟩
   unfold Rv.val
   replace HVB := Lib.hid (HVB.out.call hb)
   have HX := Lib.hid (And.intro hxo hxq)
   have hKK := And.intro (hu hb (hHeld.1)) <| And.intro (hu hb (hHeld.2.1)) <| And.intro (hu hb (hHeld.2.2.1)) <| And.intro (hu hb (hHeld.2.2.2.1)) <| And.intro (hu hb (hHeld.2.2.2.2.1)) <| And.intro (hu hb (hHeld.2.2.2.2.2.1)) <| And.intro (hu hb (hHeld.2.2.2.2.2.2.1)) <| And.intro (hu hb (hHeld.2.2.2.2.2.2.2.1)) <| hu hb (hHeld.2.2.2.2.2.2.2.2)
   clear hb hxo hxq
   refine hK.out _ _ (hKK) (fun hHeld2 => ?_)
   clear hK K hHeld
   rename _ => hHeld
   try simp only [Act.put, stB, stZ, stS]
   refine wpAnyH_ready (rs := [12]) (by kernel_rfl) (by simp) ?_
   refine (AllReadyH.cons (o := { dst := some 35, op := Op.call { callee := Callee.value (Operand.func 16), args := #[Operand.tmp 28, Operand.tmp 34], argTypes := #[40, 40] }, type := 40, pos := "vec.go:60", after := #[{ on := 5, ground := Ground.data }, { on := 11, ground := Ground.data }, { on := 11, ground := Ground.chain }], guard := none }) rfl (fun K hK => ?_) AllReadyH.nil)
   go_simp
   refine (HCA.out u x _ (HUO.out _ HVB.out.bel) (by first | exact HX.out.1 | exact HX.out.1.below (Below.refl _ _)) rfl HX.out.2).mono ?_
   rintro e w4 ⟨y, rfl, hyo, hyq, hb⟩
   unfold Rv.val
   replace HVB := Lib.hid (HVB.out.call hb)
   have HY := Lib.hid (And.intro hyo hyq)
   have hKK := And.intro (hu hb (hHeld.1)) <| And.intro (hu hb (hHeld.2.1)) <| And.intro (hu hb (hHeld.2.2.1)) <| And.intro (hu hb (hHeld.2.2.2.1)) <| And.intro (hu hb (hHeld.2.2.2.2.1)) <| And.intro (hu hb (hHeld.2.2.2.2.2.1)) <| And.intro (hu hb (hHeld.2.2.2.2.2.2.1)) <| And.intro (hu hb (hHeld.2.2.2.2.2.2.2.1)) <| hu hb (hHeld.2.2.2.2.2.2.2.2)
   clear hb hyo hyq
   refine hK.out _ _ (hKK) (fun hHeld2 => ?_)
   clear hK K hHeld
   rename _ => hHeld
   try simp only [Act.put, stB, stZ, stS]
   refine tk 13 (some 36) (v := ?_) rfl rfl ?_ ?_
   rotate_left
   ·
    (intro w hSw; (try dsimp only at hSw); ((try obtain ⟨hS0, hS1, hS2, hS3, hS4, hS5, hS6, hS7, hS8⟩ := hSw); go_simp); (try with_reducible rfl))
   simp only [Act.put, stB, stZ, stS]
   refine wpAnyH_ready (rs := [14]) (by kernel_rfl) (by simp) ?_
   refine (AllReadyH.cons (o := { dst := none, op := Op.store 40 (Operand.tmp 36) (Operand.tmp 35), type := 0, pos := "vec.go:60", after := #[{ on := 13, ground := Ground.data }, { on := 12, ground := Ground.data }, { on := 12, ground := Ground.chain }, { on := 0, ground := Ground.phase }, { on := 1, ground := Ground.phase }, { on := 2, ground := Ground.phase }, { on := 3, ground := Ground.phase }, { on := 4, ground := Ground.phase }, { on := 5, ground := Ground.phase }, { on := 6, ground := Ground.phase }, { on := 7, ground := Ground.phase }, { on := 8, ground := Ground.phase }, { on := 9, ground := Ground.phase }, { on := 10, ground := Ground.phase }, { on := 11, ground := Ground.phase }, { on := 12, ground := Ground.phase }], guard := none }) rfl (fun K hK => ?_) AllReadyH.nil)
   obtain ⟨x0, x1, x2, c0, c1, c2⟩ := HVB.out.cell0 HLT.out
   have f0 := HVB.out.mid.frozen (k * 3)
   have f1 := HVB.out.mid.frozen (k * 3 + 1)
   have f2 := HVB.out.mid.frozen (k * 3 + 2)
   go_simp
   clear c0 c1 c2 f0 f1 f2
   have HVN := Lib.hid (HVB.out.set0 HLT.out (by first | exact HY.out.1 | exact HY.out.1.below (Below.refl _ _)))
   have hKK := And.intro (set3_farK (p0 := k * 3) (p1 := k * 3 + 1) (p2 := k * 3 + 2) (x0 := .bool y.s) (x1 := .slice y.a y.l y.c) (x2 := .slice y.b y.m y.d) (show g ≠ rb from HNE0.out) (hHeld.1)) <| And.intro (set3_farK (p0 := k * 3) (p1 := k * 3 + 1) (p2 := k * 3 + 2) (x0 := .bool y.s) (x1 := .slice y.a y.l y.c) (x2 := .slice y.b y.m y.d) (show g ≠ rb from HNE0.out) (hHeld.2.1)) <| And.intro (set3_farK (p0 := k * 3) (p1 := k * 3 + 1) (p2 := k * 3 + 2) (x0 := .bool y.s) (x1 := .slice y.a y.l y.c) (x2 := .slice y.b y.m y.d) (show g ≠ rb from HNE0.out) (hHeld.2.2.1)) <| And.intro (set3_farK (p0 := k * 3) (p1 := k * 3 + 1) (p2 := k * 3 + 2) (x0 := .bool y.s) (x1 := .slice y.a y.l y.c) (x2 := .slice y.b y.m y.d) (show g ≠ b1 from HNE1.out) (hHeld.2.2.2.1)) <| And.intro (set3_farK (p0 := k * 3) (p1 := k * 3 + 1) (p2 := k * 3 + 2) (x0 := .bool y.s) (x1 := .slice y.a y.l y.c) (x2 := .slice y.b y.m y.d) (show g ≠ b1 from HNE1.out) (hHeld.2.2.2.2.1)) <| And.intro (set3_farK (p0 := k * 3) (p1 := k * 3 + 1) (p2 := k * 3 + 2) (x0 := .bool y.s) (x1 := .slice y.a y.l y.c) (x2 := .slice y.b y.m y.d) (show g ≠ b1 from HNE1.out) (hHeld.2.2.2.2.2.1)) <| And.intro (set3_farK (p0 := k * 3) (p1 := k * 3 + 1) (p2 := k * 3 + 2) (x0 := .bool y.s) (x1 := .slice y.a y.l y.c) (x2 := .slice y.b y.m y.d) (show g ≠ b2 from HNE2.out) (hHeld.2.2.2.2.2.2.1)) <| And.intro (set3_farK (p0 := k * 3) (p1 := k * 3 + 1) (p2 := k * 3 + 2) (x0 := .bool y.s) (x1 := .slice y.a y.l y.c) (x2 := .slice y.b y.m y.d) (show g ≠ b2 from HNE2.out) (hHeld.2.2.2.2.2.2.2.1)) <| set3_farK (p0 := k * 3) (p1 := k * 3 + 1) (p2 := k * 3 + 2) (x0 := .bool y.s) (x1 := .slice y.a y.l y.c) (x2 := .slice y.b y.m y.d) (show g ≠ b2 from HNE2.out) (hHeld.2.2.2.2.2.2.2.2)
   refine hK.out _ _ (hKK) (fun hHeld2 => ?_)
   clear hK K hHeld
   rename _ => hHeld
   try simp only [Act.put, stB, stZ, stS]
   refine wpAnyH_done (by kernel_rfl) ?_ _
   (try simp only [Exit.inBlock, Exit.then])
   clear hHeld
   go_wp2_with fail
   go_roundw
   case rel => exact ⟨k + 1, _, by omega, by go_num, by rw [← HST.out, ← HY.out.2]; exact HVN.out⟩
   case measure => simp [intOf]; omega
  ·
   obtain rfl : k = n := by omega
   rw [List.take_of_length_le (by rw [HLN.out]; exact Nat.le_refl _), Nat.sub_self, List.replicate_zero, List.append_nil] at hvb
   replace HVB := Lib.hid hvb
   clear hvb
   go_wp2_with fail
   go_ret2
   exact ⟨_, _, _, rfl, HVB.out.rebase HB1.out⟩
set_option maxRecDepth 100000 in
set_option maxHeartbeats 8000000 in
theorem combine2_any (ga gb : Nat) (t r : Rv) (xa : Option Addr) (n xc : Nat) (xs : List Rv) (ya : Option Addr) (yc : Nat) (ys : List Rv) (w : World) (hts : VecW w (some ⟨ga, 0, none⟩) 2 2 [t, r]) (h0 : w.cell? ⟨gb, 0, none⟩ = some (.slice xa n xc)) (h1 : w.cell? ⟨gb, 1, none⟩ = some (.slice ya n yc))
  (hx : VecW w xa n xc xs) (hy : VecW w ya n yc ys) (hn : n ≤ 1000000) (hc1 : CanAT (List.replicate n 0) t.q (qs xs)) (hc2 : CanAT (addT (List.replicate n 0) t.q (qs xs)) r.q (qs ys)) :
  Calls Try.prog 36 #[.slice (some ⟨ga, 0, none⟩) 2 2, .slice (some ⟨gb, 0, none⟩) 2 2] w fun e w' => ∃ a c zs, e = .returned (.tuple #[.slice a n c, .bool true]) ∧ VB w (addT (addT (List.replicate n 0) t.q (qs xs)) r.q (qs ys)) a n c zs w' := by
 have hxl := hx.sl.lenI
 have hmv := make_vec n (by omega) w
 obtain ⟨b0, o0, t0, e0, et, -, t00, t01, t02, tok⟩ := hts.get 0 (by omega)
 obtain ⟨b1, o1, r1, e1, er, -, t10, t11, t12, rok⟩ := hts.get 1 (by omega)
 cases e0
 cases e1
 cases et
 cases er
 have HTC := Lib.hid (fun (W : World) (hb : Below w.heap.size w W) => (show (W.cell? ⟨ga, 0, none⟩ = some (.bool t.s) ∧ W.cell? ⟨ga, 1, none⟩ = some (.slice t.a t.l t.c) ∧ W.cell? ⟨ga, 2, none⟩ = some (.slice t.b t.m t.d)) ∧ (W.cell? ⟨ga, 3, none⟩ = some (.bool r.s) ∧ W.cell? ⟨ga, 4, none⟩ = some (.slice r.a r.l r.c) ∧ W.cell? ⟨ga, 5, none⟩ = some (.slice r.b r.m r.d)) ∧ W.cell? ⟨gb, 0, none⟩ = some (.slice xa n xc) ∧ W.cell? ⟨gb, 1, none⟩ = some (.slice ya n yc) from ⟨⟨hu hb t00, hu hb t01, hu hb t02⟩, ⟨hu hb t10, hu hb t11, hu hb t12⟩, hu hb h0, hu hb h1⟩))
 have HTO := Lib.hid (fun (W : World) (hb : Below w.heap.size w W) => And.intro (tok.below hb) (rok.below hb))
 have HX := Lib.hid (fun (W : World) (hb : Below w.heap.size w W) => And.intro (hx.below hb) (hy.below hb))
 have HC1 := Lib.hid hc1
 have HC2 := Lib.hid hc2
 have HVB := Lib.hid (VB.made (Below.refl w.heap.size w) n hn)
 have HMV := Lib.hid hmv
 have g0 := h0
 clear hts h1 h0 hx hy hc1 hc2 t00 t01 t02 t10 t11 t12 tok rok hmv
 go_enter Try.func36, Try.ntmps36
 go_upto_region 3 with fail
 have hmv := HMV.out
 clear HMV
 go_upto_region 4 with fail
 clear hmv g0
 obtain ⟨M, hM0, hM1, hM2⟩ : ∃ M : Nat → List Rat, M 0 = List.replicate n 0 ∧ M 1 = addT (List.replicate n 0) t.q (qs xs) ∧ M 2 = addT (addT (List.replicate n 0) t.q (qs xs)) r.q (qs ys) := ⟨fun k => if k = 0 then List.replicate n 0 else if k = 1 then addT (List.replicate n 0) t.q (qs xs) else addT (addT (List.replicate n 0) t.q (qs xs)) r.q (qs ys), rfl, rfl, rfl⟩
 have HM0 := Lib.hid hM0
 have HM1 := Lib.hid hM1
 have HM2 := Lib.hid hM2
 clear hM0 hM1 hM2
 generalize w.alloc (.cells (zeroV n) 40) = w2 at HVB ⊢
 go_wp2_with fail
 go_loopw [6, 27] (fun v6 iv wr => ∃ (k : Nat) (a : Option Addr) (c : Nat) (zs : List Rv), k ≤ 2 ∧ iv = .int .i64 k ∧ v6 = .slice a n c ∧ VB w (M k) a n c zs wr) (fun _ iv _ => 2 - (intOf iv).toNat)
 case atStart => exact ⟨0, _, _, _, Nat.zero_le _, rfl, rfl, by rw [HM0.out]; exact HVB.out⟩
 case round =>
  obtain ⟨k, a, c, zs, hk, rfl, rfl, hvb⟩ := hrel
  have hal := hvb.vec.sl.lenI
  replace HVB := Lib.hid hvb
  obtain ⟨⟨t00, t01, t02⟩, ⟨t10, t11, t12⟩, g0, g1⟩ := HTC.out wr hvb.bel
  clear hvb
  have hcase : k = 0 ∨ k = 1 ∨ k = 2 := by omega
  rcases hcase with rfl | rfl | rfl
  ·
   go_wp2_with fail
   refine (addTimes_any a n c zs t xa xc xs wr HVB.out.vec (HTO.out wr HVB.out.bel).1 (HX.out wr HVB.out.bel).1 hn (by rw [HVB.out.q, HM0.out]; exact HC1.out)).mono ?_
   rintro e w3 ⟨a3, c3, zs3, rfl, h3⟩
   rw [HVB.out.q, HM0.out, ← HM1.out] at h3
   have H3 := Lib.hid (h3.rebase HVB.out.bel)
   clear h3 t00 t01 t02 t10 t11 t12 g0 g1
   go_wp2_with fail
   go_roundw
   case rel => exact ⟨1, a3, c3, zs3, by omega, by go_num, rfl, H3.out⟩
   case measure => simp [intOf]
  ·
   go_wp2_with fail
   refine (addTimes_any a n c zs r ya yc ys wr HVB.out.vec (HTO.out wr HVB.out.bel).2 (HX.out wr HVB.out.bel).2 hn (by rw [HVB.out.q, HM1.out]; exact HC2.out)).mono ?_
   rintro e w3 ⟨a3, c3, zs3, rfl, h3⟩
   rw [HVB.out.q, HM1.out, ← HM2.out] at h3
   have H3 := Lib.hid (h3.rebase HVB.out.bel)
   clear h3 t00 t01 t02 t10 t11 t12 g0 g1
   go_wp2_with fail
   go_roundw
   case rel => exact ⟨2, a3, c3, zs3, by omega, by go_num, rfl, H3.out⟩
   case measure => simp [intOf]
  ·
   clear t00 t01 t02 t10 t11 t12 g0 g1
   go_wp2_with fail
   go_ret2
   exact ⟨a, c, zs, rfl, by rw [← HM2.out]; exact HVB.out⟩
end Go.Proofs.Ytndndfobkbeolaa
