/-
  The plain law of framing: what bodies a stream of bytes holds, what is left, whether it ends; however it is cut, the same. No program in sight.
  Printed by a program of this repository (wip/frame1.py).
-/
namespace Go.Proofs.YtamkappanknklaaDoor

/-- The length that a frame's first four bytes tell. -/
def be (xs : List Int) : Int := xs.getD 0 0 * 16777216 + xs.getD 1 0 * 65536 + xs.getD 2 0 * 256 + xs.getD 3 0
/-- Is this no length of a body? -/
def badLen (n : Int) : Prop := n < 1 ∨ 65536 < n
instance (n : Int) : Decidable (badLen n) := inferInstanceAs (Decidable (_ ∨ _))

/-- Of a stream: the bodies of the frames that are whole, the bytes that wait, whether it has ended (so many steps at the most). -/
def frames : Nat → List Int → List (List Int) × List Int × Bool
  | 0, xs => ([], xs, false)
  | f + 1, xs =>
    if xs.length < 4 then ([], xs, false)
    else if badLen (be xs) then ([], [], true)
    else if xs.length - 4 < (be xs).toNat then ([], xs, false)
    else ((xs.drop 4).take (be xs).toNat :: (frames f (xs.drop (4 + (be xs).toNat))).1, (frames f (xs.drop (4 + (be xs).toNat))).2)

theorem frames_enough : ∀ (f g : Nat) (xs : List Int), xs.length ≤ f → xs.length ≤ g → frames f xs = frames g xs
  | 0, 0, xs, _, _ => rfl
  | 0, g + 1, xs, h, _ => by
    have : xs.length < 4 := by omega
    simp [frames, this]
  | f + 1, 0, xs, _, h => by
    have : xs.length < 4 := by omega
    simp [frames, this]
  | f + 1, g + 1, xs, hf, hg => by
    unfold frames
    by_cases h1 : xs.length < 4
    · simp [h1]
    · by_cases h2 : badLen (be xs)
      · simp [h1, h2]
      · have e := frames_enough f g (xs.drop (4 + (be xs).toNat)) (by rw [List.length_drop]; omega) (by rw [List.length_drop]; omega)
        rw [e]

/-- Of all of a stream. -/
def split (xs : List Int) : List (List Int) × List Int × Bool := frames xs.length xs

theorem split_eq (xs : List Int) : split xs = if xs.length < 4 then ([], xs, false) else if badLen (be xs) then ([], [], true) else if xs.length - 4 < (be xs).toNat then ([], xs, false)
    else ((xs.drop 4).take (be xs).toNat :: (split (xs.drop (4 + (be xs).toNat))).1, (split (xs.drop (4 + (be xs).toNat))).2) := by
  have h : split xs = frames (xs.length + 1) xs := frames_enough _ _ _ (Nat.le_refl _) (by omega)
  rw [h]
  unfold frames
  have e := frames_enough xs.length (xs.drop (4 + (be xs).toNat)).length (xs.drop (4 + (be xs).toNat)) (by rw [List.length_drop]; omega) (Nat.le_refl _)
  rw [e]
  rfl
theorem split_short {xs : List Int} (h : xs.length < 4) : split xs = ([], xs, false) := by rw [split_eq, if_pos h]
theorem split_bad {xs : List Int} (h : ¬ xs.length < 4) (hb : badLen (be xs)) : split xs = ([], [], true) := by rw [split_eq, if_neg h, if_pos hb]
theorem split_wait {xs : List Int} (h : ¬ xs.length < 4) (hb : ¬ badLen (be xs)) (hw : xs.length - 4 < (be xs).toNat) : split xs = ([], xs, false) := by rw [split_eq, if_neg h, if_neg hb, if_pos hw]
theorem split_body {xs : List Int} (h : ¬ xs.length < 4) (hb : ¬ badLen (be xs)) (hw : ¬ xs.length - 4 < (be xs).toNat) :
    split xs = ((xs.drop 4).take (be xs).toNat :: (split (xs.drop (4 + (be xs).toNat))).1, (split (xs.drop (4 + (be xs).toNat))).2) := by rw [split_eq, if_neg h, if_neg hb, if_neg hw]
theorem split_nil : split [] = ([], [], false) := split_short (by decide)

theorem be_append (a b : List Int) (h : ¬ a.length < 4) : be (a ++ b) = be a := by
  unfold be
  simp only [List.getD_eq_getElem?_getD]
  rw [List.getElem?_append_left (by omega), List.getElem?_append_left (by omega), List.getElem?_append_left (by omega), List.getElem?_append_left (by omega)]

/-- HOWEVER A STREAM IS CUT: what has come before, then the rest together with what comes. -/
theorem split_append (n : Nat) : ∀ (a b : List Int), a.length ≤ n →
    split (a ++ b) = if (split a).2.2 = true then split a else ((split a).1 ++ (split ((split a).2.1 ++ b)).1, (split ((split a).2.1 ++ b)).2) := by
  induction n with
  | zero =>
    intro a b h
    have : a = [] := List.eq_nil_of_length_eq_zero (by omega)
    subst this
    simp [split_nil]
  | succ n ih =>
    intro a b h
    by_cases h1 : a.length < 4
    · simp [split_short h1]
    · have h1' : ¬ (a ++ b).length < 4 := by rw [List.length_append]; omega
      have eb := be_append a b h1
      by_cases h2 : badLen (be a)
      · rw [split_bad h1 h2, split_bad h1' (eb ▸ h2)]; rfl
      · by_cases h3 : a.length - 4 < (be a).toNat
        · simp [split_wait h1 h2 h3]
        · have h3' : ¬ (a ++ b).length - 4 < (be (a ++ b)).toNat := by rw [eb, List.length_append]; omega
          have h2' : ¬ badLen (be (a ++ b)) := eb ▸ h2
          rw [split_body h1' h2' h3', split_body h1 h2 h3, eb]
          have d1 : (a ++ b).drop (4 + (be a).toNat) = a.drop (4 + (be a).toNat) ++ b := List.drop_append_of_le_length (by omega)
          have d2 : ((a ++ b).drop 4).take (be a).toNat = (a.drop 4).take (be a).toNat := by
            rw [List.drop_append_of_le_length (by omega), List.take_append_of_le_length (by rw [List.length_drop]; omega)]
          have k := ih (a.drop (4 + (be a).toNat)) b (by rw [List.length_drop]; omega)
          rw [d1, d2, k]
          by_cases hd : (split (a.drop (4 + (be a).toNat))).2.2 = true
          · simp [hd]
          · simp [hd]

/-- What waits is no whole frame; what has ended waits for nothing. -/
theorem split_rest (n : Nat) : ∀ (a : List Int), a.length ≤ n → ((split a).2.2 = true → (split a).2.1 = []) ∧ ((split a).2.2 = false → split (split a).2.1 = ([], (split a).2.1, false)) := by
  induction n with
  | zero =>
    intro a h
    have : a = [] := List.eq_nil_of_length_eq_zero (by omega)
    subst this
    simp [split_nil]
  | succ n ih =>
    intro a h
    by_cases h1 : a.length < 4
    · simp [split_short h1]
    · by_cases h2 : badLen (be a)
      · simp [split_bad h1 h2]
      · by_cases h3 : a.length - 4 < (be a).toNat
        · simp [split_wait h1 h2 h3]
        · have k := ih (a.drop (4 + (be a).toNat)) (by rw [List.length_drop]; omega)
          rw [split_body h1 h2 h3]
          exact k

/-- So many bytes stand in frames. -/
def framed : List (List Int) → Nat
  | [] => 0
  | x :: r => 4 + x.length + framed r
theorem framed_append (a b : List (List Int)) : framed (a ++ b) = framed a + framed b := by
  induction a with
  | nil => simp [framed]
  | cons x r ih => simp only [List.cons_append, framed, ih]; omega

/-- Each body is of 1 to so many bytes, and all bytes are in a body, ahead of one, or wait. -/
theorem split_sizes (n : Nat) : ∀ (a : List Int), a.length ≤ n → (∀ x, x ∈ (split a).1 → 1 ≤ x.length ∧ x.length ≤ 65536) ∧ ((split a).2.2 = false → a.length = framed (split a).1 + (split a).2.1.length) ∧ ((split a).2.2 = true → framed (split a).1 + 4 ≤ a.length) := by
  induction n with
  | zero =>
    intro a h
    have : a = [] := List.eq_nil_of_length_eq_zero (by omega)
    subst this
    simp [split_nil, framed]
  | succ n ih =>
    intro a h
    by_cases h1 : a.length < 4
    · simp [split_short h1, framed]
    · by_cases h2 : badLen (be a)
      · simp [split_bad h1 h2, framed]; omega
      · by_cases h3 : a.length - 4 < (be a).toNat
        · simp [split_wait h1 h2 h3, framed]
        · obtain ⟨k1, k2, k3⟩ := ih (a.drop (4 + (be a).toNat)) (by rw [List.length_drop]; omega)
          rw [List.length_drop] at k2 k3
          have hl : ((a.drop 4).take (be a).toNat).length = (be a).toNat := by rw [List.length_take, List.length_drop]; omega
          have hb : 1 ≤ be a ∧ be a ≤ 65536 := by unfold badLen at h2; omega
          rw [split_body h1 h2 h3]
          refine ⟨fun x hx => ?_, fun hd => ?_, fun hd => ?_⟩
          · rcases List.mem_cons.1 hx with rfl | hx
            · rw [hl]; omega
            · exact k1 x hx
          · have := k2 hd; simp only [framed, hl]; omega
          · have := k3 hd; simp only [framed, hl]; omega

theorem framed_ge (n : Nat) (a : List Int) (h : a.length ≤ n) : (split a).1.length * 5 ≤ a.length := by
  obtain ⟨k1, k2, k3⟩ := split_sizes n a h
  have hf : ∀ (l : List (List Int)), (∀ x, x ∈ l → 1 ≤ x.length ∧ x.length ≤ 65536) → l.length * 5 ≤ framed l := by
    intro l
    induction l with
    | nil => intro _; simp [framed]
    | cons x r ih =>
      intro hl
      have h1 := ih fun y hy => hl y (List.mem_cons_of_mem _ hy)
      have h2 := hl x (List.mem_cons_self ..)
      simp only [List.length_cons, framed]; omega
  have := hf _ k1
  cases hd : (split a).2.2 with
  | false => have := k2 hd; omega
  | true => have := k3 hd; omega

/-- A body's frame. -/
def frameOf (x : List Int) : List Int := [((x.length / 16777216 % 256 : Nat) : Int), ((x.length / 65536 % 256 : Nat) : Int), ((x.length / 256 % 256 : Nat) : Int), ((x.length % 256 : Nat) : Int)] ++ x
theorem split_frames : ∀ (l : List (List Int)), (∀ x, x ∈ l → 1 ≤ x.length ∧ x.length ≤ 65536) → split (l.flatMap frameOf) = (l, [], false) := by
  intro l
  induction l with
  | nil => intro _; exact split_nil
  | cons x r ih =>
    intro hl
    have hx := hl x (List.mem_cons_self ..)
    have e : (x :: r).flatMap frameOf = frameOf x ++ r.flatMap frameOf := rfl
    have hlen : (frameOf x).length = 4 + x.length := by simp [frameOf]; omega
    have h1 : ¬ (frameOf x ++ r.flatMap frameOf).length < 4 := by rw [List.length_append, hlen]; omega
    have hbe : be (frameOf x ++ r.flatMap frameOf) = x.length := by
      simp only [be, frameOf, List.cons_append, List.nil_append, List.getD_cons_zero, List.getD_cons_succ]
      omega
    have h2 : ¬ badLen (be (frameOf x ++ r.flatMap frameOf)) := by rw [hbe]; unfold badLen; omega
    have h3 : ¬ (frameOf x ++ r.flatMap frameOf).length - 4 < (be (frameOf x ++ r.flatMap frameOf)).toNat := by rw [hbe, List.length_append, hlen]; omega
    rw [e, split_body h1 h2 h3, hbe]
    have t1 : ((frameOf x ++ r.flatMap frameOf).drop 4).take ((x.length : Int).toNat) = x := by
      simp [frameOf]
    have t2 : (frameOf x ++ r.flatMap frameOf).drop (4 + (x.length : Int).toNat) = r.flatMap frameOf := by
      rw [List.drop_append_of_le_length (by rw [hlen]; simp)]
      rw [List.drop_of_length_le (by rw [hlen]; simp), List.nil_append]
    rw [t1, t2, ih fun y hy => hl y (List.mem_cons_of_mem _ hy)]
end Go.Proofs.YtamkappanknklaaDoor
