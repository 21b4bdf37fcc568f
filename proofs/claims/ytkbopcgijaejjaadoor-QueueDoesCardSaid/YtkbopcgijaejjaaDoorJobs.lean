/-
  The jobs of a key: what each act makes of them; no walk.
  Printed by a program of this repository (wip/qu14.py).
-/
import Derived.Test.YtkbopcgijaejjaaDoorPlain
import Derived.Test.YtkbopcgijaejjaaDoorActs
namespace Go.Proofs.YtkbopcgijaejjaaDoor
open Go.RowKit

/-- A key's jobs. -/
def jobsK (rows : List Rw) (k : Int × Int) : List Int := if h : atS rows k.1 k.2 < rows.length then (rows[atS rows k.1 k.2]'h).jobs else []
theorem jobsK_mem {rows : List Rw} (hn : (rows.map keyOf).Nodup) {r : Rw} (hr : r ∈ rows) {k : Int × Int} (hk : keyOf r = k) : jobsK rows k = r.jobs := by
  have hI := atS_lt (t := k.1) (s := k.2) hr hk
  unfold jobsK
  rw [dif_pos hI, key_uniq hn (List.getElem_mem hI) hr ((atS_hit hI).trans hk.symm)]
theorem jobsK_none {rows : List Rw} {k : Int × Int} (h : ∀ r ∈ rows, keyOf r ≠ k) : jobsK rows k = [] := by
  unfold jobsK
  by_cases hI : atS rows k.1 k.2 < rows.length
  · exact absurd (atS_hit hI) (h _ (List.getElem_mem hI))
  · rw [dif_neg hI]
theorem jobsK_congr {rows rows' : List Rw} (hn : (rows.map keyOf).Nodup) (hn' : (rows'.map keyOf).Nodup) {k : Int × Int} (h : ∀ r, keyOf r = k → (r ∈ rows ↔ r ∈ rows')) : jobsK rows' k = jobsK rows k := by
  by_cases he : ∃ r ∈ rows, keyOf r = k
  · obtain ⟨r, hr, hk⟩ := he
    rw [jobsK_mem hn hr hk, jobsK_mem hn' ((h r hk).1 hr) hk]
  · have h1 : ∀ r ∈ rows, keyOf r ≠ k := fun r hr hk => he ⟨r, hr, hk⟩
    rw [jobsK_none h1, jobsK_none fun r hr hk => h1 r ((h r hk).2 hr) hk]
theorem jobs_put {rows : List Rw} {ws : List (Int × Int)} {bs : List Bool} (hi : Inv rows ws bs) (t s job : Int) (k : Int × Int) : jobsK (putS rows t s job) k = if k = (t, s) then jobsK rows k ++ [job] else jobsK rows k := by
  have hi' := hi.put t s job
  by_cases hh : atS rows t s < rows.length
  · have e : putS rows t s job = rows.set (atS rows t s) ⟨t, s, rows[atS rows t s].jobs ++ [job], rows[atS rows t s].busy⟩ := by unfold putS; rw [dif_pos hh]
    have hk := atS_hit hh
    by_cases hkk : k = (t, s)
    · subst hkk
      rw [if_pos rfl, jobsK_mem hi'.keys (k := (t, s)) (r := ⟨t, s, rows[atS rows t s].jobs ++ [job], rows[atS rows t s].busy⟩) (by rw [e]; exact (mem_setR hi.keys hh _ _).2 (.inl rfl)) rfl, jobsK_mem hi.keys (List.getElem_mem hh) hk]
    · rw [if_neg hkk]
      refine jobsK_congr hi.keys hi'.keys fun r hr => ?_
      rw [e, mem_setR hi.keys hh]
      constructor
      · intro h; exact .inr ⟨h, by rw [hr, hk]; exact hkk⟩
      · rintro (rfl | h)
        · exact absurd hr.symm hkk
        · exact h.1
  · have e : putS rows t s job = rows ++ [⟨t, s, [job], false⟩] := by unfold putS; rw [dif_neg hh]
    by_cases hkk : k = (t, s)
    · subst hkk
      rw [if_pos rfl, jobsK_mem hi'.keys (k := (t, s)) (r := ⟨t, s, [job], false⟩) (by rw [e]; simp) rfl, jobsK_none (atS_none hh)]; rfl
    · rw [if_neg hkk]
      refine jobsK_congr hi.keys hi'.keys fun r hr => ?_
      rw [e, List.mem_append, List.mem_singleton]
      constructor
      · exact .inl
      · rintro (h | rfl)
        · exact h
        · exact absurd hr.symm hkk
theorem jobs_begin {rows : List Rw} {ws : List (Int × Int)} {bs : List Bool} (hi : Inv rows ws bs) (hl : allR rows ≤ 4398046511104) (n p : Int) (k : Int × Int) : jobsK (beginR rows ws bs n p) k = jobsK rows k := by
  have hi' := hi.begin hl n p
  unfold beginR at hi' ⊢
  by_cases ho : beginO rows ws bs n = .ok
  · rw [if_pos ho] at hi' ⊢
    unfold markS at hi' ⊢
    by_cases hh : atS rows (pickS rows p).1 (pickS rows p).2 < rows.length
    · rw [dif_pos hh] at hi' ⊢
      have hk := atS_hit hh
      generalize hX : (⟨rows[atS rows (pickS rows p).1 (pickS rows p).2].t, rows[atS rows (pickS rows p).1 (pickS rows p).2].s, rows[atS rows (pickS rows p).1 (pickS rows p).2].jobs, true⟩ : Rw) = X at hi' ⊢
      have hXk : keyOf X = pickS rows p := by rw [← hX]; exact hk
      have hXj : X.jobs = rows[atS rows (pickS rows p).1 (pickS rows p).2].jobs := by rw [← hX]
      by_cases hkk : k = pickS rows p
      · rw [jobsK_mem hi'.keys ((mem_setR hi.keys hh X X).2 (.inl rfl)) (hXk.trans hkk.symm), jobsK_mem hi.keys (List.getElem_mem hh) (hk.trans hkk.symm), hXj]
      · refine jobsK_congr hi.keys hi'.keys fun r hr => ?_
        rw [mem_setR hi.keys hh]
        constructor
        · intro h; exact .inr ⟨h, by rw [hr, hk]; exact hkk⟩
        · rintro (rfl | h)
          · exact absurd (hr.symm.trans hXk) hkk
          · exact h.1
    · rw [dif_neg hh] at hi' ⊢
  · rw [if_neg ho] at hi' ⊢
theorem jobs_end {rows : List Rw} {ws : List (Int × Int)} {bs : List Bool} (hi : Inv rows ws bs) (n : Int) (k : Int × Int) : jobsK (endR rows ws bs n) k = if endO ws bs n = .ok ∧ k = endK ws bs n then (jobsK rows k).tail else jobsK rows k := by
  have hi' := hi.ends n
  unfold endR endB at hi'
  unfold endR
  by_cases ho : endO ws bs n = .ok
  · rw [if_pos ho, if_pos ho] at hi'
    rw [if_pos ho]
    obtain ⟨hI, hk, hb, hw, _⟩ := own_row hi ho
    rw [end_rows hI] at hi' ⊢
    by_cases ht : rows[atS rows (endK ws bs n).1 (endK ws bs n).2].jobs.tail = []
    · rw [if_pos ht] at hi' ⊢
      by_cases hkk : k = endK ws bs n
      · rw [if_pos ⟨ho, hkk⟩, jobsK_mem hi.keys (List.getElem_mem hI) (hk.trans hkk.symm), ht]
        exact jobsK_none fun r hr hkr => ((mem_eraseR hi.keys hI r).1 hr).2 (by rw [hkr, hk, hkk])
      · rw [if_neg fun h => hkk h.2]
        refine jobsK_congr hi.keys hi'.keys fun r hr => ?_
        rw [mem_eraseR hi.keys hI]
        exact ⟨fun h => ⟨h, by rw [hr, hk]; exact hkk⟩, fun h => h.1⟩
    · rw [if_neg ht] at hi' ⊢
      generalize hX : (⟨rows[atS rows (endK ws bs n).1 (endK ws bs n).2].t, rows[atS rows (endK ws bs n).1 (endK ws bs n).2].s, rows[atS rows (endK ws bs n).1 (endK ws bs n).2].jobs.tail, false⟩ : Rw) = X at hi' ⊢
      have hXk : keyOf X = endK ws bs n := by rw [← hX]; exact hk
      have hXj : X.jobs = rows[atS rows (endK ws bs n).1 (endK ws bs n).2].jobs.tail := by rw [← hX]
      by_cases hkk : k = endK ws bs n
      · rw [if_pos ⟨ho, hkk⟩, jobsK_mem hi'.keys ((mem_setR hi.keys hI X X).2 (.inl rfl)) (hXk.trans hkk.symm), jobsK_mem hi.keys (List.getElem_mem hI) (hk.trans hkk.symm), hXj]
      · rw [if_neg fun h => hkk h.2]
        refine jobsK_congr hi.keys hi'.keys fun r hr => ?_
        rw [mem_setR hi.keys hI]
        constructor
        · intro h; exact .inr ⟨h, by rw [hr, hk]; exact hkk⟩
        · rintro (rfl | h)
          · exact absurd (hr.symm.trans hXk) hkk
          · exact h.1
  · rw [if_neg ho, if_neg fun h => ho h.1]
theorem endJ_head {rows : List Rw} {ws : List (Int × Int)} {bs : List Bool} (hi : Inv rows ws bs) (n : Int) (ho : endO ws bs n = .ok) : ∃ l, jobsK rows (endK ws bs n) = endJ rows ws bs n :: l := by
  obtain ⟨hI, hk, _⟩ := own_row hi ho
  rw [jobsK_mem hi.keys (List.getElem_mem hI) hk]
  unfold endJ
  rw [if_pos ho]
  unfold headS
  rw [dif_pos hI]
  have := hi.jobs _ (List.getElem_mem hI)
  cases hx : rows[atS rows (endK ws bs n).1 (endK ws bs n).2].jobs with
  | nil => exact absurd hx this
  | cons a l => exact ⟨l, rfl⟩

/-- The acts of a key. -/
def keyA (x : Ac) : Int × Int := (x.t, x.s)
def ofK (l : List Ac) (k : Int × Int) : List Ac := l.filter fun x => decide (keyA x = k)
/-- What was put, what has ended, what is there. -/
structure Ord (P E : List Ac) (rows : List Rw) : Prop where
  jobs : ∀ k, (ofK P k).map (fun x => x.j) = (ofK E k).map (fun x => x.j) ++ jobsK rows k
  all : allR rows + E.length = P.length
theorem Ord.new : Ord [] [] [] := ⟨fun k => by simp [ofK, jobsK, atS], rfl⟩
def newA (k : Int × Int) (j : Int) : Ac := ⟨0, k.1, k.2, j, 0, 0⟩
theorem ofK_push (l : List Ac) (k k' : Int × Int) (j : Int) : (ofK (l ++ [newA k j]) k').map (fun x => x.j) = (ofK l k').map (fun x => x.j) ++ if k' = k then [j] else [] := by
  unfold ofK
  rw [List.filter_append, List.map_append]
  congr 1
  by_cases h : k' = k
  · subst h; simp [newA, keyA]
  · rw [if_neg h]
    have : keyA (newA k j) ≠ k' := fun e => h e.symm
    simp [this]
theorem Ord.put {P E : List Ac} {rows : List Rw} {ws : List (Int × Int)} {bs : List Bool} (h : Ord P E rows) (hi : Inv rows ws bs) (t s job : Int) : Ord (P ++ [newA (t, s) job]) E (putS rows t s job) := by
  refine ⟨fun k => ?_, by have := h.all; rw [allR_put, List.length_append, List.length_singleton]; omega⟩
  rw [ofK_push, h.jobs, jobs_put hi]
  by_cases hk : k = (t, s)
  · rw [if_pos hk, if_pos hk, List.append_assoc]
  · rw [if_neg hk, if_neg hk, List.append_nil]
theorem Ord.begin {P E : List Ac} {rows : List Rw} {ws : List (Int × Int)} {bs : List Bool} (h : Ord P E rows) (hi : Inv rows ws bs) (hl : allR rows ≤ 4398046511104) (n p : Int) : Ord P E (beginR rows ws bs n p) :=
  ⟨fun k => by rw [jobs_begin hi hl]; exact h.jobs k, by rw [allR_begin]; exact h.all⟩
theorem Ord.ends {P E : List Ac} {rows : List Rw} {ws : List (Int × Int)} {bs : List Bool} (h : Ord P E rows) (hi : Inv rows ws bs) (n : Int) (ho : endO ws bs n = .ok) : Ord P (E ++ [newA (endK ws bs n) (endJ rows ws bs n)]) (endR rows ws bs n) := by
  refine ⟨fun k => ?_, by have := h.all; have := allR_end hi n; rw [if_pos ho] at this; rw [List.length_append, List.length_singleton]; omega⟩
  rw [ofK_push, h.jobs, jobs_end hi]
  by_cases hk : k = endK ws bs n
  · subst hk
    obtain ⟨l, hl⟩ := endJ_head hi n ho
    rw [if_pos rfl, if_pos ⟨ho, rfl⟩, hl, List.append_assoc]; rfl
  · rw [if_neg hk, if_neg fun h => hk h.2, List.append_nil]
theorem Ord.stay {P E : List Ac} {rows : List Rw} {ws : List (Int × Int)} {bs : List Bool} (h : Ord P E rows) (n : Int) (ho : endO ws bs n ≠ .ok) : Ord P E (endR rows ws bs n) := by
  unfold endR; rw [if_neg ho]; exact h
/-- How many before a place have its key. -/
def cntK (E : List Ac) (k : Int × Int) : Nat := (ofK E k).length
theorem cntK_take (E : List Ac) (k : Int × Int) (i : Nat) (h : i < E.length) : cntK (E.take (i + 1)) k = cntK (E.take i) k + if keyA E[i] = k then 1 else 0 := by
  unfold cntK ofK
  rw [List.take_succ_eq_append_getElem h, List.filter_append, List.length_append]
  by_cases hk : keyA E[i] = k <;> simp [hk]
theorem cntK_le (E : List Ac) (k : Int × Int) : cntK E k ≤ E.length := List.length_filter_le _ _
theorem ofK_at (E : List Ac) (i : Nat) (h : i < E.length) : (ofK E (keyA E[i]))[cntK (E.take i) (keyA E[i])]? = some E[i] := by
  have e : E = E.take i ++ E[i] :: E.drop (i + 1) := by rw [← List.drop_eq_getElem_cons h, List.take_append_drop]
  unfold cntK ofK
  obtain ⟨x, hx⟩ : ∃ x, x = E[i] := ⟨_, rfl⟩
  rw [← hx] at e ⊢
  conv => lhs; arg 1; rw [e]
  rw [List.filter_append, List.getElem?_append_right (Nat.le_refl _), Nat.sub_self, List.filter_cons_of_pos (by simp)]; rfl
/-- Is an act the n-th of its key? -/
def nthV (P : List Ac) (k : Int × Int) (j : Int) (n : Nat) : Bool := match (ofK P k)[n]? with | some a => a.j == j | none => false
theorem Ord.nth {P E : List Ac} {rows : List Rw} (h : Ord P E rows) (i : Nat) (hi : i < E.length) : nthV P (keyA E[i]) E[i].j (cntK (E.take i) (keyA E[i])) = true := by
  have h1 := ofK_at E i hi
  have h2 : ((ofK P (keyA E[i])).map fun x => x.j)[cntK (E.take i) (keyA E[i])]? = some E[i].j := by
    rw [h.jobs, List.getElem?_append_left (by
      rw [List.length_map]; exact (List.getElem?_eq_some_iff.1 h1).1), List.getElem?_map, h1]; rfl
  rw [List.getElem?_map] at h2
  unfold nthV
  cases hx : (ofK P (keyA E[i]))[cntK (E.take i) (keyA E[i])]? with
  | none => rw [hx] at h2; cases h2
  | some a =>
    rw [hx] at h2
    have : a.j = E[i].j := Option.some.inj h2
    simp [this]
theorem nthV_drop (P : List Ac) (i : Nat) (h : i < P.length) (k : Int × Int) (j : Int) (n : Nat) :
    nthV (P.drop i) k j n = if keyA P[i] = k then (match n with | 0 => P[i].j == j | n + 1 => nthV (P.drop (i + 1)) k j n) else nthV (P.drop (i + 1)) k j n := by
  unfold nthV ofK
  rw [List.drop_eq_getElem_cons h]
  by_cases hk : keyA P[i] = k
  · rw [if_pos hk, List.filter_cons_of_pos (by simpa using hk)]
    cases n <;> rfl
  · rw [if_neg hk, List.filter_cons_of_neg (by simpa using hk)]
end Go.Proofs.YtkbopcgijaejjaaDoor
