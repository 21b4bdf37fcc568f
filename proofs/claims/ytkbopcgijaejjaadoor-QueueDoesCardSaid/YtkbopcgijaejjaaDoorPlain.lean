/-
  What holds of a queue's rows and workers all along, whatever is done; no walk.
  Printed by a program of this repository (wip/qu9.py).
-/
import Derived.Test.YtkbopcgijaejjaaDoorEnd
namespace Go.Proofs.YtkbopcgijaejjaaDoor
open Go.RowKit

theorem atS_hit {rows : List Rw} {t s : Int} (h : atS rows t s < rows.length) : keyOf (rows[atS rows t s]'h) = (t, s) := by
  have := List.findIdx_getElem (w := h)
  have h2 : isK t s _ := of_decide_eq_true this
  exact Prod.ext h2.1 h2.2
theorem atS_none {rows : List Rw} {t s : Int} (h : ¬ atS rows t s < rows.length) : ∀ r ∈ rows, keyOf r ≠ (t, s) := by
  intro r hr e
  refine h (List.findIdx_lt_length_of_exists ⟨r, hr, ?_⟩)
  simp only [keyOf, Prod.mk.injEq] at e
  simp [isK, e.1, e.2]
theorem atS_lt {rows : List Rw} {t s : Int} {r : Rw} (hr : r ∈ rows) (hk : keyOf r = (t, s)) : atS rows t s < rows.length :=
  Classical.byContradiction fun h => atS_none h r hr hk
theorem key_inj {rows : List Rw} (hn : (rows.map keyOf).Nodup) {i j : Nat} (hi : i < rows.length) (hj : j < rows.length) (h : keyOf rows[i] = keyOf rows[j]) : i = j := by
  have hp := List.pairwise_iff_getElem.1 hn
  rcases Nat.lt_trichotomy i j with hlt | he | hgt
  · exact absurd (by rw [List.getElem_map, List.getElem_map]; exact h) (hp i j (by simpa using hi) (by simpa using hj) hlt)
  · exact he
  · exact absurd (by rw [List.getElem_map, List.getElem_map]; exact h.symm) (hp j i (by simpa using hj) (by simpa using hi) hgt)
theorem key_uniq {rows : List Rw} (hn : (rows.map keyOf).Nodup) {r x : Rw} (hr : r ∈ rows) (hx : x ∈ rows) (h : keyOf r = keyOf x) : r = x := by
  obtain ⟨i, hi, rfl⟩ := List.mem_iff_getElem.1 hr
  obtain ⟨j, hj, rfl⟩ := List.mem_iff_getElem.1 hx
  have := key_inj hn hi hj h
  subst this; rfl
theorem mem_setR {rows : List Rw} (hn : (rows.map keyOf).Nodup) {I : Nat} (hI : I < rows.length) (r' r : Rw) : r ∈ rows.set I r' ↔ r = r' ∨ (r ∈ rows ∧ keyOf r ≠ keyOf rows[I]) := by
  constructor
  · intro h
    obtain ⟨j, hj, rfl⟩ := List.mem_iff_getElem.1 h
    rw [List.getElem_set]
    split
    · exact .inl rfl
    · rename_i hne
      exact .inr ⟨List.getElem_mem _, fun e => hne (key_inj hn hI (by simpa using hj) e.symm)⟩
  · rintro (rfl | ⟨h, hk⟩)
    · exact List.mem_iff_getElem.2 ⟨I, by simpa using hI, by simp⟩
    · obtain ⟨j, hj, rfl⟩ := List.mem_iff_getElem.1 h
      refine List.mem_iff_getElem.2 ⟨j, by simpa using hj, ?_⟩
      rw [List.getElem_set_ne]
      intro e; subst e; exact hk rfl
theorem mem_eraseR {rows : List Rw} (hn : (rows.map keyOf).Nodup) {I : Nat} (hI : I < rows.length) (r : Rw) : r ∈ rows.eraseIdx I ↔ r ∈ rows ∧ keyOf r ≠ keyOf rows[I] := by
  rw [List.mem_eraseIdx_iff_getElem]
  constructor
  · rintro ⟨j, hj, hne, rfl⟩
    exact ⟨List.getElem_mem _, fun e => hne (key_inj hn hj hI e)⟩
  · rintro ⟨h, hk⟩
    obtain ⟨j, hj, rfl⟩ := List.mem_iff_getElem.1 h
    exact ⟨j, hj, fun e => by subst e; exact hk rfl, rfl⟩
/-- What holds of the rows and the workers all along. -/
structure Inv (rows : List Rw) (ws : List (Int × Int)) (bs : List Bool) : Prop where
  keys : (rows.map keyOf).Nodup
  jobs : ∀ r ∈ rows, r.jobs ≠ []
  len : ws.length = bs.length
  own : ∀ i : Nat, bs[i]? = some true → ∃ r ∈ rows, ws[i]? = some (keyOf r) ∧ r.busy = true
  one : ∀ i j : Nat, bs[i]? = some true → bs[j]? = some true → i ≠ j → ws[i]? ≠ ws[j]?
  full : ∀ r ∈ rows, r.busy = true → ∃ i : Nat, bs[i]? = some true ∧ ws[i]? = some (keyOf r)
theorem Inv.new (m : Nat) : Inv [] (List.replicate m (0, 0)) (List.replicate m false) :=
  ⟨List.nodup_nil, fun r h => (by cases h), by simp, fun i h => by simp [List.getElem?_replicate] at h, fun i j h => by simp [List.getElem?_replicate] at h, fun r h => (by cases h)⟩
theorem Inv.upd {rows : List Rw} {ws : List (Int × Int)} {bs : List Bool} (h : Inv rows ws bs) {I : Nat} (hI : I < rows.length) (r' : Rw) (hk : keyOf r' = keyOf rows[I]) (hb : r'.busy = rows[I].busy) (hj : r'.jobs ≠ []) : Inv (rows.set I r') ws bs := by
  have hk1 : r'.t = rows[I].t := congrArg Prod.fst hk
  have hk2 : r'.s = rows[I].s := congrArg Prod.snd hk
  refine ⟨by rw [keys_set rows I hI r' hk1 hk2]; exact h.keys, fun r hr => ?_, h.len, fun i hi => ?_, h.one, fun r hr hbr => ?_⟩
  · rcases (mem_setR h.keys hI r' r).1 hr with rfl | ⟨hr, _⟩
    · exact hj
    · exact h.jobs r hr
  · obtain ⟨r, hr, hw, hbr⟩ := h.own i hi
    by_cases he : keyOf r = keyOf rows[I]
    · have := key_uniq h.keys hr (List.getElem_mem hI) he
      exact ⟨r', (mem_setR h.keys hI r' r').2 (.inl rfl), by rw [hw, hk, he], by rw [hb, ← this, hbr]⟩
    · exact ⟨r, (mem_setR h.keys hI r' r).2 (.inr ⟨hr, he⟩), hw, hbr⟩
  · rcases (mem_setR h.keys hI r' r).1 hr with rfl | ⟨hr, _⟩
    · rw [hk]; exact h.full _ (List.getElem_mem hI) (by rw [← hb, hbr])
    · exact h.full r hr hbr
theorem Inv.push {rows : List Rw} {ws : List (Int × Int)} {bs : List Bool} (h : Inv rows ws bs) (r' : Rw) (hk : ∀ r ∈ rows, keyOf r ≠ keyOf r') (hb : r'.busy = false) (hj : r'.jobs ≠ []) : Inv (rows ++ [r']) ws bs := by
  refine ⟨?_, fun r hr => ?_, h.len, fun i hi => ?_, h.one, fun r hr hbr => ?_⟩
  · rw [List.map_append]
    refine List.pairwise_append.2 ⟨h.keys, List.pairwise_singleton _ _, fun x hx y hy => ?_⟩
    obtain ⟨r, hr, rfl⟩ := List.mem_map.1 hx
    rw [List.map_singleton, List.mem_singleton] at hy
    rw [hy]; exact hk r hr
  · rcases List.mem_append.1 hr with hr | hr
    · exact h.jobs r hr
    · rw [List.mem_singleton.1 hr]; exact hj
  · obtain ⟨r, hr, hw⟩ := h.own i hi
    exact ⟨r, List.mem_append.2 (.inl hr), hw⟩
  · rcases List.mem_append.1 hr with hr | hr
    · exact h.full r hr hbr
    · rw [List.mem_singleton.1 hr, hb] at hbr; cases hbr
theorem Inv.take {rows : List Rw} {ws : List (Int × Int)} {bs : List Bool} (h : Inv rows ws bs) {I n : Nat} (hI : I < rows.length) (hb : rows[I].busy = false) (hn : bs[n]? = some false) (r' : Rw) (hk : keyOf r' = keyOf rows[I]) (hb' : r'.busy = true) (hj : r'.jobs = rows[I].jobs) : Inv (rows.set I r') (ws.set n (keyOf rows[I])) (bs.set n true) := by
  have hk1 : r'.t = rows[I].t := congrArg Prod.fst hk
  have hk2 : r'.s = rows[I].s := congrArg Prod.snd hk
  have hnb : n < bs.length := (List.getElem?_eq_some_iff.1 hn).1
  have hnw : n < ws.length := by rw [h.len]; exact hnb
  have hne : ∀ r ∈ rows, r.busy = true → keyOf r ≠ keyOf rows[I] := fun r hr hbr e => by
    have := key_uniq h.keys hr (List.getElem_mem hI) e
    rw [this, hb] at hbr; cases hbr
  refine ⟨by rw [keys_set rows I hI r' hk1 hk2]; exact h.keys, fun r hr => ?_, by simp [h.len], fun i hi => ?_, fun i j hi hj hij => ?_, fun r hr hbr => ?_⟩
  · rcases (mem_setR h.keys hI r' r).1 hr with rfl | ⟨hr, _⟩
    · rw [hj]; exact h.jobs _ (List.getElem_mem hI)
    · exact h.jobs r hr
  · by_cases he : i = n
    · subst he
      exact ⟨r', (mem_setR h.keys hI r' r').2 (.inl rfl), by rw [List.getElem?_set_self hnw, hk], hb'⟩
    · rw [List.getElem?_set_ne (Ne.symm he)] at hi ⊢
      obtain ⟨r, hr, hw, hbr⟩ := h.own i hi
      exact ⟨r, (mem_setR h.keys hI r' r).2 (.inr ⟨hr, hne r hr hbr⟩), hw, hbr⟩
  · by_cases h1 : i = n
    · subst h1
      rw [List.getElem?_set_ne hij] at hj
      rw [List.getElem?_set_self hnw, List.getElem?_set_ne hij]
      obtain ⟨r, hr, hw, hbr⟩ := h.own j hj
      rw [hw]
      exact fun e => hne r hr hbr (Option.some.inj e).symm
    · rw [List.getElem?_set_ne (Ne.symm h1)] at hi ⊢
      by_cases h2 : j = n
      · subst h2
        rw [List.getElem?_set_self hnw]
        obtain ⟨r, hr, hw, hbr⟩ := h.own i hi
        rw [hw]
        exact fun e => hne r hr hbr (Option.some.inj e)
      · rw [List.getElem?_set_ne (Ne.symm h2)] at hj ⊢
        exact h.one i j hi hj hij
  · rcases (mem_setR h.keys hI r' r).1 hr with rfl | ⟨hr, hkr⟩
    · exact ⟨n, List.getElem?_set_self hnb, by rw [List.getElem?_set_self hnw, hk]⟩
    · obtain ⟨i, hi, hw⟩ := h.full r hr hbr
      have : i ≠ n := fun e => by rw [e, hn] at hi; cases hi
      exact ⟨i, by rw [List.getElem?_set_ne (Ne.symm this)]; exact hi, by rw [List.getElem?_set_ne (Ne.symm this)]; exact hw⟩
theorem Inv.fin {rows rows' : List Rw} {ws : List (Int × Int)} {bs : List Bool} (h : Inv rows ws bs) {n : Nat} {k : Int × Int} (hn : bs[n]? = some true) (hw : ws[n]? = some k) (hk : (rows'.map keyOf).Nodup)
    (h1 : ∀ r, r ∈ rows' → (r.busy = false ∧ r.jobs ≠ []) ∨ (r ∈ rows ∧ keyOf r ≠ k)) (h2 : ∀ r, r ∈ rows → keyOf r ≠ k → r ∈ rows') : Inv rows' ws (bs.set n false) := by
  refine ⟨hk, fun r hr => ?_, by simp [h.len], fun i hi => ?_, fun i j hi hj hij => ?_, fun r hr hbr => ?_⟩
  · rcases h1 r hr with h3 | h3
    · exact h3.2
    · exact h.jobs r h3.1
  · have hin : i ≠ n := fun e => by
      subst e
      rw [List.getElem?_set_self (List.getElem?_eq_some_iff.1 hn).1] at hi; cases hi
    rw [List.getElem?_set_ne (Ne.symm hin)] at hi
    obtain ⟨r, hr, hwr, hbr⟩ := h.own i hi
    exact ⟨r, h2 r hr fun e => h.one i n hi hn hin (by rw [hwr, hw, e]), hwr, hbr⟩
  · have key : ∀ i : Nat, (bs.set n false)[i]? = some true → bs[i]? = some true := fun i hi => by
      rw [List.getElem?_set] at hi
      split at hi
      · split at hi <;> cases hi
      · exact hi
    exact h.one i j (key i hi) (key j hj) hij
  · rcases h1 r hr with h3 | h3
    · rw [h3.1] at hbr; cases hbr
    · obtain ⟨i, hi, hwr⟩ := h.full r h3.1 hbr
      have hin : n ≠ i := fun e => by
        subst e
        rw [hw] at hwr
        exact h3.2 (Option.some.inj hwr).symm
      exact ⟨i, by rw [List.getElem?_set_ne hin]; exact hi, hwr⟩

/-- How many jobs rows have. -/
def allR (rows : List Rw) : Nat := (rows.map fun r => r.jobs.length).sum
theorem allN_of (RS : List (Rw × Value)) : allN RS = allR (rowsOf RS) := by unfold allN allR rowsOf; rw [List.map_map]; rfl
theorem len_le_all {rows : List Rw} (h : ∀ r ∈ rows, r.jobs ≠ []) : rows.length ≤ allR rows := by
  induction rows with
  | nil => simp
  | cons x r ih =>
    have h1 := ih fun r hr => h r (by simp [hr])
    have h2 : 0 < x.jobs.length := List.length_pos_iff.2 (h x (by simp))
    simp only [allR, List.map_cons, List.sum_cons, List.length_cons] at h1 ⊢
    omega
theorem sum_set (l : List Nat) (i : Nat) (h : i < l.length) (n : Nat) : (l.set i n).sum + l[i] = l.sum + n := by
  induction l generalizing i with
  | nil => simp at h
  | cons x r ih =>
    cases i with
    | zero => simp; omega
    | succ i =>
      have := ih i (by simpa using h)
      simp only [List.set_cons_succ, List.sum_cons, List.getElem_cons_succ]; omega
theorem sum_erase (l : List Nat) (i : Nat) (h : i < l.length) : (l.eraseIdx i).sum + l[i] = l.sum := by
  induction l generalizing i with
  | nil => simp at h
  | cons x r ih =>
    cases i with
    | zero => simp; omega
    | succ i =>
      have := ih i (by simpa using h)
      simp only [List.eraseIdx_cons_succ, List.sum_cons, List.getElem_cons_succ]; omega
theorem allR_set (rows : List Rw) (i : Nat) (h : i < rows.length) (r : Rw) : allR (rows.set i r) + rows[i].jobs.length = allR rows + r.jobs.length := by
  have := sum_set (rows.map fun r => r.jobs.length) i (by simpa using h) r.jobs.length
  rw [List.getElem_map] at this
  unfold allR
  rw [List.map_set]; exact this
theorem allR_erase (rows : List Rw) (i : Nat) (h : i < rows.length) : allR (rows.eraseIdx i) + rows[i].jobs.length = allR rows := by
  have := sum_erase (rows.map fun r => r.jobs.length) i (by simpa using h)
  rw [List.getElem_map] at this
  unfold allR
  rw [List.eraseIdx_eq_take_drop_succ] at this ⊢
  rw [List.map_append, List.map_take, List.map_drop]; exact this
theorem allR_put (rows : List Rw) (t s job : Int) : allR (putS rows t s job) = allR rows + 1 := by
  unfold putS
  split
  · rename_i h
    have := allR_set rows _ h ⟨t, s, rows[atS rows t s].jobs ++ [job], rows[atS rows t s].busy⟩
    simp only [List.length_append, List.length_singleton] at this
    omega
  · simp [allR]
theorem Inv.put {rows : List Rw} {ws : List (Int × Int)} {bs : List Bool} (h : Inv rows ws bs) (t s job : Int) : Inv (putS rows t s job) ws bs := by
  unfold putS
  split
  · rename_i hh
    exact h.upd hh _ (atS_hit hh).symm rfl (by simp)
  · rename_i hh
    exact h.push _ (atS_none hh) rfl (by simp)

/-- The rows that are ready. -/
def readyS (rows : List Rw) : List (Int × Int) := (rows.filter fun r => !r.busy).map keyOf
theorem readyK_of (RS : List (Rw × Value)) : readyK RS = readyS (rowsOf RS) := by
  unfold readyK readyS rowsOf
  rw [List.filter_map, List.map_map]; rfl
theorem readyS_len (rows : List Rw) : (readyS rows).length ≤ rows.length := by unfold readyS; rw [List.length_map]; exact List.length_filter_le _ _
inductive Out where
  | arg
  | busy
  | idle
  | ok
  deriving DecidableEq
/-- What comes of Begin. -/
noncomputable def beginO (rows : List Rw) (ws : List (Int × Int)) (bs : List Bool) (n : Int) : Out :=
  if n < 0 ∨ ws.length ≤ n then .arg else if busyB bs n = true then .busy else if readyS rows = [] then .idle else .ok
/-- The key of the row that is picked. -/
noncomputable def pickS (rows : List Rw) (p : Int) : Int × Int := (readyS rows).getD (pickK p (readyS rows).length) (0, 0)
noncomputable def beginJ (rows : List Rw) (ws : List (Int × Int)) (bs : List Bool) (n p : Int) : Int := if beginO rows ws bs n = .ok then headS rows (pickS rows p).1 (pickS rows p).2 else 0
noncomputable def beginR (rows : List Rw) (ws : List (Int × Int)) (bs : List Bool) (n p : Int) : List Rw := if beginO rows ws bs n = .ok then markS rows (pickS rows p).1 (pickS rows p).2 true else rows
noncomputable def beginW (rows : List Rw) (ws : List (Int × Int)) (bs : List Bool) (n p : Int) : List (Int × Int) := if beginO rows ws bs n = .ok then ws.set n.toNat (pickS rows p) else ws
noncomputable def beginB (rows : List Rw) (ws : List (Int × Int)) (bs : List Bool) (n : Int) : List Bool := if beginO rows ws bs n = .ok then bs.set n.toNat true else bs
/-- What comes of End. -/
def endO (ws : List (Int × Int)) (bs : List Bool) (n : Int) : Out := if n < 0 ∨ ws.length ≤ n then .arg else if busyB bs n = true then .ok else .idle
def endK (ws : List (Int × Int)) (bs : List Bool) (n : Int) : Int × Int := if endO ws bs n = .ok then ws.getD n.toNat (0, 0) else (0, 0)
def endJ (rows : List Rw) (ws : List (Int × Int)) (bs : List Bool) (n : Int) : Int := if endO ws bs n = .ok then headS rows (endK ws bs n).1 (endK ws bs n).2 else 0
def endR (rows : List Rw) (ws : List (Int × Int)) (bs : List Bool) (n : Int) : List Rw := if endO ws bs n = .ok then dropS (tailS rows (endK ws bs n).1 (endK ws bs n).2) (endK ws bs n).1 (endK ws bs n).2 else rows
def endB (ws : List (Int × Int)) (bs : List Bool) (n : Int) : List Bool := if endO ws bs n = .ok then bs.set n.toNat false else bs
theorem busyB_get {bs : List Bool} {n : Int} (h0 : 0 ≤ n) (h1 : n < bs.length) : bs[n.toNat]? = some (busyB bs n) := by
  unfold busyB
  rw [decide_eq_true ⟨h0, h1⟩, Bool.true_and, List.getD_eq_getElem?_getD, List.getElem?_eq_getElem (by omega)]; rfl
theorem beginO_ok {rows : List Rw} {ws : List (Int × Int)} {bs : List Bool} {n : Int} (h : beginO rows ws bs n = .ok) : 0 ≤ n ∧ n < ws.length ∧ busyB bs n = false ∧ readyS rows ≠ [] := by
  unfold beginO at h
  split at h
  · cases h
  · split at h
    · cases h
    · split at h
      · cases h
      · rename_i h1 h2 h3
        exact ⟨by omega, by omega, by simpa using h2, h3⟩
theorem endO_ok {ws : List (Int × Int)} {bs : List Bool} {n : Int} (h : endO ws bs n = .ok) : 0 ≤ n ∧ n < ws.length ∧ busyB bs n = true := by
  unfold endO at h
  split at h
  · cases h
  · split at h
    · rename_i h1 h2; exact ⟨by omega, by omega, h2⟩
    · cases h
/-- The row that is picked. -/
theorem pick_row {rows : List Rw} (hn : (rows.map keyOf).Nodup) (hl : rows.length ≤ 4398046511104) (h : readyS rows ≠ []) (p : Int) : ∃ (hI : atS rows (pickS rows p).1 (pickS rows p).2 < rows.length), rows[atS rows (pickS rows p).1 (pickS rows p).2].busy = false ∧ keyOf rows[atS rows (pickS rows p).1 (pickS rows p).2] = pickS rows p ∧
    pickK p (readyS rows).length < (readyS rows).length ∧ (readyS rows)[pickK p (readyS rows).length]? = some (pickS rows p) := by
  have hpos : 0 < (readyS rows).length := List.length_pos_iff.2 h
  have hlt := (pickK_lt p _ hpos (by have := readyS_len rows; omega)).1
  have hg : (readyS rows)[pickK p (readyS rows).length]? = some (pickS rows p) := by
    unfold pickS
    rw [List.getD_eq_getElem?_getD, List.getElem?_eq_getElem hlt]; rfl
  have hm : pickS rows p ∈ readyS rows := List.mem_of_getElem? hg
  obtain ⟨r, hr, e⟩ := List.mem_map.1 hm
  obtain ⟨hr1, hr2⟩ := List.mem_filter.1 hr
  have hI := atS_lt (t := (pickS rows p).1) (s := (pickS rows p).2) hr1 e
  have he := key_uniq hn (List.getElem_mem hI) hr1 ((atS_hit hI).trans e.symm)
  refine ⟨hI, ?_, atS_hit hI, hlt, hg⟩
  rw [he]
  simpa using hr2
theorem Inv.begin {rows : List Rw} {ws : List (Int × Int)} {bs : List Bool} (h : Inv rows ws bs) (hl : allR rows ≤ 4398046511104) (n p : Int) : Inv (beginR rows ws bs n p) (beginW rows ws bs n p) (beginB rows ws bs n) := by
  unfold beginR beginW beginB
  by_cases ho : beginO rows ws bs n = .ok
  · rw [if_pos ho, if_pos ho, if_pos ho]
    obtain ⟨h0, h1, h2, h3⟩ := beginO_ok ho
    obtain ⟨hI, hb, hk, _⟩ := pick_row h.keys (Nat.le_trans (len_le_all h.jobs) hl) h3 p
    unfold markS
    rw [dif_pos hI]
    have := h.take (n := n.toNat) hI hb (by rw [busyB_get h0 (by rw [← h.len]; exact h1), h2]) ⟨rows[atS rows (pickS rows p).1 (pickS rows p).2].t, rows[atS rows (pickS rows p).1 (pickS rows p).2].s, rows[atS rows (pickS rows p).1 (pickS rows p).2].jobs, true⟩ rfl rfl rfl
    rw [hk] at this
    exact this
  · rw [if_neg ho, if_neg ho, if_neg ho]; exact h
/-- What End makes of the rows. -/
theorem end_rows {rows : List Rw} {t s : Int} (hI : atS rows t s < rows.length) :
    dropS (tailS rows t s) t s = if rows[atS rows t s].jobs.tail = [] then rows.eraseIdx (atS rows t s) else rows.set (atS rows t s) ⟨rows[atS rows t s].t, rows[atS rows t s].s, rows[atS rows t s].jobs.tail, false⟩ := by
  have ht : tailS rows t s = rows.set (atS rows t s) ⟨rows[atS rows t s].t, rows[atS rows t s].s, rows[atS rows t s].jobs.tail, false⟩ := by unfold tailS; rw [dif_pos hI]
  have ha : atS (tailS rows t s) t s = atS rows t s := by rw [ht]; exact atS_keys t s (keys_set rows _ hI _ rfl rfl)
  generalize hX : (⟨rows[atS rows t s].t, rows[atS rows t s].s, rows[atS rows t s].jobs.tail, false⟩ : Rw) = X at ht ⊢
  have hXj : X.jobs = rows[atS rows t s].jobs.tail := by rw [← hX]
  have hl : (tailS rows t s).length = rows.length := by rw [ht, List.length_set]
  have hg : (tailS rows t s)[atS rows t s]'(by rw [hl]; exact hI) = X := by simp [ht]
  unfold dropS
  rw [dif_pos (by rw [ha, hl]; exact hI)]
  have e : ((tailS rows t s)[atS (tailS rows t s) t s]'(by rw [ha, hl]; exact hI)) = X := by simp only [ha]; exact hg
  rw [e, hXj, ha, ht]
  split
  · rw [List.eraseIdx_set_eq]
  · rfl
theorem own_row {rows : List Rw} {ws : List (Int × Int)} {bs : List Bool} (h : Inv rows ws bs) {n : Int} (ho : endO ws bs n = .ok) : ∃ (hI : atS rows (endK ws bs n).1 (endK ws bs n).2 < rows.length), keyOf rows[atS rows (endK ws bs n).1 (endK ws bs n).2] = endK ws bs n ∧ bs[n.toNat]? = some true ∧ ws[n.toNat]? = some (endK ws bs n) ∧ rows[atS rows (endK ws bs n).1 (endK ws bs n).2].busy = true := by
  obtain ⟨h0, h1, h2⟩ := endO_ok ho
  have hb : bs[n.toNat]? = some true := by rw [busyB_get h0 (by rw [← h.len]; exact h1), h2]
  have hw : ws[n.toNat]? = some (endK ws bs n) := by
    unfold endK
    rw [if_pos ho, List.getD_eq_getElem?_getD, List.getElem?_eq_getElem (by omega)]; rfl
  obtain ⟨r, hr, hwr, hbr⟩ := h.own _ hb
  have e : keyOf r = endK ws bs n := by rw [hw] at hwr; exact (Option.some.inj hwr).symm
  have hI := atS_lt (t := (endK ws bs n).1) (s := (endK ws bs n).2) hr e
  exact ⟨hI, atS_hit hI, hb, hw, by rw [key_uniq h.keys (List.getElem_mem hI) hr ((atS_hit hI).trans e.symm)]; exact hbr⟩
theorem Inv.ends {rows : List Rw} {ws : List (Int × Int)} {bs : List Bool} (h : Inv rows ws bs) (n : Int) : Inv (endR rows ws bs n) ws (endB ws bs n) := by
  unfold endR endB
  by_cases ho : endO ws bs n = .ok
  · rw [if_pos ho, if_pos ho]
    obtain ⟨hI, hk, hb, hw, _⟩ := own_row h ho
    rw [end_rows hI]
    split
    · refine h.fin hb hw (h.keys.sublist ((List.eraseIdx_sublist _ _).map _)) (fun r hr => .inr ?_) fun r hr hkr => ?_
      · have := (mem_eraseR h.keys hI r).1 hr; rw [hk] at this; exact this
      · exact (mem_eraseR h.keys hI r).2 ⟨hr, by rw [hk]; exact hkr⟩
    · rename_i hj
      refine h.fin hb hw ((keys_set rows _ hI ⟨rows[atS rows (endK ws bs n).1 (endK ws bs n).2].t, rows[atS rows (endK ws bs n).1 (endK ws bs n).2].s, rows[atS rows (endK ws bs n).1 (endK ws bs n).2].jobs.tail, false⟩ rfl rfl).symm ▸ h.keys) (fun r hr => ?_) fun r hr hkr => ?_
      · rcases (mem_setR h.keys hI _ r).1 hr with rfl | h3
        · exact .inl ⟨rfl, hj⟩
        · rw [hk] at h3; exact .inr h3
      · exact (mem_setR h.keys hI _ r).2 (.inr ⟨hr, by rw [hk]; exact hkr⟩)
  · rw [if_neg ho, if_neg ho]; exact h
theorem allR_begin (rows : List Rw) (ws : List (Int × Int)) (bs : List Bool) (n p : Int) : allR (beginR rows ws bs n p) = allR rows := by
  unfold beginR
  split
  · unfold markS
    split
    · rename_i hI
      have := allR_set rows _ hI ⟨rows[atS rows (pickS rows p).1 (pickS rows p).2].t, rows[atS rows (pickS rows p).1 (pickS rows p).2].s, rows[atS rows (pickS rows p).1 (pickS rows p).2].jobs, true⟩
      simp only at this
      omega
    · rfl
  · rfl
theorem allR_end {rows : List Rw} {ws : List (Int × Int)} {bs : List Bool} (h : Inv rows ws bs) (n : Int) : allR (endR rows ws bs n) + (if endO ws bs n = .ok then 1 else 0) = allR rows := by
  unfold endR
  by_cases ho : endO ws bs n = .ok
  · rw [if_pos ho, if_pos ho]
    obtain ⟨hI, hk, _⟩ := own_row h ho
    have hj : 0 < (rows[atS rows (endK ws bs n).1 (endK ws bs n).2].jobs).length := List.length_pos_iff.2 (h.jobs _ (List.getElem_mem hI))
    rw [end_rows hI]
    split
    · rename_i ht
      have h1 := allR_erase rows _ hI
      have h2 := congrArg List.length ht
      rw [List.length_tail] at h2
      simp only [List.length_nil] at h2
      omega
    · have h1 := allR_set rows _ hI ⟨rows[atS rows (endK ws bs n).1 (endK ws bs n).2].t, rows[atS rows (endK ws bs n).1 (endK ws bs n).2].s, rows[atS rows (endK ws bs n).1 (endK ws bs n).2].jobs.tail, false⟩
      simp only [List.length_tail] at h1
      omega
  · rw [if_neg ho, if_neg ho]; rfl
theorem len_begin {rows : List Rw} {ws : List (Int × Int)} {bs : List Bool} (n p : Int) : (beginW rows ws bs n p).length = ws.length := by unfold beginW; split <;> simp
end Go.Proofs.YtkbopcgijaejjaaDoor
