/-
  What the laws of a store stand on, part P: contracts and plain laws of PStore, PCoup, PAct; the conditions are each law's own.
-/
import Derived.Test.YtaehklhbokocbaaGreatDoorXA
set_option linter.unusedVariables false
set_option linter.unusedSimpArgs false
namespace Go.Proofs.YtaehklhbokocbaaGreatDoor
structure AR where
  id : Int
  kind : Int
  rhs : Rat
  coef : List Rat
structure AC where
  id : Int
  cost : Rat
structure AS where
  rows : List AR
  cols : List AC
  lr : Int
  lc : Int
def AS.rids (s : AS) : List Int := s.rows.map (·.id)
def AS.cids (s : AS) : List Int := s.cols.map (·.id)
abbrev Fl := Int × ByteArray × Int
def noWh : ByteArray := ⟨#[]⟩
def whRow : ByteArray := ⟨#[114, 111, 119]⟩
def whCol : ByteArray := ⟨#[99, 111, 108, 117, 109, 110]⟩
def noF : Fl := (0, noWh, 0)
def atI (l : List Int) (t : Int) : Nat := l.findIdx fun p => decide (p = t)
def atV (l : List Int) (t : Int) : Int := if atI l t < l.length then (atI l t : Int) else -1
def layQ (f : Int → Int) (none : Int) : List AC → List Rat → List Bool → Except (Int × Int) (List Rat)
  | [], vs, _ => .ok vs
  | e :: r, vs, seen => if f e.id < 0 then .error (none, e.id) else if seen.getD (f e.id).toNat false then .error (1, e.id) else layQ f none r (vs.set (f e.id).toNat e.cost) (seen.set (f e.id).toNat true)
def addQ : List AR → List Rat → List AR
  | r :: l, v :: vs => { r with coef := r.coef ++ [v] } :: addQ l vs
  | l, _ => l
def upd {α : Type} (f : α → α) : List α → Nat → List α
  | [], _ => []
  | x :: r, 0 => f x :: r
  | x :: r, k + 1 => x :: upd f r k
def AS.lay (l : List Int) (en : Int) (es : List AC) : Except (Int × Int) (List Rat) := layQ (atV l) en es (List.replicate l.length 0) (List.replicate l.length false)
def AS.addRow (s : AS) (kd : Int) (v : Rat) (es : List AC) : (Int × Fl) × AS :=
  if kd < 1 ∨ 3 < kd then ((0, (160, noWh, 0)), s)
  else if 20 ≤ s.rows.length then ((0, (2, noWh, 0)), s)
  else match AS.lay s.cids 231 es with
    | .error (n, i) => ((0, (n, whCol, i)), s)
    | .ok vs => ((s.lr + 1, noF), { s with rows := s.rows ++ [⟨s.lr + 1, kd, v, vs⟩], lr := s.lr + 1 })
def AS.addCol (s : AS) (v : Rat) (es : List AC) : (Int × Fl) × AS :=
  if 24 ≤ s.cols.length then ((0, (2, noWh, 0)), s)
  else match AS.lay s.rids 230 es with
    | .error (n, i) => ((0, (n, whRow, i)), s)
    | .ok vs => ((s.lc + 1, noF), { s with rows := addQ s.rows vs, cols := s.cols ++ [⟨s.lc + 1, v⟩], lc := s.lc + 1 })
def AS.dropRow (s : AS) (id : Int) : Fl × AS :=
  if atI s.rids id < s.rows.length then (noF, { s with rows := s.rows.eraseIdx (atI s.rids id) }) else ((230, whRow, id), s)
def AS.dropCol (s : AS) (id : Int) : Fl × AS :=
  if atI s.cids id < s.cols.length then (noF, { s with rows := s.rows.map (fun r => { r with coef := r.coef.eraseIdx (atI s.cids id) }), cols := s.cols.eraseIdx (atI s.cids id) }) else ((231, whCol, id), s)
def AS.setCoef (s : AS) (id jd : Int) (v : Rat) : Fl × AS :=
  if atI s.rids id < s.rows.length then
    if atI s.cids jd < s.cols.length then (noF, { s with rows := upd (fun r => { r with coef := r.coef.set (atI s.cids jd) v }) s.rows (atI s.rids id) }) else ((231, whCol, jd), s)
  else ((230, whRow, id), s)
def AS.setRhs (s : AS) (id : Int) (v : Rat) : Fl × AS :=
  if atI s.rids id < s.rows.length then (noF, { s with rows := upd (fun r => { r with rhs := v }) s.rows (atI s.rids id) }) else ((230, whRow, id), s)
def AS.setKind (s : AS) (id kd : Int) : Fl × AS :=
  if atI s.rids id < s.rows.length then
    if kd < 1 ∨ 3 < kd then ((160, noWh, 0), s) else (noF, { s with rows := upd (fun r => { r with kind := kd }) s.rows (atI s.rids id) })
  else ((230, whRow, id), s)
def AS.setCost (s : AS) (id : Int) (v : Rat) : Fl × AS :=
  if atI s.cids id < s.cols.length then (noF, { s with cols := upd (fun c => { c with cost := v }) s.cols (atI s.cids id) }) else ((231, whCol, id), s)
structure RC where
  row : Int
  col : Int
  v : Int × Int
structure RM where
  rows : List Int
  cols : List Int
  kinds : List Int
  rhs : List (Int × Int)
  costs : List (Int × Int)
  cells : List RC
  lr : Int
  lc : Int
def RM.new : RM := ⟨[], [], [], [], [], [], 0, 0⟩
def entR (l : List Int) (en : Int) : List Int → List Int → Option (Int × Int)
  | _, [] => none
  | pre, i :: r => if atV l i < 0 then some (en, i) else if 0 ≤ atV pre i then some (1, i) else entR l en (pre ++ [i]) r
def entF (l : List Int) (en : Int) (wh : ByteArray) (ids : List Int) : Fl :=
  match entR l en [] ids with
  | some (n, i) => (n, wh, i)
  | none => noF
def RM.addRow (m : RM) (kd : Int) (v : Int × Int) (es : List (Int × Int × Int)) : (Int × Fl) × RM :=
  if kd < 1 ∨ 3 < kd then ((0, (160, noWh, 0)), m)
  else if 20 ≤ m.rows.length then ((0, (2, noWh, 0)), m)
  else match entR m.cols 231 [] (es.map (·.1)) with
    | some (n, i) => ((0, (n, whCol, i)), m)
    | none => ((m.lr + 1, noF), { m with rows := m.rows ++ [m.lr + 1], kinds := m.kinds ++ [kd], rhs := m.rhs ++ [v], cells := m.cells ++ es.map (fun e => ⟨m.lr + 1, e.1, e.2⟩), lr := m.lr + 1 })
def RM.addCol (m : RM) (v : Int × Int) (es : List (Int × Int × Int)) : (Int × Fl) × RM :=
  if 24 ≤ m.cols.length then ((0, (2, noWh, 0)), m)
  else match entR m.rows 230 [] (es.map (·.1)) with
    | some (n, i) => ((0, (n, whRow, i)), m)
    | none => ((m.lc + 1, noF), { m with cols := m.cols ++ [m.lc + 1], costs := m.costs ++ [v], cells := m.cells ++ es.map (fun e => ⟨e.1, m.lc + 1, e.2⟩), lc := m.lc + 1 })
def keepC (row col : Int) (l : List RC) : List RC := l.filter fun x => decide (x.row ≠ row) && decide (x.col ≠ col)
def RM.dropRow (m : RM) (id : Int) : Fl × RM :=
  if atI m.rows id < m.rows.length then (noF, { m with rows := m.rows.eraseIdx (atI m.rows id), rhs := m.rhs.eraseIdx (atI m.rows id), kinds := m.kinds.eraseIdx (atI m.rows id), cells := keepC id 0 m.cells }) else ((230, whRow, id), m)
def RM.dropCol (m : RM) (id : Int) : Fl × RM :=
  if atI m.cols id < m.cols.length then (noF, { m with cols := m.cols.eraseIdx (atI m.cols id), costs := m.costs.eraseIdx (atI m.cols id), cells := keepC 0 id m.cells }) else ((231, whCol, id), m)
def otherC (row col : Int) (l : List RC) : List RC := l.filter fun x => decide (x.row ≠ row) || decide (x.col ≠ col)
def RM.setCoef (m : RM) (id jd : Int) (v : Int × Int) : Fl × RM :=
  if atI m.rows id < m.rows.length then
    if atI m.cols jd < m.cols.length then (noF, { m with cells := otherC id jd m.cells ++ [⟨id, jd, v⟩] }) else ((231, whCol, jd), m)
  else ((230, whRow, id), m)
def RM.setRhs (m : RM) (id : Int) (v : Int × Int) : Fl × RM :=
  if atI m.rows id < m.rows.length then (noF, { m with rhs := m.rhs.set (atI m.rows id) v }) else ((230, whRow, id), m)
def RM.setKind (m : RM) (id kd : Int) : Fl × RM :=
  if atI m.rows id < m.rows.length then
    if kd < 1 ∨ 3 < kd then ((160, noWh, 0), m) else (noF, { m with kinds := m.kinds.set (atI m.rows id) kd })
  else ((230, whRow, id), m)
def RM.setCost (m : RM) (id : Int) (v : Int × Int) : Fl × RM :=
  if atI m.cols id < m.cols.length then (noF, { m with costs := m.costs.set (atI m.cols id) v }) else ((231, whCol, id), m)
def findC (row col : Int) (l : List RC) : Int × Int :=
  match l.find? (fun x => decide (x.row = row) && decide (x.col = col)) with
  | some x => x.v
  | none => (0, 1)
def fracQ (v : Int × Int) : Rat := if v.2 = 0 then (v.1 : Rat) else Rat.divInt v.1 v.2
def eQ (e : Int × Int × Int) : AC := ⟨e.1, fracQ e.2⟩
theorem atI_hit {l : List Int} {t : Int} (h : atI l t < l.length) : l[atI l t]'h = t := of_decide_eq_true (List.findIdx_getElem (w := h))
theorem atI_none {l : List Int} {t : Int} (h : ¬ atI l t < l.length) : t ∉ l := fun hm => h (List.findIdx_lt_length_of_exists ⟨t, hm, by simp⟩)
theorem atI_mem {l : List Int} {t : Int} : atI l t < l.length ↔ t ∈ l :=
  ⟨fun h => by rw [← atI_hit h]; exact List.getElem_mem h, fun h => Classical.byContradiction fun hn => atI_none hn h⟩
theorem atI_idx {l : List Int} (hn : l.Nodup) {k : Nat} (hk : k < l.length) : atI l l[k] = k := by
  have h : atI l l[k] < l.length := atI_mem.2 (List.getElem_mem hk)
  exact (List.getElem_inj hn).1 (atI_hit h)
theorem atV_neg {l : List Int} {t : Int} : atV l t < 0 ↔ t ∉ l := by
  unfold atV
  split
  · rename_i h; exact ⟨fun h2 => by omega, fun h2 => absurd (atI_mem.1 h) h2⟩
  · rename_i h; exact ⟨fun _ => atI_none h, fun _ => by omega⟩
theorem atV_pos {l : List Int} {t : Int} : 0 ≤ atV l t ↔ t ∈ l := by
  rw [← Int.not_lt, atV_neg]; exact Classical.not_not
theorem atV_nat {l : List Int} {t : Int} (h : t ∈ l) : (atV l t).toNat = atI l t := by
  unfold atV; rw [if_pos (atI_mem.2 h)]; rfl
def look (es : List AC) (i : Int) : Rat :=
  match es.find? (fun e => decide (e.id = i)) with
  | some e => e.cost
  | none => 0
theorem look_push (es : List AC) (e : AC) (i : Int) (h : e.id ∉ es.map (·.id)) : look (es ++ [e]) i = if e.id = i then e.cost else look es i := by
  unfold look
  rw [List.find?_append]
  by_cases hi : e.id = i
  · rw [if_pos hi]
    have hn : es.find? (fun e => decide (e.id = i)) = none := List.find?_eq_none.2 fun x hx => by
      intro h2
      exact h (List.mem_map.2 ⟨x, hx, by rw [of_decide_eq_true h2, hi]⟩)
    rw [hn, List.find?_cons, decide_eq_true hi]; rfl
  · rw [if_neg hi, List.find?_cons, decide_eq_false hi]
    simp
theorem lay_ent (l : List Int) (hn : l.Nodup) (en : Int) : ∀ (es pre : List AC) (vs : List Rat) (seen : List Bool), vs = l.map (look pre) → seen = l.map (fun i => decide (i ∈ pre.map (·.id))) →
    layQ (atV l) en es vs seen = match entR l en (pre.map (·.id)) (es.map (·.id)) with | some e => .error e | none => .ok (l.map (look (pre ++ es)))
  | [], pre, vs, seen, hv, hs => by simp [layQ, entR, hv]
  | e :: es, pre, vs, seen, hv, hs => by
    unfold layQ
    simp only [List.map_cons, entR]
    by_cases hm : e.id ∈ l
    · have hlt := atI_mem.2 hm
      have hng : ¬ atV l e.id < 0 := by rw [atV_neg]; exact fun h => h hm
      rw [if_neg hng, if_neg hng, atV_nat hm]
      have hsd : seen.getD (atI l e.id) false = decide (e.id ∈ pre.map (·.id)) := by
        rw [hs, List.getD_eq_getElem?_getD, List.getElem?_map, List.getElem?_eq_getElem hlt, atI_hit hlt]; rfl
      rw [hsd]
      by_cases hp : e.id ∈ pre.map (·.id)
      · rw [if_pos (by simpa using hp), if_pos (atV_pos.2 hp)]
      · rw [if_neg (by simpa using hp), if_neg (fun h => hp (atV_pos.1 h))]
        have hset : ∀ {α : Type} (f g : Int → α) (x : α), x = g e.id → (∀ i, i ≠ e.id → g i = f i) → (l.map f).set (atI l e.id) x = l.map g := fun f g x hx hg => by
          apply List.ext_getElem (by simp)
          intro k h1 h2
          have hk : k < l.length := by simpa using h2
          rw [List.getElem_set, List.getElem_map, List.getElem_map]
          split
          · rename_i h; subst h; rw [atI_hit hlt, hx]
          · rename_i h
            refine (hg _ fun e2 => h ?_).symm
            rw [← e2, atI_idx hn]
        have h1 := lay_ent l hn en es (pre ++ [e]) (vs.set (atI l e.id) e.cost) (seen.set (atI l e.id) true)
          (by rw [hv]; exact hset _ _ _ (by rw [look_push _ _ _ hp, if_pos rfl]) (fun i hi => by rw [look_push _ _ _ hp, if_neg fun h => hi h.symm]))
          (by rw [hs]; exact hset _ _ _ (by simp) (fun i hi => by simp [hi]))
        rw [h1, List.map_append, List.append_assoc]; rfl
    · rw [if_pos (atV_neg.2 hm), if_pos (atV_neg.2 hm)]
theorem upd_map {α β : Type} (f : α → α) (g : α → β) (h : ∀ x, g (f x) = g x) : ∀ (l : List α) (k : Nat), (upd f l k).map g = l.map g
  | [], _ => rfl
  | x :: r, 0 => by simp [upd, h]
  | x :: r, k + 1 => by simp [upd, upd_map f g h r k]
theorem upd_mapSet {α β : Type} (f : α → α) (g : α → β) (v : β) (h : ∀ x, g (f x) = v) : ∀ (l : List α) (k : Nat), (upd f l k).map g = (l.map g).set k v
  | [], _ => rfl
  | x :: r, 0 => by simp [upd, h]
  | x :: r, k + 1 => by simp [upd, upd_mapSet f g v h r k]
theorem upd_len {α : Type} (f : α → α) (l : List α) (k : Nat) : (upd f l k).length = l.length := by
  have := congrArg List.length (upd_map f (fun _ => ()) (fun _ => rfl) l k)
  simpa using this
theorem upd_set {α : Type} (f : α → α) : ∀ (l : List α) (k : Nat) (y : α), l[k]? = some y → upd f l k = l.set k (f y)
  | [], _, _, h => by simp at h
  | x :: r, 0, y, h => by simp at h; subst h; rfl
  | x :: r, k + 1, y, h => by simp only [upd, List.set_cons_succ]; rw [upd_set f r k y (by simpa using h)]
theorem upd_mem {α : Type} (f : α → α) : ∀ (l : List α) (k : Nat) (x : α), x ∈ upd f l k → (∃ j, j ≠ k ∧ l[j]? = some x) ∨ ∃ y, l[k]? = some y ∧ x = f y
  | [], _, x, h => by cases h
  | y :: r, 0, x, h => by
    simp only [upd, List.mem_cons] at h
    rcases h with rfl | h
    · exact .inr ⟨y, rfl, rfl⟩
    · obtain ⟨j, hj, rfl⟩ := List.mem_iff_getElem.1 h
      exact .inl ⟨j + 1, by omega, by simp⟩
  | y :: r, k + 1, x, h => by
    simp only [upd, List.mem_cons] at h
    rcases h with rfl | h
    · exact .inl ⟨0, by omega, rfl⟩
    · rcases upd_mem f r k x h with ⟨j, h1, h2⟩ | ⟨z, h1, h2⟩
      · exact .inl ⟨j + 1, by omega, by simpa using h2⟩
      · exact .inr ⟨z, by simpa using h1, h2⟩
theorem erase_map {α β : Type} (g : α → β) (l : List α) (k : Nat) : (l.eraseIdx k).map g = (l.map g).eraseIdx k := by
  simp only [List.eraseIdx_eq_take_drop_succ, List.map_append, List.map_take, List.map_drop]
theorem lay_any (l : List Int) (hn : l.Nodup) (en : Int) (es : List AC) : AS.lay l en es = match entR l en [] (es.map (·.id)) with | some e => .error e | none => .ok (l.map (look es)) := by
  unfold AS.lay
  have hr : ∀ {α : Type} (f : Int → α) (x : α), (∀ i, f i = x) → List.replicate l.length x = l.map f := fun f x hx => by
    refine (List.eq_replicate_iff.2 ⟨by simp, fun b hb => ?_⟩).symm
    obtain ⟨i, _, rfl⟩ := List.mem_map.1 hb
    exact hx i
  have h := lay_ent l hn en es [] (List.replicate l.length 0) (List.replicate l.length false) (hr _ _ fun i => rfl) (hr _ _ fun i => by simp)
  simpa using h
end Go.Proofs.YtaehklhbokocbaaGreatDoor
namespace Go.Proofs.YtaehklhbokocbaaGreatDoor
structure WF (s : AS) : Prop where
  rid : s.rids.Pairwise (· < ·)
  rpos : ∀ i, i ∈ s.rids → 1 ≤ i ∧ i ≤ s.lr
  cid : s.cids.Pairwise (· < ·)
  cpos : ∀ i, i ∈ s.cids → 1 ≤ i ∧ i ≤ s.lc
  rl : s.rows.length ≤ 20
  cl : s.cols.length ≤ 24
  kd : ∀ r, r ∈ s.rows → 1 ≤ r.kind ∧ r.kind ≤ 3
  len : ∀ r, r ∈ s.rows → r.coef.length = s.cols.length
  lr0 : 0 ≤ s.lr
  lc0 : 0 ≤ s.lc
structure Coup (s : AS) (m : RM) : Prop where
  rows : m.rows = s.rids
  cols : m.cols = s.cids
  kinds : m.kinds = s.rows.map (·.kind)
  rhs : m.rhs.map fracQ = s.rows.map (·.rhs)
  costs : m.costs.map fracQ = s.cols.map (·.cost)
  coef : ∀ r, r ∈ s.rows → r.coef = s.cols.map (fun c => fracQ (findC r.id c.id m.cells))
  lr : m.lr = s.lr
  lc : m.lc = s.lc
  cells : ∀ x, x ∈ m.cells → x.row ≤ s.lr ∧ x.col ≤ s.lc
theorem nodup_lt {l : List Int} (h : l.Pairwise (· < ·)) : l.Nodup := h.imp fun hab e => by omega
theorem WF.new : WF ⟨[], [], 0, 0⟩ :=
  ⟨List.Pairwise.nil, fun _ h => (by cases h), List.Pairwise.nil, fun _ h => (by cases h), Nat.zero_le _, Nat.zero_le _, fun _ h => (by cases h), fun _ h => (by cases h), Int.le_refl _, Int.le_refl _⟩
theorem Coup.new : Coup ⟨[], [], 0, 0⟩ RM.new :=
  ⟨rfl, rfl, rfl, rfl, rfl, fun _ h => (by cases h), rfl, rfl, fun _ h => (by cases h)⟩
section
variable {s : AS} {m : RM}
theorem Coup.rlen (h : Coup s m) : m.rows.length = s.rows.length := by rw [h.rows, AS.rids, List.length_map]
theorem Coup.clen (h : Coup s m) : m.cols.length = s.cols.length := by rw [h.cols, AS.cids, List.length_map]
theorem addQ_map (g : AR → Rat) : ∀ rows : List AR, addQ rows (rows.map g) = rows.map fun r => { r with coef := r.coef ++ [g r] }
  | [] => rfl
  | r :: l => by simp only [List.map_cons, addQ, addQ_map g l]
theorem addQ_ids : ∀ (rows : List AR) (vs : List Rat), (addQ rows vs).map (·.id) = rows.map (·.id)
  | [], _ => by simp [addQ]
  | r :: l, [] => by simp [addQ]
  | r :: l, v :: vs => by simp [addQ, addQ_ids l vs]
theorem layQ_len {f : Int → Int} {en : Int} : ∀ (es : List AC) (vs : List Rat) (seen : List Bool) (r : List Rat), layQ f en es vs seen = .ok r → r.length = vs.length
  | [], vs, seen, r, h => by unfold layQ at h; cases h; rfl
  | e :: es, vs, seen, r, h => by
    unfold layQ at h
    split at h
    · cases h
    · split at h
      · cases h
      · have := layQ_len es _ _ r h
        simpa using this
theorem lay_len {l : List Int} {en : Int} {es : List AC} {r : List Rat} (h : AS.lay l en es = .ok r) : r.length = l.length := by
  have := layQ_len _ _ _ _ h
  simpa using this
theorem findC_skipR (r c : Int) (l1 l2 : List RC) (h : ∀ x, x ∈ l2 → x.row = r → x.col ≠ c) : findC r c (l1 ++ l2) = findC r c l1 := by
  unfold findC
  rw [List.find?_append]
  have hn : l2.find? (fun x => decide (x.row = r) && decide (x.col = c)) = none := List.find?_eq_none.2 fun x hx h2 => by
    simp only [Bool.and_eq_true, decide_eq_true_eq] at h2
    exact h x hx h2.1 h2.2
  rw [hn, Option.or_none]
theorem findC_skipL (r c : Int) (l1 l2 : List RC) (h : ∀ x, x ∈ l1 → x.row = r → x.col ≠ c) : findC r c (l1 ++ l2) = findC r c l2 := by
  unfold findC
  rw [List.find?_append]
  have hn : l1.find? (fun x => decide (x.row = r) && decide (x.col = c)) = none := List.find?_eq_none.2 fun x hx h2 => by
    simp only [Bool.and_eq_true, decide_eq_true_eq] at h2
    exact h x hx h2.1 h2.2
  rw [hn, Option.none_or]
theorem findC_filter (r c : Int) (p : RC → Bool) (h : ∀ x : RC, x.row = r → x.col = c → p x = true) : ∀ l : List RC, findC r c (l.filter p) = findC r c l
  | [] => rfl
  | x :: l => by
    have ih := findC_filter r c p h l
    unfold findC at ih ⊢
    by_cases hm : (decide (x.row = r) && decide (x.col = c)) = true
    · have hm2 := hm
      simp only [Bool.and_eq_true, decide_eq_true_eq] at hm2
      rw [List.filter_cons_of_pos (h x hm2.1 hm2.2), List.find?_cons, List.find?_cons, hm]
    · have hm3 := Bool.eq_false_iff.2 hm
      rw [@List.find?_cons _ x l, hm3]
      by_cases hp : p x = true
      · rw [List.filter_cons_of_pos hp, List.find?_cons, hm3]; exact ih
      · rw [List.filter_cons_of_neg hp]; exact ih
theorem findC_rowEs (r c : Int) : ∀ es : List (Int × Int × Int), fracQ (findC r c (es.map fun e => ⟨r, e.1, e.2⟩)) = look (es.map eQ) c
  | [] => by show fracQ (0, 1) = 0; unfold fracQ; simp
  | e :: es => by
    have ih := findC_rowEs r c es
    unfold findC look at ih ⊢
    simp only [List.map_cons, List.find?_cons, eQ, decide_true, Bool.true_and]
    cases decide (e.1 = c)
    · exact ih
    · rfl
theorem findC_colEs (r c : Int) : ∀ es : List (Int × Int × Int), fracQ (findC r c (es.map fun e => ⟨e.1, c, e.2⟩)) = look (es.map eQ) r
  | [] => by show fracQ (0, 1) = 0; unfold fracQ; simp
  | e :: es => by
    have ih := findC_colEs r c es
    unfold findC look at ih ⊢
    simp only [List.map_cons, List.find?_cons, eQ, decide_true, Bool.and_true]
    cases decide (e.1 = r)
    · exact ih
    · rfl
theorem findC_put (r c : Int) (v : Int × Int) (l : List RC) (h : ∀ x, x ∈ l → x.row = r → x.col ≠ c) : findC r c (l ++ [⟨r, c, v⟩]) = v := by
  rw [findC_skipL r c l _ h]; simp [findC]
theorem entR_mem {l : List Int} {en : Int} : ∀ (pre ids : List Int), entR l en pre ids = none → ∀ i, i ∈ ids → i ∈ l
  | _, [], _, i, hi => by cases hi
  | pre, j :: r, h, i, hi => by
    unfold entR at h
    split at h
    · cases h
    · rename_i h1
      split at h
      · cases h
      · rcases List.mem_cons.1 hi with rfl | hi
        · exact Classical.byContradiction fun hn => h1 (atV_neg.2 hn)
        · exact entR_mem _ r h i hi
theorem eQ_ids (es : List (Int × Int × Int)) : (es.map eQ).map (·.id) = es.map (·.1) := by rw [List.map_map]; rfl
theorem pair_push {l : List Int} {n : Int} (h : l.Pairwise (· < ·)) (hb : ∀ i, i ∈ l → 1 ≤ i ∧ i ≤ n) : (l ++ [n + 1]).Pairwise (· < ·) :=
  List.pairwise_append.2 ⟨h, List.pairwise_singleton _ _, fun a ha b hb2 => by rw [List.mem_singleton.1 hb2]; have := (hb a ha).2; omega⟩
theorem pos_push {l : List Int} {n : Int} (h0 : 0 ≤ n) (hb : ∀ i, i ∈ l → 1 ≤ i ∧ i ≤ n) : ∀ i, i ∈ l ++ [n + 1] → 1 ≤ i ∧ i ≤ n + 1 := fun i hi => by
  rcases List.mem_append.1 hi with hi | hi
  · have := hb i hi; omega
  · rw [List.mem_singleton.1 hi]; omega
theorem pair_erase {l : List Int} (h : l.Pairwise (· < ·)) (k : Nat) : (l.eraseIdx k).Pairwise (· < ·) := h.sublist (List.eraseIdx_sublist _ _)
theorem len_erase {α : Type} (l : List α) (k : Nat) : (l.eraseIdx k).length ≤ l.length := (List.eraseIdx_sublist _ _).length_le
theorem id_gone {α : Type} {l : List α} {g : α → Int} (hn : (l.map g).Nodup) {t : Int} {x : α} (h : x ∈ l.eraseIdx (atI (l.map g) t)) (hl : atI (l.map g) t < (l.map g).length) : g x ≠ t := fun e => by
  obtain ⟨j, hj, hne, rfl⟩ := List.mem_eraseIdx_iff_getElem.1 h
  refine hne ?_
  have := atI_idx hn (k := j) (by simpa using hj)
  rw [List.getElem_map, e] at this
  exact this.symm
theorem id_there {α : Type} {l : List α} {g : α → Int} {t : Int} {y : α} (h : l[atI (l.map g) t]? = some y) : g y = t := by
  obtain ⟨h1, rfl⟩ := List.getElem?_eq_some_iff.1 h
  have := atI_hit (l := l.map g) (t := t) (by simpa using h1)
  rwa [List.getElem_map] at this
theorem id_else {α : Type} {l : List α} {g : α → Int} (hn : (l.map g).Nodup) {t : Int} {j : Nat} {x : α} (hj : l[j]? = some x) (hne : j ≠ atI (l.map g) t) : g x ≠ t := fun e => by
  obtain ⟨h1, rfl⟩ := List.getElem?_eq_some_iff.1 hj
  have := atI_idx hn (k := j) (by simpa using h1)
  rw [List.getElem_map, e] at this
  exact hne this.symm
theorem WF.addRow (h : WF s) (kd : Int) (v : Rat) (es : List AC) : WF (s.addRow kd v es).2 := by
  unfold AS.addRow
  split
  · exact h
  · rename_i hk
    split
    · exact h
    · rename_i hl
      split
      · exact h
      · rename_i vs hv
        have hvl := lay_len hv
        refine ⟨?_, ?_, h.cid, h.cpos, by simp; omega, h.cl, fun r hr => ?_, fun r hr => ?_, by have := h.lr0; show 0 ≤ s.lr + 1; omega, h.lc0⟩
        · simpa [AS.rids] using pair_push h.rid h.rpos
        · simpa [AS.rids] using pos_push h.lr0 h.rpos
        · rcases List.mem_append.1 hr with hr | hr
          · exact h.kd r hr
          · rw [List.mem_singleton.1 hr]; show 1 ≤ kd ∧ kd ≤ 3; omega
        · rcases List.mem_append.1 hr with hr | hr
          · exact h.len r hr
          · rw [List.mem_singleton.1 hr]; show vs.length = s.cols.length; rw [hvl, AS.cids, List.length_map]
theorem addQ_mem : ∀ (rows : List AR) (vs : List Rat) (r : AR), rows.length = vs.length → r ∈ addQ rows vs → ∃ r2 v, r2 ∈ rows ∧ v ∈ vs ∧ r = { r2 with coef := r2.coef ++ [v] }
  | [], vs, r, _, h => by simp [addQ] at h
  | r2 :: l, [], r, hl, _ => by cases hl
  | r2 :: l, v :: vs, r, hl, h => by
    simp only [addQ, List.mem_cons] at h
    rcases h with rfl | h
    · exact ⟨r2, v, by simp, by simp, rfl⟩
    · obtain ⟨r3, v3, h1, h2, h3⟩ := addQ_mem l vs r (by simpa using hl) h
      exact ⟨r3, v3, by simp [h1], by simp [h2], h3⟩
theorem WF.addCol (h : WF s) (v : Rat) (es : List AC) : WF (s.addCol v es).2 := by
  unfold AS.addCol
  split
  · exact h
  · rename_i hl
    split
    · exact h
    · rename_i vs hv
      have hvl := lay_len hv
      rw [AS.rids, List.length_map] at hvl
      have hri : (addQ s.rows vs).map (·.id) = s.rids := addQ_ids _ _
      have hle := congrArg List.length hri
      simp only [AS.rids, List.length_map] at hle
      refine ⟨?_, ?_, ?_, ?_, ?_, by simp; omega, fun r hr => ?_, fun r hr => ?_, h.lr0, by have := h.lc0; show 0 ≤ s.lc + 1; omega⟩
      · show ((addQ s.rows vs).map (·.id)).Pairwise _
        rw [hri]; exact h.rid
      · show ∀ i, i ∈ (addQ s.rows vs).map (·.id) → _
        rw [hri]; exact h.rpos
      · simpa [AS.cids] using pair_push h.cid h.cpos
      · simpa [AS.cids] using pos_push h.lc0 h.cpos
      · show (addQ s.rows vs).length ≤ 20
        rw [hle]; exact h.rl
      · obtain ⟨r2, v2, h1, h2, rfl⟩ := addQ_mem _ _ r (by omega) hr
        exact h.kd r2 h1
      · obtain ⟨r2, v2, h1, h2, rfl⟩ := addQ_mem _ _ r (by omega) hr
        have := h.len r2 h1
        simp [this]
theorem WF.dropRow (h : WF s) (id : Int) : WF (s.dropRow id).2 := by
  unfold AS.dropRow
  split
  · refine ⟨?_, fun i hi => h.rpos i ?_, h.cid, h.cpos, Nat.le_trans (len_erase _ _) h.rl, h.cl, fun r hr => h.kd r (List.mem_of_mem_eraseIdx hr), fun r hr => h.len r (List.mem_of_mem_eraseIdx hr), h.lr0, h.lc0⟩
    · show ((s.rows.eraseIdx _).map (·.id)).Pairwise _
      rw [erase_map]; exact pair_erase h.rid _
    · have : i ∈ (s.rows.eraseIdx (atI s.rids id)).map (·.id) := hi
      rw [erase_map] at this
      exact List.mem_of_mem_eraseIdx this
  · exact h
theorem WF.dropCol (h : WF s) (id : Int) : WF (s.dropCol id).2 := by
  unfold AS.dropCol
  split
  · rename_i hlt
    have hri : (s.rows.map fun r => { r with coef := r.coef.eraseIdx (atI s.cids id) }).map (·.id) = s.rids := by rw [List.map_map]; rfl
    refine ⟨?_, ?_, ?_, fun i hi => h.cpos i ?_, by simp; exact h.rl, Nat.le_trans (len_erase _ _) h.cl, fun r hr => ?_, fun r hr => ?_, h.lr0, h.lc0⟩
    · show ((s.rows.map fun r => { r with coef := r.coef.eraseIdx (atI s.cids id) }).map (·.id)).Pairwise _
      rw [hri]; exact h.rid
    · show ∀ i, i ∈ (s.rows.map fun r => { r with coef := r.coef.eraseIdx (atI s.cids id) }).map (·.id) → _
      rw [hri]; exact h.rpos
    · show ((s.cols.eraseIdx _).map (·.id)).Pairwise _
      rw [erase_map]; exact pair_erase h.cid _
    · have : i ∈ (s.cols.eraseIdx (atI s.cids id)).map (·.id) := hi
      rw [erase_map] at this
      exact List.mem_of_mem_eraseIdx this
    · obtain ⟨r2, h1, rfl⟩ := List.mem_map.1 hr
      exact h.kd r2 h1
    · obtain ⟨r2, h1, rfl⟩ := List.mem_map.1 hr
      have := h.len r2 h1
      show (r2.coef.eraseIdx _).length = (s.cols.eraseIdx _).length
      rw [List.length_eraseIdx_of_lt (by omega), List.length_eraseIdx_of_lt hlt, this]
  · exact h
theorem WF.upd (h : WF s) (f : AR → AR) (k : Nat) (hi : ∀ r, (f r).id = r.id) (hk : ∀ r, r ∈ s.rows → 1 ≤ (f r).kind ∧ (f r).kind ≤ 3) (hl : ∀ r, (f r).coef.length = r.coef.length) : WF { s with rows := upd f s.rows k } := by
  have hri : (Go.Proofs.YtaehklhbokocbaaGreatDoor.upd f s.rows k).map (·.id) = s.rids := upd_map f _ hi _ _
  refine ⟨?_, ?_, h.cid, h.cpos, by show (Go.Proofs.YtaehklhbokocbaaGreatDoor.upd f s.rows k).length ≤ 20; rw [upd_len]; exact h.rl, h.cl, fun r hr => ?_, fun r hr => ?_, h.lr0, h.lc0⟩
  · show ((Go.Proofs.YtaehklhbokocbaaGreatDoor.upd f s.rows k).map (·.id)).Pairwise _
    rw [hri]; exact h.rid
  · show ∀ i, i ∈ (Go.Proofs.YtaehklhbokocbaaGreatDoor.upd f s.rows k).map (·.id) → _
    rw [hri]; exact h.rpos
  · rcases upd_mem f _ _ r hr with ⟨j, _, hj⟩ | ⟨y, hy, rfl⟩
    · exact h.kd r (List.mem_of_getElem? hj)
    · exact hk y (List.mem_of_getElem? hy)
  · rcases upd_mem f _ _ r hr with ⟨j, _, hj⟩ | ⟨y, hy, rfl⟩
    · exact h.len r (List.mem_of_getElem? hj)
    · rw [hl]; exact h.len y (List.mem_of_getElem? hy)
theorem WF.setCoef (h : WF s) (id jd : Int) (v : Rat) : WF (s.setCoef id jd v).2 := by
  unfold AS.setCoef
  split
  · split
    · exact h.upd (fun r => { r with coef := r.coef.set (atI s.cids jd) v }) _ (fun _ => rfl) (fun r hr => h.kd r hr) (fun r => by simp)
    · exact h
  · exact h
theorem WF.setRhs (h : WF s) (id : Int) (v : Rat) : WF (s.setRhs id v).2 := by
  unfold AS.setRhs
  split
  · exact h.upd (fun r => { r with rhs := v }) _ (fun _ => rfl) (fun r hr => h.kd r hr) (fun r => rfl)
  · exact h
theorem WF.setKind (h : WF s) (id kd : Int) : WF (s.setKind id kd).2 := by
  unfold AS.setKind
  split
  · split
    · exact h
    · exact h.upd (fun r => { r with kind := kd }) _ (fun _ => rfl) (fun r hr => by show 1 ≤ kd ∧ kd ≤ 3; omega) (fun r => rfl)
  · exact h
theorem WF.setCost (h : WF s) (id : Int) (v : Rat) : WF (s.setCost id v).2 := by
  unfold AS.setCost
  split
  · have hci : (Go.Proofs.YtaehklhbokocbaaGreatDoor.upd (fun c : AC => { c with cost := v }) s.cols (atI s.cids id)).map (·.id) = s.cids := upd_map (fun c : AC => { c with cost := v }) (fun c => c.id) (fun _ => rfl) _ _
    have hl : (Go.Proofs.YtaehklhbokocbaaGreatDoor.upd (fun c : AC => { c with cost := v }) s.cols (atI s.cids id)).length = s.cols.length := upd_len _ _ _
    refine ⟨h.rid, h.rpos, ?_, ?_, h.rl, by rw [hl]; exact h.cl, h.kd, fun r hr => by rw [hl]; exact h.len r hr, h.lr0, h.lc0⟩
    · show ((Go.Proofs.YtaehklhbokocbaaGreatDoor.upd (fun c : AC => { c with cost := v }) s.cols (atI s.cids id)).map (·.id)).Pairwise _
      rw [hci]; exact h.cid
    · show ∀ i, i ∈ (Go.Proofs.YtaehklhbokocbaaGreatDoor.upd (fun c : AC => { c with cost := v }) s.cols (atI s.cids id)).map (·.id) → _
      rw [hci]; exact h.cpos
  · exact h
theorem rids_len (s : AS) : s.rids.length = s.rows.length := by simp [AS.rids]
theorem cids_len (s : AS) : s.cids.length = s.cols.length := by simp [AS.cids]
theorem Coup.addRow (h : Coup s m) (hw : WF s) (kd : Int) (v : Int × Int) (es : List (Int × Int × Int)) : (s.addRow kd (fracQ v) (es.map eQ)).1 = (m.addRow kd v es).1 ∧ Coup (s.addRow kd (fracQ v) (es.map eQ)).2 (m.addRow kd v es).2 := by
  obtain ⟨mr, mc, mk, mh, mo, cells, ml, mq⟩ := m
  obtain ⟨rfl, rfl, rfl, hrhs, hcosts, hcoef, rfl, rfl, hcells⟩ := id h
  unfold AS.addRow RM.addRow
  rw [lay_any _ (nodup_lt hw.cid), eQ_ids]
  dsimp only at hcoef hcells hrhs hcosts ⊢
  rw [rids_len]
  split
  · exact ⟨rfl, h⟩
  · split
    · exact ⟨rfl, h⟩
    · cases he : entR s.cids 231 [] (es.map (·.1)) with
      | some e => exact ⟨rfl, h⟩
      | none =>
        have hm := entR_mem _ _ he
        dsimp only
        refine ⟨rfl, ⟨?_, rfl, ?_, ?_, hcosts, fun r hr => ?_, rfl, rfl, fun x hx => ?_⟩⟩
        · simp [AS.rids]
        · simp
        · simp [hrhs]
        · dsimp only at hr ⊢
          rcases List.mem_append.1 hr with hr | hr
          · rw [hcoef r hr]
            refine List.map_congr_left fun c hc => ?_
            rw [findC_skipR]
            intro x hx hxr
            obtain ⟨e, _, rfl⟩ := List.mem_map.1 hx
            have := (hw.rpos r.id (List.mem_map_of_mem hr)).2
            dsimp only at hxr
            omega
          · rw [List.mem_singleton.1 hr]
            dsimp only
            rw [AS.cids, List.map_map]
            refine List.map_congr_left fun c hc => ?_
            rw [findC_skipL, findC_rowEs]
            · rfl
            · intro x hx hxr
              have := (hcells x hx).1
              omega
        · dsimp only at hx ⊢
          rcases List.mem_append.1 hx with hx | hx
          · have := hcells x hx
            omega
          · obtain ⟨e, he2, rfl⟩ := List.mem_map.1 hx
            have := (hw.cpos e.1 (hm e.1 (List.mem_map_of_mem he2))).2
            dsimp only
            omega
theorem Coup.addCol (h : Coup s m) (hw : WF s) (v : Int × Int) (es : List (Int × Int × Int)) : (s.addCol (fracQ v) (es.map eQ)).1 = (m.addCol v es).1 ∧ Coup (s.addCol (fracQ v) (es.map eQ)).2 (m.addCol v es).2 := by
  obtain ⟨mr, mc, mk, mh, mo, cells, ml, mq⟩ := m
  obtain ⟨rfl, rfl, rfl, hrhs, hcosts, hcoef, rfl, rfl, hcells⟩ := id h
  unfold AS.addCol RM.addCol
  rw [lay_any _ (nodup_lt hw.rid), eQ_ids]
  dsimp only at hcoef hcells hrhs hcosts ⊢
  rw [cids_len]
  split
  · exact ⟨rfl, h⟩
  · cases he : entR s.rids 230 [] (es.map (·.1)) with
    | some e => exact ⟨rfl, h⟩
    | none =>
      have hm := entR_mem _ _ he
      have hq : addQ s.rows (s.rids.map (look (es.map eQ))) = s.rows.map fun r => { r with coef := r.coef ++ [look (es.map eQ) r.id] } := by
        rw [AS.rids, List.map_map]; exact addQ_map (fun r => look (es.map eQ) r.id) s.rows
      dsimp only
      rw [hq]
      refine ⟨rfl, ⟨?_, ?_, ?_, ?_, ?_, fun r hr => ?_, rfl, rfl, fun x hx => ?_⟩⟩
      · simp [AS.rids]
      · simp [AS.cids]
      · simp
      · simp [hrhs]
      · simp [hcosts]
      · dsimp only at hr ⊢
        obtain ⟨r2, hr2, rfl⟩ := List.mem_map.1 hr
        dsimp only
        rw [List.map_append, hcoef r2 hr2]
        have e1 : s.cols.map (fun c => fracQ (findC r2.id c.id cells)) = s.cols.map (fun c => fracQ (findC r2.id c.id (cells ++ es.map fun e => ⟨e.1, s.lc + 1, e.2⟩))) := by
          refine List.map_congr_left fun c hc => ?_
          rw [findC_skipR]
          intro x hx _
          obtain ⟨e, _, rfl⟩ := List.mem_map.1 hx
          have := (hw.cpos c.id (List.mem_map_of_mem hc)).2
          dsimp only
          omega
        have e2 : fracQ (findC r2.id (s.lc + 1) (cells ++ es.map fun e => ⟨e.1, s.lc + 1, e.2⟩)) = look (es.map eQ) r2.id := by
          rw [findC_skipL, findC_colEs]
          intro x hx _
          have := (hcells x hx).2
          omega
        rw [← e1, List.map_singleton, e2]
      · dsimp only at hx ⊢
        rcases List.mem_append.1 hx with hx | hx
        · have := hcells x hx
          omega
        · obtain ⟨e, he2, rfl⟩ := List.mem_map.1 hx
          have := (hw.rpos e.1 (hm e.1 (List.mem_map_of_mem he2))).2
          dsimp only
          omega
theorem Coup.dropRow (h : Coup s m) (hw : WF s) (id : Int) : (s.dropRow id).1 = (m.dropRow id).1 ∧ Coup (s.dropRow id).2 (m.dropRow id).2 := by
  obtain ⟨mr, mc, mk, mh, mo, cells, ml, mq⟩ := m
  obtain ⟨rfl, rfl, rfl, hrhs, hcosts, hcoef, rfl, rfl, hcells⟩ := _root_.id h
  unfold AS.dropRow RM.dropRow
  dsimp only at hcoef hcells hrhs hcosts ⊢
  rw [rids_len]
  split
  · rename_i hlt
    refine ⟨rfl, ⟨(erase_map _ _ _).symm, rfl, (erase_map _ _ _).symm, ?_, hcosts, fun r hr => ?_, rfl, rfl, fun x hx => hcells x (List.mem_filter.1 hx).1⟩⟩
    · dsimp only
      rw [erase_map, erase_map, hrhs]
    · dsimp only at hr ⊢
      have hr1 := List.mem_of_mem_eraseIdx hr
      have hne : r.id ≠ id := id_gone (g := AR.id) (nodup_lt hw.rid) hr (by simpa [AS.rids] using hlt)
      rw [hcoef r hr1]
      refine List.map_congr_left fun c hc => ?_
      have := (hw.cpos c.id (List.mem_map_of_mem hc)).1
      rw [keepC, findC_filter]
      intro x h1 h2
      simp only [h1, h2, Bool.and_eq_true, decide_eq_true_eq]
      exact ⟨hne, by omega⟩
  · exact ⟨rfl, h⟩
theorem Coup.dropCol (h : Coup s m) (hw : WF s) (id : Int) : (s.dropCol id).1 = (m.dropCol id).1 ∧ Coup (s.dropCol id).2 (m.dropCol id).2 := by
  obtain ⟨mr, mc, mk, mh, mo, cells, ml, mq⟩ := m
  obtain ⟨rfl, rfl, rfl, hrhs, hcosts, hcoef, rfl, rfl, hcells⟩ := _root_.id h
  unfold AS.dropCol RM.dropCol
  dsimp only at hcoef hcells hrhs hcosts ⊢
  rw [cids_len]
  split
  · rename_i hlt
    refine ⟨rfl, ⟨?_, (erase_map _ _ _).symm, ?_, ?_, ?_, fun r hr => ?_, rfl, rfl, fun x hx => hcells x (List.mem_filter.1 hx).1⟩⟩
    · simp [AS.rids]
    · simp
    · simp [hrhs]
    · dsimp only
      rw [erase_map, erase_map, hcosts]
    · dsimp only at hr ⊢
      obtain ⟨r2, hr2, rfl⟩ := List.mem_map.1 hr
      dsimp only
      rw [hcoef r2 hr2, ← erase_map]
      refine List.map_congr_left fun c hc => ?_
      have hne : c.id ≠ id := id_gone (g := AC.id) (nodup_lt hw.cid) hc (by simpa [AS.cids] using hlt)
      have := (hw.rpos r2.id (List.mem_map_of_mem hr2)).1
      rw [keepC, findC_filter]
      intro x h1 h2
      simp only [h1, h2, Bool.and_eq_true, decide_eq_true_eq]
      exact ⟨by omega, hne⟩
  · exact ⟨rfl, h⟩
theorem Coup.setCoef (h : Coup s m) (hw : WF s) (id jd : Int) (v : Int × Int) : (s.setCoef id jd (fracQ v)).1 = (m.setCoef id jd v).1 ∧ Coup (s.setCoef id jd (fracQ v)).2 (m.setCoef id jd v).2 := by
  obtain ⟨mr, mc, mk, mh, mo, cells, ml, mq⟩ := m
  obtain ⟨rfl, rfl, rfl, hrhs, hcosts, hcoef, rfl, rfl, hcells⟩ := _root_.id h
  unfold AS.setCoef RM.setCoef
  dsimp only at hcoef hcells hrhs hcosts ⊢
  rw [rids_len, cids_len]
  split
  · rename_i hlt
    split
    · rename_i hlj
      have hid : id ∈ s.rids := atI_mem.1 (by simpa [AS.rids] using hlt)
      have hjd : jd ∈ s.cids := atI_mem.1 (by simpa [AS.cids] using hlj)
      have hid2 := (hw.rpos _ hid).2
      have hjd2 := (hw.cpos _ hjd).2
      refine ⟨rfl, ⟨?_, rfl, ?_, ?_, hcosts, fun r hr => ?_, rfl, rfl, fun x hx => ?_⟩⟩
      · exact (upd_map (fun r : AR => { r with coef := r.coef.set (atI s.cids jd) (fracQ v) }) (fun r => r.id) (fun _ => rfl) _ _).symm
      · exact (upd_map (fun r : AR => { r with coef := r.coef.set (atI s.cids jd) (fracQ v) }) (fun r => r.kind) (fun _ => rfl) _ _).symm
      · exact hrhs.trans (upd_map (fun r : AR => { r with coef := r.coef.set (atI s.cids jd) (fracQ v) }) (fun r => r.rhs) (fun _ => rfl) _ _).symm
      · dsimp only at hr ⊢
        rcases upd_mem _ _ _ r hr with ⟨j, hj, hjr⟩ | ⟨y, hy, rfl⟩
        · have hne : r.id ≠ id := id_else (g := AR.id) (nodup_lt hw.rid) hjr hj
          rw [hcoef r (List.mem_of_getElem? hjr)]
          refine List.map_congr_left fun c hc => ?_
          rw [findC_skipR _ _ _ _ (fun x hx hxr => by rw [List.mem_singleton.1 hx] at hxr; exact absurd hxr.symm hne), otherC, findC_filter]
          intro x h1 h2
          simp [h1, hne]
        · have hy1 : y.id = id := id_there (g := AR.id) hy
          dsimp only
          rw [hcoef y (List.mem_of_getElem? hy)]
          apply List.ext_getElem (by simp)
          intro k h1 h2
          have hk : k < s.cols.length := by simpa using h2
          rw [List.getElem_set, List.getElem_map, List.getElem_map]
          split
          · rename_i e
            have hc : s.cols[k].id = jd := by
              subst e
              have := atI_hit (l := s.cids) (t := jd) (by simpa [AS.cids] using hlj)
              simpa [AS.cids] using this
            have e2 : ∀ a b, a = id → b = jd → findC a b (otherC id jd cells ++ [⟨id, jd, v⟩]) = v := fun a b ha hb => by
              rw [ha, hb, findC_put]
              intro x hx h3 h4
              have := (List.mem_filter.1 hx).2
              simp [h3, h4] at this
            exact (congrArg fracQ (e2 _ _ hy1 hc)).symm
          · rename_i e
            have hc : s.cols[k].id ≠ jd := id_else (g := AC.id) (nodup_lt hw.cid) (List.getElem?_eq_getElem hk) (fun e2 => e e2.symm)
            have e2 : ∀ a b, b ≠ jd → findC a b (otherC id jd cells ++ [⟨id, jd, v⟩]) = findC a b cells := fun a b hb => by
              rw [findC_skipR _ _ _ _ (fun x hx _ => by rw [List.mem_singleton.1 hx]; exact fun e => hb e.symm), otherC, findC_filter]
              intro x h3 h4
              simp [h4, hb]
            rw [e2 _ _ hc]
      · dsimp only at hx ⊢
        rcases List.mem_append.1 hx with hx | hx
        · exact hcells x (List.mem_filter.1 hx).1
        · rw [List.mem_singleton.1 hx]
          exact ⟨hid2, hjd2⟩
    · exact ⟨rfl, h⟩
  · exact ⟨rfl, h⟩
theorem Coup.setRhs (h : Coup s m) (id : Int) (v : Int × Int) : (s.setRhs id (fracQ v)).1 = (m.setRhs id v).1 ∧ Coup (s.setRhs id (fracQ v)).2 (m.setRhs id v).2 := by
  obtain ⟨mr, mc, mk, mh, mo, cells, ml, mq⟩ := m
  obtain ⟨rfl, rfl, rfl, hrhs, hcosts, hcoef, rfl, rfl, hcells⟩ := _root_.id h
  unfold AS.setRhs RM.setRhs
  dsimp only at hcoef hcells hrhs hcosts ⊢
  rw [rids_len]
  split
  · refine ⟨rfl, ⟨?_, rfl, ?_, ?_, hcosts, fun r hr => ?_, rfl, rfl, hcells⟩⟩
    · exact (upd_map (fun r : AR => { r with rhs := fracQ v }) (fun r => r.id) (fun _ => rfl) _ _).symm
    · exact (upd_map (fun r : AR => { r with rhs := fracQ v }) (fun r => r.kind) (fun _ => rfl) _ _).symm
    · dsimp only
      rw [List.map_set, hrhs]
      exact (upd_mapSet (fun r : AR => { r with rhs := fracQ v }) (fun r => r.rhs) (fracQ v) (fun _ => rfl) _ _).symm
    · dsimp only at hr ⊢
      rcases upd_mem _ _ _ r hr with ⟨j, hj, hjr⟩ | ⟨y, hy, rfl⟩
      · exact hcoef r (List.mem_of_getElem? hjr)
      · exact hcoef y (List.mem_of_getElem? hy)
  · exact ⟨rfl, h⟩
theorem Coup.setKind (h : Coup s m) (id kd : Int) : (s.setKind id kd).1 = (m.setKind id kd).1 ∧ Coup (s.setKind id kd).2 (m.setKind id kd).2 := by
  obtain ⟨mr, mc, mk, mh, mo, cells, ml, mq⟩ := m
  obtain ⟨rfl, rfl, rfl, hrhs, hcosts, hcoef, rfl, rfl, hcells⟩ := _root_.id h
  unfold AS.setKind RM.setKind
  dsimp only at hcoef hcells hrhs hcosts ⊢
  rw [rids_len]
  split
  · split
    · exact ⟨rfl, h⟩
    · refine ⟨rfl, ⟨?_, rfl, ?_, ?_, hcosts, fun r hr => ?_, rfl, rfl, hcells⟩⟩
      · exact (upd_map (fun r : AR => { r with kind := kd }) (fun r => r.id) (fun _ => rfl) _ _).symm
      · exact (upd_mapSet (fun r : AR => { r with kind := kd }) (fun r => r.kind) kd (fun _ => rfl) _ _).symm
      · exact hrhs.trans (upd_map (fun r : AR => { r with kind := kd }) (fun r => r.rhs) (fun _ => rfl) _ _).symm
      · dsimp only at hr ⊢
        rcases upd_mem _ _ _ r hr with ⟨j, hj, hjr⟩ | ⟨y, hy, rfl⟩
        · exact hcoef r (List.mem_of_getElem? hjr)
        · exact hcoef y (List.mem_of_getElem? hy)
  · exact ⟨rfl, h⟩
theorem Coup.setCost (h : Coup s m) (id : Int) (v : Int × Int) : (s.setCost id (fracQ v)).1 = (m.setCost id v).1 ∧ Coup (s.setCost id (fracQ v)).2 (m.setCost id v).2 := by
  obtain ⟨mr, mc, mk, mh, mo, cells, ml, mq⟩ := m
  obtain ⟨rfl, rfl, rfl, hrhs, hcosts, hcoef, rfl, rfl, hcells⟩ := _root_.id h
  unfold AS.setCost RM.setCost
  dsimp only at hcoef hcells hrhs hcosts ⊢
  rw [cids_len]
  split
  · have hci := upd_map (fun c : AC => { c with cost := fracQ v }) (fun c => c.id) (fun _ => rfl) s.cols (atI s.cids id)
    refine ⟨rfl, ⟨rfl, hci.symm, rfl, hrhs, ?_, fun r hr => ?_, rfl, rfl, hcells⟩⟩
    · dsimp only
      rw [List.map_set, hcosts]
      exact (upd_mapSet (fun c : AC => { c with cost := fracQ v }) (fun c => c.cost) (fracQ v) (fun _ => rfl) _ _).symm
    · dsimp only at hr ⊢
      have e1 : ∀ l : List AC, l.map (fun c => fracQ (findC r.id c.id cells)) = (l.map (fun c => c.id)).map (fun i => fracQ (findC r.id i cells)) := fun l => by rw [List.map_map]; rfl
      rw [hcoef r hr, e1, e1, hci]
  · exact ⟨rfl, h⟩
end
end Go.Proofs.YtaehklhbokocbaaGreatDoor
namespace Go.Proofs.YtaehklhbokocbaaGreatDoor
structure XA where
  d : Int
  row : Int
  col : Int
  kind : Int
  v : Int × Int
  es : List (Int × Int × Int)
def AS.act (s : AS) (x : XA) : (Int × Fl) × AS :=
  if x.d = 1 then s.addRow x.kind (fracQ x.v) (x.es.map eQ)
  else if x.d = 2 then s.addCol (fracQ x.v) (x.es.map eQ)
  else if x.d = 3 then ((0, (s.dropRow x.row).1), (s.dropRow x.row).2)
  else if x.d = 4 then ((0, (s.dropCol x.col).1), (s.dropCol x.col).2)
  else if x.d = 5 then ((0, (s.setCoef x.row x.col (fracQ x.v)).1), (s.setCoef x.row x.col (fracQ x.v)).2)
  else if x.d = 6 then ((0, (s.setRhs x.row (fracQ x.v)).1), (s.setRhs x.row (fracQ x.v)).2)
  else if x.d = 7 then ((0, (s.setKind x.row x.kind).1), (s.setKind x.row x.kind).2)
  else if x.d = 8 then ((0, (s.setCost x.col (fracQ x.v)).1), (s.setCost x.col (fracQ x.v)).2)
  else ((0, noF), s)
def RM.act (m : RM) (x : XA) : (Int × Fl) × RM :=
  if x.d = 1 then m.addRow x.kind x.v x.es
  else if x.d = 2 then m.addCol x.v x.es
  else if x.d = 3 then ((0, (m.dropRow x.row).1), (m.dropRow x.row).2)
  else if x.d = 4 then ((0, (m.dropCol x.col).1), (m.dropCol x.col).2)
  else if x.d = 5 then ((0, (m.setCoef x.row x.col x.v).1), (m.setCoef x.row x.col x.v).2)
  else if x.d = 6 then ((0, (m.setRhs x.row x.v).1), (m.setRhs x.row x.v).2)
  else if x.d = 7 then ((0, (m.setKind x.row x.kind).1), (m.setKind x.row x.kind).2)
  else if x.d = 8 then ((0, (m.setCost x.col x.v).1), (m.setCost x.col x.v).2)
  else ((0, noF), m)
section
variable {s : AS} {m : RM}
theorem WF.act (h : WF s) (x : XA) : WF (s.act x).2 := by
  unfold AS.act
  split
  · exact h.addRow _ _ _
  · split
    · exact h.addCol _ _
    · split
      · exact h.dropRow _
      · split
        · exact h.dropCol _
        · split
          · exact h.setCoef _ _ _
          · split
            · exact h.setRhs _ _
            · split
              · exact h.setKind _ _
              · split
                · exact h.setCost _ _
                · exact h
theorem ans_of {α β : Type} {a : Fl × α} {b : Fl × β} (R : α → β → Prop) (h : a.1 = b.1 ∧ R a.2 b.2) : ((0 : Int), a.1) = ((0 : Int), b.1) ∧ R a.2 b.2 := ⟨by rw [h.1], h.2⟩
theorem Coup.act (h : Coup s m) (hw : WF s) (x : XA) : (s.act x).1 = (m.act x).1 ∧ Coup (s.act x).2 (m.act x).2 := by
  unfold AS.act RM.act
  split
  · exact h.addRow hw _ _ _
  · split
    · exact h.addCol hw _ _
    · split
      · exact ans_of _ (h.dropRow hw _)
      · split
        · exact ans_of _ (h.dropCol hw _)
        · split
          · exact ans_of _ (h.setCoef hw _ _ _)
          · split
            · exact ans_of _ (h.setRhs _ _)
            · split
              · exact ans_of _ (h.setKind _ _)
              · split
                · exact ans_of _ (h.setCost _ _)
                · exact ⟨rfl, h⟩
structure RWf (m : RM) : Prop where
  rl : m.rows.length ≤ 20
  cl : m.cols.length ≤ 24
  kl : m.kinds.length = m.rows.length
  hl : m.rhs.length = m.rows.length
  ol : m.costs.length = m.cols.length
  lr0 : 0 ≤ m.lr
  lc0 : 0 ≤ m.lc
theorem Coup.wf (h : Coup s m) (hw : WF s) : RWf m := by
  have h1 := congrArg List.length h.rhs
  have h2 := congrArg List.length h.costs
  simp only [List.length_map] at h1 h2
  exact ⟨by rw [h.rlen]; exact hw.rl, by rw [h.clen]; exact hw.cl, by rw [h.rlen, h.kinds, List.length_map], by rw [h.rlen, h1], by rw [h.clen, h2], by rw [h.lr]; exact hw.lr0, by rw [h.lc]; exact hw.lc0⟩
theorem act_lr (s : AS) (x : XA) : s.lr ≤ (s.act x).2.lr ∧ (s.act x).2.lr ≤ s.lr + 1 := by
  unfold AS.act
  split
  · unfold AS.addRow
    split
    · dsimp only; omega
    · split
      · dsimp only; omega
      · split <;> dsimp only <;> omega
  · split
    · unfold AS.addCol
      split
      · dsimp only; omega
      · split <;> dsimp only <;> omega
    · split
      · unfold AS.dropRow; split <;> dsimp only <;> omega
      · split
        · unfold AS.dropCol; split <;> dsimp only <;> omega
        · split
          · unfold AS.setCoef
            split
            · split <;> dsimp only <;> omega
            · dsimp only; omega
          · split
            · unfold AS.setRhs; split <;> dsimp only <;> omega
            · split
              · unfold AS.setKind
                split
                · split <;> dsimp only <;> omega
                · dsimp only; omega
              · split
                · unfold AS.setCost; split <;> dsimp only <;> omega
                · dsimp only; omega
theorem act_lc (s : AS) (x : XA) : s.lc ≤ (s.act x).2.lc ∧ (s.act x).2.lc ≤ s.lc + 1 := by
  unfold AS.act
  split
  · unfold AS.addRow
    split
    · dsimp only; omega
    · split
      · dsimp only; omega
      · split <;> dsimp only <;> omega
  · split
    · unfold AS.addCol
      split
      · dsimp only; omega
      · split <;> dsimp only <;> omega
    · split
      · unfold AS.dropRow; split <;> dsimp only <;> omega
      · split
        · unfold AS.dropCol; split <;> dsimp only <;> omega
        · split
          · unfold AS.setCoef
            split
            · split <;> dsimp only <;> omega
            · dsimp only; omega
          · split
            · unfold AS.setRhs; split <;> dsimp only <;> omega
            · split
              · unfold AS.setKind
                split
                · split <;> dsimp only <;> omega
                · dsimp only; omega
              · split
                · unfold AS.setCost; split <;> dsimp only <;> omega
                · dsimp only; omega
theorem keepC_len (a b : Int) (l : List RC) : (keepC a b l).length ≤ l.length := List.length_filter_le _ _
theorem otherC_len (a b : Int) (l : List RC) : (otherC a b l).length ≤ l.length := List.length_filter_le _ _
theorem act_cells (m : RM) (x : XA) : (m.act x).2.cells.length ≤ m.cells.length + x.es.length + 1 := by
  unfold RM.act
  split
  · unfold RM.addRow
    split
    · dsimp only; omega
    · split
      · dsimp only; omega
      · split
        · dsimp only; omega
        · dsimp only; rw [List.length_append, List.length_map]; omega
  · split
    · unfold RM.addCol
      split
      · dsimp only; omega
      · split
        · dsimp only; omega
        · dsimp only; rw [List.length_append, List.length_map]; omega
    · split
      · unfold RM.dropRow
        have := keepC_len x.row 0 m.cells
        split <;> dsimp only <;> omega
      · split
        · unfold RM.dropCol
          have := keepC_len 0 x.col m.cells
          split <;> dsimp only <;> omega
        · split
          · unfold RM.setCoef
            have := otherC_len x.row x.col m.cells
            split
            · split
              · dsimp only; rw [List.length_append]; simp only [List.length_cons, List.length_nil]; omega
              · dsimp only; omega
            · dsimp only; omega
          · split
            · unfold RM.setRhs; split <;> dsimp only <;> omega
            · split
              · unfold RM.setKind
                split
                · split <;> dsimp only <;> omega
                · dsimp only; omega
              · split
                · unfold RM.setCost; split <;> dsimp only <;> omega
                · dsimp only; omega
end
def AS.run (s : AS) (xs : List XA) : AS := xs.foldl (fun s x => (s.act x).2) s
def RM.run (m : RM) (xs : List XA) : RM := xs.foldl (fun m x => (m.act x).2) m
def AS.new : AS := ⟨[], [], 0, 0⟩
def load (xs : List XA) : Nat := (xs.map fun x => x.es.length + 1).sum
theorem AS.run_snoc (s : AS) (xs : List XA) (x : XA) : s.run (xs ++ [x]) = ((s.run xs).act x).2 := by unfold AS.run; rw [List.foldl_append]; rfl
theorem RM.run_snoc (s : RM) (xs : List XA) (x : XA) : s.run (xs ++ [x]) = ((s.run xs).act x).2 := by unfold RM.run; rw [List.foldl_append]; rfl
theorem AS.run_take (s : AS) (xs : List XA) (k : Nat) (h : k < xs.length) : s.run (xs.take (k + 1)) = ((s.run (xs.take k)).act xs[k]).2 := by rw [List.take_succ_eq_append_getElem h, AS.run_snoc]
theorem RM.run_take (s : RM) (xs : List XA) (k : Nat) (h : k < xs.length) : s.run (xs.take (k + 1)) = ((s.run (xs.take k)).act xs[k]).2 := by rw [List.take_succ_eq_append_getElem h, RM.run_snoc]
structure Played (xs : List XA) (s : AS) (m : RM) : Prop where
  wf : WF s
  co : Coup s m
  lr : s.lr ≤ (xs.length : Int)
  lc : s.lc ≤ (xs.length : Int)
  cells : m.cells.length ≤ load xs
theorem Played.nil : Played [] AS.new RM.new := ⟨WF.new, Coup.new, Int.le_refl _, Int.le_refl _, Nat.le_refl _⟩
theorem load_snoc (xs : List XA) (x : XA) : load (xs ++ [x]) = load xs + (x.es.length + 1) := by unfold load; simp
theorem Played.snoc {xs : List XA} {s : AS} {m : RM} (h : Played xs s m) (x : XA) : Played (xs ++ [x]) (s.act x).2 (m.act x).2 := by
  have h1 := act_lr s x
  have h2 := act_lc s x
  have h3 := act_cells m x
  have h4 := h.lr
  have h5 := h.lc
  have h6 := h.cells
  refine ⟨h.wf.act x, (h.co.act h.wf x).2, ?_, ?_, ?_⟩
  · simp only [List.length_append, List.length_cons, List.length_nil]; omega
  · simp only [List.length_append, List.length_cons, List.length_nil]; omega
  · rw [load_snoc]; omega
theorem Played.more : ∀ (ys xs : List XA) {s : AS} {m : RM}, Played xs s m → Played (xs ++ ys) (s.run ys) (m.run ys)
  | [], xs, s, m, h => by rw [List.append_nil]; exact h
  | y :: ys, xs, s, m, h => by
    have h1 := Played.more ys (xs ++ [y]) (h.snoc y)
    rw [List.append_assoc] at h1
    exact h1
theorem Played.all (xs : List XA) : Played xs (AS.new.run xs) (RM.new.run xs) := Played.more xs [] Played.nil
theorem Played.upto (xs : List XA) (k : Nat) : Played (xs.take k) (AS.new.run (xs.take k)) (RM.new.run (xs.take k)) := Played.all _
theorem load_take : ∀ (xs : List XA) (k : Nat), load (xs.take k) ≤ load xs
  | [], k => by simp
  | x :: r, 0 => by simp [load]
  | x :: r, k + 1 => by
    have := load_take r k
    unfold load at this ⊢
    simp only [List.take_succ_cons, List.map_cons, List.sum_cons]
    omega
theorem load_len (xs : List XA) : xs.length ≤ load xs := by
  induction xs with
  | nil => exact Nat.le_refl _
  | cons x r ih => unfold load at ih ⊢; simp only [List.map_cons, List.sum_cons, List.length_cons]; omega
end Go.Proofs.YtaehklhbokocbaaGreatDoor
