/-
  What the laws of a store stand on, part S: contracts and plain laws of SAbs, LTold; the conditions are each law's own.
-/
import Derived.Test.YtaehklhbokocbaaGreatDoorXE
import Derived.Test.YtaehklhbokocbaaGreatDoorXC
import Derived.Test.YtaehklhbokocbaaGreatDoorXP
import Derived.Test.YtaehklhbokocbaaGreatDoorXF
set_option linter.unusedVariables false
set_option linter.unusedSimpArgs false
namespace Go.Proofs.YtaehklhbokocbaaGreatDoor
open Go.RowKit Go.Extern.Stop Go.Stop Go.Extern
def Rw.ar (r : Rw) : AR := ⟨r.id, r.kind, r.rhs.q, r.coef.map (·.q)⟩
def Cl.ac (c : Cl) : AC := ⟨c.id, c.cost.q⟩
structure Smalls (rows : List Rw) (cols : List Cl) : Prop where
  rhs : ∀ r, r ∈ rows → r.rhs.small
  coef : ∀ r, r ∈ rows → ∀ v, v ∈ r.coef → v.small
  cost : ∀ c, c ∈ cols → c.cost.small
def SA (w : World) (sb : Nat) (G : Nat → Prop) (s : AS) : Prop :=
  ∃ rows cols, SS w sb G rows cols s.lr s.lc ∧ rows.map Rw.ar = s.rows ∧ cols.map Cl.ac = s.cols ∧ Smalls rows cols
def SAct (w : World) (sb : Nat) (G : Nat → Prop) (s : AS) (w' : World) : Prop :=
  ∃ G', SA w' sb G' s ∧ (∀ k, G' k → G k ∨ w.heap.size ≤ k) ∧ Keeps w w' G
section
variable {w w' : World} {sb : Nat} {G S : Nat → Prop} {s : AS} {rows : List Rw} {cols : List Cl} {lr lc : Int}
theorem SA.lt (h : SA w sb G s) : ∀ k, G k → k < w.heap.size := by obtain ⟨_, _, h, _⟩ := h; exact h.lt
theorem SA.here (h : SA w sb G s) : G sb := by obtain ⟨_, _, h, _⟩ := h; exact h.here
theorem SA.noWords (h : SA w sb G s) : ∀ k, G k → ¬ WordB w k := by obtain ⟨_, _, h, _⟩ := h; exact h.noWords
theorem SA.keeps (h : SA w sb G s) (hk : Keeps w w' S) (hd : ∀ k, G k → ¬ S k) (hs : ∀ k, S k → ¬ WordB w k) : SA w' sb G s := by
  obtain ⟨rows, cols, h1, h2, h3, h4⟩ := h; exact ⟨rows, cols, h1.keeps hk hd hs, h2, h3, h4⟩
theorem SA.below (h : SA w sb G s) (hb : Below w.heap.size w w') : SA w' sb G s := by
  obtain ⟨rows, cols, h1, h2, h3, h4⟩ := h; exact ⟨rows, cols, h1.below hb, h2, h3, h4⟩
theorem SAct.of_below (h : SA w sb G s) (hb : Below w.heap.size w w') : SAct w sb G s w' := ⟨G, h.below hb, fun _ h => .inl h, Keeps.of_below hb fun b h1 h2 => by omega⟩
theorem SAct.of (h : StA w sb G rows cols lr lc w') (hl : lr = s.lr) (hc : lc = s.lc) (h1 : rows.map Rw.ar = s.rows) (h2 : cols.map Cl.ac = s.cols) (h3 : Smalls rows cols) : SAct w sb G s w' := by
  obtain ⟨G', ha, hb, hk⟩ := h
  subst hl hc
  exact ⟨G', ⟨rows, cols, ha, h1, h2, h3⟩, hb, hk⟩
theorem bare_ar {rows rows' : List Rw} (e : rows'.map Rw.bare = rows.map Rw.bare) : rows'.map Rw.ar = rows.map Rw.ar := by
  have h : ∀ l : List Rw, l.map Rw.ar = (l.map Rw.bare).map Rw.ar := fun l => by rw [List.map_map]; rfl
  rw [h rows', h rows, e]
theorem bare_mem {rows rows' : List Rw} (e : rows'.map Rw.bare = rows.map Rw.bare) {r : Rw} (hr : r ∈ rows') : ∃ r2, r2 ∈ rows ∧ r.rhs = r2.rhs ∧ r.coef = r2.coef := by
  have h1 : r.bare ∈ rows.map Rw.bare := by rw [← e]; exact List.mem_map_of_mem hr
  obtain ⟨r2, h2, h3⟩ := List.mem_map.1 h1
  have e1 := congrArg Rw.rhs h3
  have e2 := congrArg Rw.coef h3
  exact ⟨r2, h2, e1.symm, e2.symm⟩
theorem Smalls.bare {rows rows' : List Rw} (h : Smalls rows cols) (e : rows'.map Rw.bare = rows.map Rw.bare) : Smalls rows' cols :=
  ⟨fun r hr => by obtain ⟨r2, h2, e1, e2⟩ := bare_mem e hr; rw [e1]; exact h.rhs r2 h2, fun r hr => by obtain ⟨r2, h2, e1, e2⟩ := bare_mem e hr; rw [e2]; exact h.coef r2 h2, h.cost⟩
theorem Smalls.sub {rows' : List Rw} {cols' : List Cl} (h : Smalls rows cols) (h1 : ∀ r, r ∈ rows' → r ∈ rows) (h2 : ∀ c, c ∈ cols' → c ∈ cols) : Smalls rows' cols' :=
  ⟨fun r hr => h.rhs r (h1 r hr), fun r hr => h.coef r (h1 r hr), fun c hc => h.cost c (h2 c hc)⟩
theorem ar_len (h : rows.map Rw.ar = s.rows) : rows.length = s.rows.length := by rw [← h, List.length_map]
theorem ac_len (h : cols.map Cl.ac = s.cols) : cols.length = s.cols.length := by rw [← h, List.length_map]
theorem ar_rids (h : rows.map Rw.ar = s.rows) : rows.map (·.id) = s.rids := by unfold AS.rids; rw [← h, List.map_map]; rfl
theorem ac_cids (h : cols.map Cl.ac = s.cols) : cols.map (·.id) = s.cids := by unfold AS.cids; rw [← h, List.map_map]; rfl
theorem ar_coef (hw : WF s) (h : rows.map Rw.ar = s.rows) (h2 : cols.map Cl.ac = s.cols) {r : Rw} (hr : r ∈ rows) : r.coef.length = cols.length := by
  have h1 := hw.len r.ar (by rw [← h]; exact List.mem_map_of_mem hr)
  rw [ac_len h2, ← h1]
  show _ = (r.coef.map _).length
  rw [List.length_map]
theorem few_of (hw : WF s) (h : rows.map Rw.ar = s.rows) (h2 : cols.map Cl.ac = s.cols) (h3 : Smalls rows cols) : Few rows cols := by
  have e1 := ar_len h
  have e2 := ac_len h2
  have l1 := hw.rl
  have l2 := hw.cl
  exact ⟨by omega, by omega, fun r hr => by have := ar_coef hw h h2 hr; omega, h3.rhs, h3.coef, h3.cost⟩
theorem find_map {α : Type} (g : α → Int) (t : Int) : ∀ l : List α, (l.map g).findIdx (fun p => decide (p = t)) = l.findIdx (fun x => decide (g x = t))
  | [] => rfl
  | x :: r => by
    rw [List.map_cons, List.findIdx_cons, List.findIdx_cons, find_map g t r]
theorem rowAt_atI (h : rows.map Rw.ar = s.rows) (t : Int) : rowAt rows t = atI s.rids t := by rw [← ar_rids h]; exact (find_map _ t rows).symm
theorem colAt_atI (h : cols.map Cl.ac = s.cols) (t : Int) : colAt cols t = atI s.cids t := by rw [← ac_cids h]; exact (find_map _ t cols).symm
theorem rids_length (s : AS) : s.rids.length = s.rows.length := by simp [AS.rids]
theorem cids_length (s : AS) : s.cids.length = s.cols.length := by simp [AS.cids]
theorem rowV_atV (h : rows.map Rw.ar = s.rows) : rowV rows = atV s.rids := by
  funext t
  unfold rowV atV
  rw [rowAt_atI h, rids_length, ar_len h]
theorem colV_atV (h : cols.map Cl.ac = s.cols) : colV cols = atV s.cids := by
  funext t
  unfold colV atV
  rw [colAt_atI h, cids_length, ac_len h]
theorem lay_okQ (f : Int → Int) (en : Int) : ∀ (es : List Cl) (vs : List Rv) (seen : List Bool) (r : List Rv), layF f en es vs seen = .ok r → layQ f en (es.map Cl.ac) (vs.map (·.q)) seen = .ok (r.map (·.q))
  | [], vs, seen, r, h => by unfold layF at h; cases h; rfl
  | e :: es, vs, seen, r, h => by
    unfold layF at h
    rw [List.map_cons]
    unfold layQ
    rw [show e.ac.id = e.id from rfl, show e.ac.cost = e.cost.q from rfl]
    split at h
    · cases h
    · rename_i h1
      rw [if_neg h1]
      split at h
      · cases h
      · rename_i h2
        rw [if_neg h2]
        have := lay_okQ f en es _ _ r h
        rw [List.map_set] at this
        exact this
theorem lay_errQ (f : Int → Int) (en : Int) : ∀ (es : List Cl) (vs : List Rv) (seen : List Bool) (r : Int × Int), layF f en es vs seen = .error r → layQ f en (es.map Cl.ac) (vs.map (·.q)) seen = .error r
  | [], vs, seen, r, h => by unfold layF at h; cases h
  | e :: es, vs, seen, r, h => by
    unfold layF at h
    rw [List.map_cons]
    unfold layQ
    rw [show e.ac.id = e.id from rfl, show e.ac.cost = e.cost.q from rfl]
    split at h
    · rename_i h1
      rw [if_pos h1]
      cases h; rfl
    · rename_i h1
      rw [if_neg h1]
      split at h
      · rename_i h2
        rw [if_pos h2]
        cases h; rfl
      · rename_i h2
        rw [if_neg h2]
        have := lay_errQ f en es _ _ r h
        rw [List.map_set] at this
        exact this
theorem zeros_q (n : Nat) : (List.replicate n Rv.zero).map (·.q) = List.replicate n (0 : Rat) := by rw [List.map_replicate]; rfl
theorem addC_addQ : ∀ (rows : List Rw) (vs : List Rv), rows.length = vs.length → (addC rows vs).map Rw.ar = addQ (rows.map Rw.ar) (vs.map (·.q))
  | [], [], _ => rfl
  | [], v :: vs, h => by cases h
  | r :: rs, [], h => by cases h
  | r :: rs, v :: vs, h => by
    simp only [addC, List.map_cons, addQ, addC_addQ rs vs (by simpa using h)]
    simp [Rw.ar]
theorem Smalls.addC (h : Smalls rows cols) {vs : List Rv} (hv : ∀ v, v ∈ vs → v.small) : Smalls (addC rows vs) cols :=
  ⟨fun r hr => by obtain ⟨r2, v, h1, h2, h3, h4⟩ := addC_mem rows vs r hr; rw [h3]; exact h.rhs r2 h1,
   fun r hr u hu => by
    obtain ⟨r2, v, h1, h2, h3, h4⟩ := addC_mem rows vs r hr
    rw [h4] at hu
    rcases List.mem_append.1 hu with hu | hu
    · exact h.coef r2 h1 u hu
    · rw [List.mem_singleton.1 hu]; exact hv v h2, h.cost⟩
theorem set_upd {α β : Type} (g : α → β) (F : β → β) : ∀ (l : List α) (k : Nat) (x y : α), l[k]? = some x → g y = F (g x) → (l.set k y).map g = upd F (l.map g) k
  | [], _, _, _, h, _ => by simp at h
  | a :: r, 0, x, y, h, e => by simp at h; subst h; simp [upd, e]
  | a :: r, k + 1, x, y, h, e => by
    simp only [List.set_cons_succ, List.map_cons, upd]
    rw [set_upd g F r k x y (by simpa using h) e]
theorem Smalls.setRow (h : Smalls rows cols) (k : Nat) (r : Rw) (h1 : r.rhs.small) (h2 : ∀ v, v ∈ r.coef → v.small) : Smalls (rows.set k r) cols :=
  ⟨fun x hx => by
    rcases List.mem_or_eq_of_mem_set hx with h3 | rfl
    · exact h.rhs x h3
    · exact h1, fun x hx => by
    rcases List.mem_or_eq_of_mem_set hx with h3 | rfl
    · exact h.coef x h3
    · exact h2, h.cost⟩
theorem Smalls.setCol (h : Smalls rows cols) (k : Nat) (c : Cl) (h1 : c.cost.small) : Smalls rows (cols.set k c) :=
  ⟨h.rhs, h.coef, fun x hx => by
    rcases List.mem_or_eq_of_mem_set hx with h3 | rfl
    · exact h.cost x h3
    · exact h1⟩
end
def ErrV (w : World) (base : Nat) (f : Fl) (v : Value) : Prop :=
  (f = noF ∧ v = .nilIface) ∨ (f.2.1 = noWh ∧ f.2.2 = 0 ∧ f.1 ≠ 0 ∧ v = eE f.1) ∨ (f.1 ≠ 0 ∧ f.2.1.toList ≠ [] ∧ ∃ b, base ≤ b ∧ v = eF b ∧ IsF w b f.2.1 f.2.2 f.1)
theorem ErrV.nil0 (w : World) (base : Nat) : ErrV w base noF .nilIface := .inl ⟨rfl, rfl⟩
theorem ErrV.num (w : World) (base : Nat) {n : Int} (h : n ≠ 0) : ErrV w base (n, noWh, 0) (eE n) := .inr (.inl ⟨rfl, rfl, h, rfl⟩)
theorem ErrV.place {w : World} {base b : Nat} {n i : Int} {wh : ByteArray} (h : n ≠ 0) (hw : wh.toList ≠ []) (hb : base ≤ b) (hi : IsF w b wh i n) : ErrV w base (n, wh, i) (eF b) := .inr (.inr ⟨h, hw, b, hb, rfl, hi⟩)
theorem ErrV.keeps {w w' : World} {base : Nat} {f : Fl} {v : Value} {S : Nat → Prop} (h : ErrV w base f v) (hk : Keeps w w' S) (hs : ∀ k, base ≤ k → ¬ S k) : ErrV w' base f v := by
  rcases h with h | h | ⟨h1, h2, b, h3, h4, h5⟩
  · exact .inl h
  · exact .inr (.inl h)
  · have hl := h5.lt
    obtain ⟨c0, c1, c2⟩ := h5
    exact .inr (.inr ⟨h1, h2, b, h3, h4, (hk.cell (a := ⟨b, 0, none⟩) hl (hs b h3)).trans c0, (hk.cell (a := ⟨b, 1, none⟩) hl (hs b h3)).trans c1, (hk.cell (a := ⟨b, 2, none⟩) hl (hs b h3)).trans c2⟩)
theorem ErrV.below {w w' : World} {base : Nat} {f : Fl} {v : Value} (h : ErrV w base f v) (hb : Below w.heap.size w w') : ErrV w' base f v := by
  rcases h with h | h | ⟨h1, h2, b, h3, h4, h5⟩
  · exact .inl h
  · exact .inr (.inl h)
  · exact .inr (.inr ⟨h1, h2, b, h3, h4, h5.below hb h5.lt⟩)
theorem whRow_ne : whRow.toList ≠ [] := by decide +kernel
theorem whCol_ne : whCol.toList ≠ [] := by decide +kernel
def AddR (w : World) (sb : Nat) (G : Nat → Prop) (r : (Int × Fl) × AS) (e : Ending) (w' : World) : Prop :=
  ∃ v, e = .returned (.tuple #[.int .i64 r.1.1, v]) ∧ ErrV w' w.heap.size r.1.2 v ∧ SAct w sb G r.2 w'
def SetR (w : World) (sb : Nat) (G : Nat → Prop) (r : Fl × AS) (e : Ending) (w' : World) : Prop :=
  ∃ v, e = .returned v ∧ ErrV w' w.heap.size r.1 v ∧ SAct w sb G r.2 w'
theorem AddR.num {w w' : World} {sb : Nat} {G : Nat → Prop} {s : AS} {n : Int} {e : Ending} (h : SA w sb G s) (hn : n ≠ 0) (he : e = .returned (.tuple #[.int .i64 0, eE n]) ∧ Below w.heap.size w w') : AddR w sb G ((0, (n, noWh, 0)), s) e w' :=
  ⟨_, he.1, ErrV.num _ _ hn, SAct.of_below h he.2⟩
theorem AddR.fault {w w' : World} {sb : Nat} {G : Nat → Prop} {s : AS} {n i : Int} {wh : ByteArray} {e : Ending} (h : SA w sb G s) (hn : n ≠ 0) (hwh : wh.toList ≠ []) (he : FaultR w wh n i (fun x => .returned (.tuple #[.int .i64 0, x])) e w') : AddR w sb G ((0, (n, wh, i)), s) e w' := by
  obtain ⟨b, he, hi, hb, hl⟩ := he
  exact ⟨_, he, ErrV.place hn hwh hl hi, SAct.of_below h hb⟩
theorem SetR.num {w w' : World} {sb : Nat} {G : Nat → Prop} {s : AS} {n : Int} {e : Ending} (h : SA w sb G s) (hn : n ≠ 0) (he : e = .returned (eE n) ∧ Below w.heap.size w w') : SetR w sb G ((n, noWh, 0), s) e w' :=
  ⟨_, he.1, ErrV.num _ _ hn, SAct.of_below h he.2⟩
theorem SetR.fault {w w' : World} {sb : Nat} {G : Nat → Prop} {s : AS} {n i : Int} {wh : ByteArray} {e : Ending} (h : SA w sb G s) (hn : n ≠ 0) (hwh : wh.toList ≠ []) (he : FaultR w wh n i .returned e w') : SetR w sb G ((n, wh, i), s) e w' := by
  obtain ⟨b, he, hi, hb, hl⟩ := he
  exact ⟨_, he, ErrV.place hn hwh hl hi, SAct.of_below h hb⟩
theorem layQ_err {f : Int → Int} {en : Int} (hn : en ≠ 0) : ∀ (es : List AC) (vs : List Rat) (seen : List Bool) (r : Int × Int), layQ f en es vs seen = .error r → r.1 ≠ 0
  | [], vs, seen, r, h => by unfold layQ at h; cases h
  | e :: es, vs, seen, r, h => by
    unfold layQ at h
    split at h
    · cases h; exact hn
    · split at h
      · cases h; exact (by decide : (1 : Int) ≠ 0)
      · exact layQ_err hn es _ _ r h
section
variable {w : World} {sb : Nat} {G : Nat → Prop} {s : AS}
theorem as_addRow (h : SA w sb G s) (hw : WF s) (kd : Int) (v : Rv) (es : List Cl) (ea : Option Addr) (ec : Nat) (he : Sl w 4 (.slice ea es.length ec) es.length (es.flatMap colCells)) (hv : v.ok w) (hvs : v.small) (hes : ∀ e, e ∈ es → e.cost.ok w ∧ e.cost.small) (hlr : s.lr ≤ 4611686018427387904) :
    Calls Tryz.prog 15 #[.pointer (some ⟨sb, 0, none⟩), .int .i64 kd, .agg #[.bool v.s, .slice v.a v.l v.c, .slice v.b v.m v.d], .slice ea es.length ec] w (AddR w sb G (s.addRow kd v.q (es.map Cl.ac))) := by
  have hh := h
  obtain ⟨rows, cols, h1, h2, h3, h4⟩ := hh
  have e1 := ar_len h2
  have e2 := ac_len h3
  unfold AS.addRow
  by_cases hk : kd < 1 ∨ 3 < kd
  · rw [if_pos hk]
    exact (addRow_kind sb kd v ea es.length ec w hk).mono fun e w' hp => AddR.num h (by decide) hp
  · rw [if_neg hk]
    have k1 : 1 ≤ kd := by omega
    have k3 : kd ≤ 3 := by omega
    by_cases hl : 20 ≤ s.rows.length
    · rw [if_pos hl]
      exact (addRow_full sb G rows cols s.lr s.lc kd v ea es.length ec w h1 k1 k3 (by omega)).mono fun e w' hp => AddR.num h (by decide) hp
    · rw [if_neg hl]
      have hcl := hw.cl
      unfold AS.lay
      rw [← colV_atV h3, cids_length, ← e2, ← zeros_q]
      cases hr : layF (colV cols) 231 es (List.replicate cols.length Rv.zero) (List.replicate cols.length false) with
      | error r =>
        have hq := lay_errQ _ _ _ _ _ _ hr
        rw [hq]
        exact (addRow_fault sb G rows cols s.lr s.lc kd v es ea ec w h1 k1 k3 (by omega) (by omega) he r.1 r.2 hr).mono fun e w' hp => AddR.fault h (layQ_err (by decide) _ _ _ _ hq) whCol_ne hp
      | ok vs =>
        rw [lay_okQ _ _ _ _ _ _ hr]
        refine (addRow_ok sb G rows cols s.lr s.lc kd v es ea ec w h1 k1 k3 (by omega) (by omega) hw.lr0 hlr he hv (fun e hm => (hes e hm).1) vs hr).mono ?_
        rintro e w' ⟨rfl, cv, hst⟩
        refine ⟨_, rfl, ErrV.nil0 _ _, SAct.of hst rfl rfl ?_ h3 ?_⟩
        · dsimp only
          rw [List.map_append, h2]; rfl
        · refine ⟨fun r hr2 => ?_, fun r hr2 => ?_, h4.cost⟩
          · rcases List.mem_append.1 hr2 with hr2 | hr2
            · exact h4.rhs r hr2
            · rw [List.mem_singleton.1 hr2]; exact hvs
          · rcases List.mem_append.1 hr2 with hr2 | hr2
            · exact h4.coef r hr2
            · rw [List.mem_singleton.1 hr2]
              intro u hu
              rcases layF_mem _ _ _ _ hr u hu with h5 | ⟨x, hx, rfl⟩
              · rw [(List.mem_replicate.1 h5).2]; exact Rv.zero_small
              · exact (hes x hx).2
theorem as_addCol (h : SA w sb G s) (hw : WF s) (v : Rv) (es : List Cl) (ea : Option Addr) (ec : Nat) (he : Sl w 4 (.slice ea es.length ec) es.length (es.flatMap colCells)) (hv : v.ok w) (hvs : v.small) (hes : ∀ e, e ∈ es → e.cost.ok w ∧ e.cost.small) (hlr : s.lc ≤ 4611686018427387904) :
    Calls Tryz.prog 17 #[.pointer (some ⟨sb, 0, none⟩), .agg #[.bool v.s, .slice v.a v.l v.c, .slice v.b v.m v.d], .slice ea es.length ec] w (AddR w sb G (s.addCol v.q (es.map Cl.ac))) := by
  have hh := h
  obtain ⟨rows, cols, h1, h2, h3, h4⟩ := hh
  have e1 := ar_len h2
  have e2 := ac_len h3
  unfold AS.addCol
  by_cases hl : 24 ≤ s.cols.length
  · rw [if_pos hl]
    exact (addCol_full sb G rows cols s.lr s.lc v ea es.length ec w h1 (by omega)).mono fun e w' hp => AddR.num h (by decide) hp
  · rw [if_neg hl]
    have hrl := hw.rl
    have hcl := hw.cl
    unfold AS.lay
    rw [← rowV_atV h2, rids_length, ← e1, ← zeros_q]
    cases hr : layF (rowV rows) 230 es (List.replicate rows.length Rv.zero) (List.replicate rows.length false) with
    | error r =>
      have hq := lay_errQ _ _ _ _ _ _ hr
      rw [hq]
      exact (addCol_fault sb G rows cols s.lr s.lc v es ea ec w h1 (by omega) (by omega) he r.1 r.2 hr).mono fun e w' hp => AddR.fault h (layQ_err (by decide) _ _ _ _ hq) whRow_ne hp
    | ok vs =>
      rw [lay_okQ _ _ _ _ _ _ hr]
      have hvl := layF_len _ _ _ _ hr
      rw [List.length_replicate] at hvl
      refine (addCol_ok sb G rows cols s.lr s.lc v es ea ec w h1 (by omega) (by omega) hw.lc0 hlr (fun r hr => by have := ar_coef hw h2 h3 hr; omega) he hv (fun e hm => (hes e hm).1) vs hr).mono ?_
      rintro e w' ⟨rfl, rows', hbr, hst⟩
      have hvs2 : ∀ u, u ∈ vs → u.small := by
        intro u hu
        rcases layF_mem _ _ _ _ hr u hu with h5 | ⟨x, hx, rfl⟩
        · rw [(List.mem_replicate.1 h5).2]; exact Rv.zero_small
        · exact (hes x hx).2
      refine ⟨_, rfl, ErrV.nil0 _ _, SAct.of hst rfl rfl ?_ ?_ ?_⟩
      · dsimp only
        rw [bare_ar hbr, addC_addQ _ _ hvl.symm, h2]
      · dsimp only
        rw [List.map_append, h3]; rfl
      · have h5 := (h4.addC hvs2).bare hbr
        refine ⟨h5.rhs, h5.coef, fun c hc => ?_⟩
        rcases List.mem_append.1 hc with hc | hc
        · exact h4.cost c hc
        · rw [List.mem_singleton.1 hc]; exact hvs
theorem as_dropRow (h : SA w sb G s) (hw : WF s) (id : Int) : Calls Tryz.prog 19 #[.pointer (some ⟨sb, 0, none⟩), .int .i64 id] w (SetR w sb G (s.dropRow id)) := by
  have hh := h
  obtain ⟨rows, cols, h1, h2, h3, h4⟩ := hh
  unfold AS.dropRow
  rw [← rowAt_atI h2, ← ar_len h2]
  by_cases hl : rowAt rows id < rows.length
  · rw [if_pos hl]
    refine (dropRow_ok sb G rows cols s.lr s.lc id w h1 hl).mono ?_
    rintro e w' ⟨rfl, hst⟩
    refine ⟨_, rfl, ErrV.nil0 _ _, SAct.of hst rfl rfl ?_ h3 (h4.sub (fun r hr => List.mem_of_mem_eraseIdx hr) fun c hc => hc)⟩
    dsimp only
    rw [erase_map, h2]
  · rw [if_neg hl]
    exact (dropRow_none sb G rows cols s.lr s.lc id w h1 hl).mono fun e w' hp => SetR.fault h (by decide) whRow_ne hp
theorem as_dropCol (h : SA w sb G s) (hw : WF s) (id : Int) : Calls Tryz.prog 20 #[.pointer (some ⟨sb, 0, none⟩), .int .i64 id] w (SetR w sb G (s.dropCol id)) := by
  have hh := h
  obtain ⟨rows, cols, h1, h2, h3, h4⟩ := hh
  have hcl := hw.cl
  have e2 := ac_len h3
  unfold AS.dropCol
  rw [← colAt_atI h3, ← ac_len h3]
  by_cases hl : colAt cols id < cols.length
  · rw [if_pos hl]
    refine (dropCol_ok sb G rows cols s.lr s.lc id w h1 hl (fun r hr => by have := ar_coef hw h2 h3 hr; omega)).mono ?_
    rintro e w' ⟨rfl, rows', hbr, hst⟩
    refine ⟨_, rfl, ErrV.nil0 _ _, SAct.of hst rfl rfl ?_ ?_ ?_⟩
    · dsimp only
      rw [bare_ar hbr, ← h2, List.map_map, List.map_map]
      refine List.map_congr_left fun r hr => ?_
      simp only [Function.comp, dropC, Rw.ar, erase_map]
    · dsimp only
      rw [erase_map, h3]
    · refine Smalls.bare (rows := rows.map (dropC (colAt cols id))) ⟨fun r hr => ?_, fun r hr v hv => ?_, fun c hc => h4.cost c (List.mem_of_mem_eraseIdx hc)⟩ hbr
      · obtain ⟨r2, hr2, rfl⟩ := List.mem_map.1 hr
        exact h4.rhs r2 hr2
      · obtain ⟨r2, hr2, rfl⟩ := List.mem_map.1 hr
        exact h4.coef r2 hr2 v (List.mem_of_mem_eraseIdx hv)
  · rw [if_neg hl]
    exact (dropCol_none sb G rows cols s.lr s.lc id w h1 hl).mono fun e w' hp => SetR.fault h (by decide) whCol_ne hp
theorem as_setCoef (h : SA w sb G s) (hw : WF s) (id jd : Int) (v : Rv) (hv : v.ok w) (hvs : v.small) : Calls Tryz.prog 27 #[.pointer (some ⟨sb, 0, none⟩), .int .i64 id, .int .i64 jd, .agg #[.bool v.s, .slice v.a v.l v.c, .slice v.b v.m v.d]] w (SetR w sb G (s.setCoef id jd v.q)) := by
  have hh := h
  obtain ⟨rows, cols, h1, h2, h3, h4⟩ := hh
  unfold AS.setCoef
  rw [← rowAt_atI h2, ← ar_len h2, ← colAt_atI h3, ← ac_len h3]
  by_cases hl : rowAt rows id < rows.length
  · rw [if_pos hl]
    by_cases hj : colAt cols jd < cols.length
    · rw [if_pos hj]
      have hg := List.getElem?_eq_getElem hl
      have hm : rows[rowAt rows id] ∈ rows := List.getElem_mem hl
      have hr1 := h4.rhs _ hm
      have hr2 := h4.coef _ hm
      refine (setCoef_ok sb G rows cols s.lr s.lc id jd v w h1 hv _ hg hj (ar_coef hw h2 h3 hm)).mono ?_
      rintro e w' ⟨rfl, hst⟩
      refine ⟨_, rfl, ErrV.nil0 _ _, SAct.of hst rfl rfl ?_ h3 (h4.setRow _ _ hr1 fun u hu => ?_)⟩
      · dsimp only
        rw [← h2]
        refine set_upd Rw.ar _ _ _ _ _ hg ?_
        simp [Rw.ar, List.map_set]
      · rcases List.mem_or_eq_of_mem_set hu with h5 | rfl
        · exact h4.coef _ hm u h5
        · exact hvs
    · rw [if_neg hj]
      exact (setCoef_noCol sb G rows cols s.lr s.lc id jd v w h1 hl hj).mono fun e w' hp => SetR.fault h (by decide) whCol_ne hp
  · rw [if_neg hl]
    exact (setCoef_noRow sb G rows cols s.lr s.lc id jd v w h1 hl).mono fun e w' hp => SetR.fault h (by decide) whRow_ne hp
theorem as_setRhs (h : SA w sb G s) (id : Int) (v : Rv) (hv : v.ok w) (hvs : v.small) : Calls Tryz.prog 28 #[.pointer (some ⟨sb, 0, none⟩), .int .i64 id, .agg #[.bool v.s, .slice v.a v.l v.c, .slice v.b v.m v.d]] w (SetR w sb G (s.setRhs id v.q)) := by
  have hh := h
  obtain ⟨rows, cols, h1, h2, h3, h4⟩ := hh
  unfold AS.setRhs
  rw [← rowAt_atI h2, ← ar_len h2]
  by_cases hl : rowAt rows id < rows.length
  · rw [if_pos hl]
    have hg := List.getElem?_eq_getElem hl
    have hm : rows[rowAt rows id] ∈ rows := List.getElem_mem hl
    have hr1 := h4.rhs _ hm
    have hr2 := h4.coef _ hm
    refine (setRhs_ok sb G rows cols s.lr s.lc id v w h1 _ hg hv).mono ?_
    rintro e w' ⟨rfl, hst⟩
    refine ⟨_, rfl, ErrV.nil0 _ _, SAct.of hst rfl rfl ?_ h3 (h4.setRow _ _ hvs hr2)⟩
    dsimp only
    rw [← h2]
    exact set_upd Rw.ar _ _ _ _ _ hg rfl
  · rw [if_neg hl]
    exact (setRhs_none sb G rows cols s.lr s.lc id v w h1 hl).mono fun e w' hp => SetR.fault h (by decide) whRow_ne hp
theorem as_setKind (h : SA w sb G s) (id kd : Int) : Calls Tryz.prog 47 #[.pointer (some ⟨sb, 0, none⟩), .int .i64 id, .int .i64 kd] w (SetR w sb G (s.setKind id kd)) := by
  have hh := h
  obtain ⟨rows, cols, h1, h2, h3, h4⟩ := hh
  unfold AS.setKind
  rw [← rowAt_atI h2, ← ar_len h2]
  by_cases hl : rowAt rows id < rows.length
  · rw [if_pos hl]
    by_cases hk : kd < 1 ∨ 3 < kd
    · rw [if_pos hk]
      exact (setKind_kind sb G rows cols s.lr s.lc id kd w h1 hl hk).mono fun e w' hp => SetR.num h (by decide) hp
    · rw [if_neg hk]
      have hg := List.getElem?_eq_getElem hl
      have hm : rows[rowAt rows id] ∈ rows := List.getElem_mem hl
      have hr1 := h4.rhs _ hm
      have hr2 := h4.coef _ hm
      refine (setKind_ok sb G rows cols s.lr s.lc id kd w h1 _ hg (by omega) (by omega)).mono ?_
      rintro e w' ⟨rfl, hst⟩
      refine ⟨_, rfl, ErrV.nil0 _ _, SAct.of hst rfl rfl ?_ h3 (h4.setRow _ _ hr1 hr2)⟩
      dsimp only
      rw [← h2]
      exact set_upd Rw.ar _ _ _ _ _ hg rfl
  · rw [if_neg hl]
    exact (setKind_none sb G rows cols s.lr s.lc id kd w h1 hl).mono fun e w' hp => SetR.fault h (by decide) whRow_ne hp
theorem as_setCost (h : SA w sb G s) (id : Int) (v : Rv) (hv : v.ok w) (hvs : v.small) : Calls Tryz.prog 36 #[.pointer (some ⟨sb, 0, none⟩), .int .i64 id, .agg #[.bool v.s, .slice v.a v.l v.c, .slice v.b v.m v.d]] w (SetR w sb G (s.setCost id v.q)) := by
  have hh := h
  obtain ⟨rows, cols, h1, h2, h3, h4⟩ := hh
  unfold AS.setCost
  rw [← colAt_atI h3, ← ac_len h3]
  by_cases hl : colAt cols id < cols.length
  · rw [if_pos hl]
    have hg := List.getElem?_eq_getElem hl
    refine (setCost_ok sb G rows cols s.lr s.lc id v w h1 _ hg hv).mono ?_
    rintro e w' ⟨rfl, hst⟩
    refine ⟨_, rfl, ErrV.nil0 _ _, SAct.of hst rfl rfl h2 ?_ (h4.setCol _ _ hvs)⟩
    dsimp only
    rw [← h3]
    exact set_upd Cl.ac _ _ _ _ _ hg rfl
  · rw [if_neg hl]
    exact (setCost_none sb G rows cols s.lr s.lc id v w h1 hl).mono fun e w' hp => SetR.fault h (by decide) whCol_ne hp
theorem as_rows (h : SA w sb G s) (hw : WF s) : Calls Tryz.prog 13 #[.pointer (some ⟨sb, 0, none⟩)] w (OwnR w 3 1 s.rids.length (s.rids.map IV)) := by
  obtain ⟨rows, cols, h1, h2, h3, h4⟩ := h
  have e1 := ar_len h2
  have l1 := hw.rl
  have h5 := rows_any sb G rows cols s.lr s.lc w h1 (by omega)
  rw [rids_length, ← e1, ← ar_rids h2, List.map_map]
  exact h5
theorem as_cols (h : SA w sb G s) (hw : WF s) : Calls Tryz.prog 14 #[.pointer (some ⟨sb, 0, none⟩)] w (OwnR w 3 1 s.cids.length (s.cids.map IV)) := by
  obtain ⟨rows, cols, h1, h2, h3, h4⟩ := h
  have e1 := ac_len h3
  have l1 := hw.cl
  have h5 := cols_any sb G rows cols s.lr s.lc w h1 (by omega)
  rw [cids_length, ← e1, ← ac_cids h3, List.map_map]
  exact h5
end
def sumR : List Rat → Nat
  | [] => 0
  | q :: r => sizeQ q + sumR r
def AR.bits (r : AR) : Nat := sizeQ r.rhs + sumR r.coef
def sumAR : List AR → Nat
  | [] => 0
  | r :: l => r.bits + sumAR l
def AS.bits (s : AS) : Nat := sumR (s.cols.map (·.cost)) + sumAR s.rows
theorem sumQ_R : ∀ l : List Rv, sumQ l = sumR (l.map (·.q))
  | [] => rfl
  | v :: r => by simp only [sumQ, List.map_cons, sumR, sumQ_R r]
theorem sumRows_AR : ∀ l : List Rw, sumRows l = sumAR (l.map Rw.ar)
  | [] => rfl
  | r :: l => by simp only [sumRows, List.map_cons, sumAR, sumRows_AR l, sumRow, AR.bits, sumQ_R]; rfl
section
variable {w : World} {sb : Nat} {G : Nat → Prop} {s : AS}
theorem as_bits (h : SA w sb G s) (hw : WF s) : Calls Tryz.prog 21 #[.pointer (some ⟨sb, 0, none⟩)] w fun e w' => e = .returned (.int .i64 (s.bits : Int)) ∧ Below w.heap.size w w' := by
  obtain ⟨rows, cols, h1, h2, h3, h4⟩ := h
  have h5 := bits_any sb G rows cols s.lr s.lc w h1 (few_of hw h2 h3 h4)
  have e : sumAll rows cols = s.bits := by
    unfold sumAll AS.bits
    rw [sumQ_R, sumRows_AR, h2, ← h3, List.map_map, List.map_map]; rfl
  rw [e] at h5
  exact h5
def FreshS (w : World) (s : AS) (e : Ending) (w' : World) : Prop :=
  ∃ cb G, e = .returned (.pointer (some ⟨cb, 0, none⟩)) ∧ SA w' cb G s ∧ (∀ k, G k → w.heap.size ≤ k) ∧ Below w.heap.size w w'
theorem as_new (w : World) : Calls Tryz.prog 11 #[] w (FreshS w ⟨[], [], 0, 0⟩) := by
  refine (snew_any w).mono ?_
  rintro e w' ⟨cb, G', he, hs, hg, hbe⟩
  exact ⟨cb, G', he, ⟨[], [], hs, rfl, rfl, ⟨fun r h => (by cases h), fun r h => (by cases h), fun r h => (by cases h)⟩⟩, hg, hbe⟩
structure PA (w : World) (F : Nat → Prop) (ca ra : Option Addr) (cc rc : Nat) (cs : List Rv) (rows : List Rw) (c : List Rat) (rs : List AR) : Prop where
  pw : PW w F ca ra cc rc cs rows
  noW : ∀ k, F k → ¬ WordB w k
  cost : cs.map (·.q) = c
  rws : rows.map Rw.ar = rs
  okc : ∀ v, v ∈ cs → v.ok w ∧ v.small
  okr : ∀ r, r ∈ rows → r.rhs.ok w ∧ r.rhs.small
  okv : ∀ r, r ∈ rows → ∀ v, v ∈ r.coef → v.ok w ∧ v.small
def ProbA (w : World) (c : List Rat) (rs : List AR) (e : Ending) (w' : World) : Prop :=
  ∃ F ca ra cc rc cs rows, e = .returned (.agg #[.slice ca cs.length cc, .slice ra rows.length rc]) ∧ PA w' F ca ra cc rc cs rows c rs ∧ (∀ k, F k → w.heap.size ≤ k) ∧ Below w.heap.size w w'
theorem pPs_types {cv rv : Value} {cs : List Rv} {rows : List Rw} : ∀ p, p ∈ pPs cv rv cs rows → p.e ≠ 157 := fun p hp => by
  simp only [pPs, List.mem_cons, List.mem_map] at hp
  rcases hp with rfl | rfl | ⟨r, _, rfl⟩
  · exact (by decide : (51 : Nat) ≠ 157)
  · exact (by decide : (82 : Nat) ≠ 157)
  · exact (by decide : (51 : Nat) ≠ 157)
theorem PW.exact {w : World} {F : Nat → Prop} {ca ra : Option Addr} {cc rc : Nat} {cs : List Rv} {rows : List Rw} (h : PW w F ca ra cc rc cs rows) : PW w (Foot (pPs (.slice ca cs.length cc) (.slice ra rows.length rc) cs rows)) ca ra cc rc cs rows :=
  ⟨h.1, fun _ h => h, h.1.lt⟩
theorem own_noW {w : World} {ps : List Pc} (h : Own w ps) (he : ∀ p, p ∈ ps → p.e ≠ 157) : ∀ k, Foot ps k → ¬ WordB w k := fun k ⟨p, hp, hv⟩ => mid_type (h.1 p hp) (he p hp) k hv
theorem as_prob (h : SA w sb G s) (hw : WF s) : Calls Tryz.prog 30 #[.pointer (some ⟨sb, 0, none⟩)] w (ProbA w (s.cols.map (·.cost)) s.rows) := by
  obtain ⟨rows, cols, h1, h2, h3, h4⟩ := h
  have hf := few_of hw h2 h3 h4
  have hn := h1.nums
  refine (prob_any sb G rows cols s.lr s.lc w h1 hf.nr hf.nc hf.len).mono ?_
  rintro e w' ⟨F, ca, ra, cc, rc, rows', he, hb, hp, hg, hbe⟩
  have hn2 := (hn.below hbe).bare hb
  have h5 := h4.bare hb
  refine ⟨_, ca, ra, cc, rc, _, rows', he, ⟨hp.exact, own_noW hp.1 pPs_types, ?_, (bare_ar hb).trans h2, fun v hv => ?_, fun r hr => ⟨hn2.rhs r hr, h5.rhs r hr⟩, fun r hr v hv => ⟨hn2.coef r hr v hv, h5.coef r hr v hv⟩⟩, fun k hk => hg k (hp.2.1 k hk), hbe⟩
  · rw [← h3, List.map_map, List.map_map]; rfl
  · obtain ⟨c, hc, rfl⟩ := List.mem_map.1 hv
    exact ⟨hn2.cost c hc, h5.cost c hc⟩
end
end Go.Proofs.YtaehklhbokocbaaGreatDoor
namespace Go.Proofs.YtaehklhbokocbaaGreatDoor
open Go.RowKit Go.Extern.Stop Go.Stop Go.Extern
def BoolR (w : World) (p : Prop) (e : Ending) (w' : World) : Prop := ∃ b, e = .returned (.bool b) ∧ (p → b = true) ∧ Below w.heap.size w w'
set_option maxHeartbeats 2000000 in
theorem told_no1 (v : Value) (n k m j : Int) (is : Bool) (s t : ByteArray) (w : World) (hP : Calls Tryz.prog 76 #[v] w fun e w' => e = .returned (.tuple #[.string s, .int .i64 k, .bool is]) ∧ Below w.heap.size w w')
    (hN : ∀ W, Below w.heap.size w W → Calls Tryz.prog 77 #[v] W fun e w' => e = .returned (.int .i64 n) ∧ Below W.heap.size W w') (h0 : n ≠ m) :
    Calls Tryz.prog 38 #[v, .int .i64 m, .string t, .int .i64 j] w fun e w' => e = .returned (.bool false) ∧ Below w.heap.size w w' := by
  have HP := Lib.hid hP
  have HN := Lib.hid hN
  clear hP hN
  (try subst h0)
  (try subst his)
  (try subst hkj)
  go_enter Tryz.func38, Tryz.ntmps38
  go_wp2_with fail
  refine HP.out.mono ?_
  rintro e w1 ⟨rfl, hb⟩
  have HB := Lib.hid hb
  clear hb
  go_wp2_with fail
  refine (HN.out _ HB.out).mono ?_
  rintro e w2 ⟨rfl, hb2⟩
  have HB2 := Lib.hid hb2
  clear hb2
  go_wp2
  go_ret
  exact ⟨rfl, HB.out.trans (HB2.out.mono HB.out.size)⟩
set_option maxHeartbeats 2000000 in
theorem told_no2 (v : Value) (n k m j : Int) (is : Bool) (s t : ByteArray) (w : World) (hP : Calls Tryz.prog 76 #[v] w fun e w' => e = .returned (.tuple #[.string s, .int .i64 k, .bool is]) ∧ Below w.heap.size w w')
    (hN : ∀ W, Below w.heap.size w W → Calls Tryz.prog 77 #[v] W fun e w' => e = .returned (.int .i64 n) ∧ Below W.heap.size W w') (h0 : n = m) (his : is = true) (ht : t.toList.isEmpty = true) :
    Calls Tryz.prog 38 #[v, .int .i64 m, .string t, .int .i64 j] w fun e w' => e = .returned (.bool false) ∧ Below w.heap.size w w' := by
  have HP := Lib.hid hP
  have HN := Lib.hid hN
  clear hP hN
  (try subst h0)
  (try subst his)
  (try subst hkj)
  go_enter Tryz.func38, Tryz.ntmps38
  go_wp2_with fail
  refine HP.out.mono ?_
  rintro e w1 ⟨rfl, hb⟩
  have HB := Lib.hid hb
  clear hb
  go_wp2_with fail
  refine (HN.out _ HB.out).mono ?_
  rintro e w2 ⟨rfl, hb2⟩
  have HB2 := Lib.hid hb2
  clear hb2
  go_wp2
  go_ret
  exact ⟨rfl, HB.out.trans (HB2.out.mono HB.out.size)⟩
set_option maxHeartbeats 2000000 in
theorem told_no3 (v : Value) (n k m j : Int) (is : Bool) (s t : ByteArray) (w : World) (hP : Calls Tryz.prog 76 #[v] w fun e w' => e = .returned (.tuple #[.string s, .int .i64 k, .bool is]) ∧ Below w.heap.size w w')
    (hN : ∀ W, Below w.heap.size w W → Calls Tryz.prog 77 #[v] W fun e w' => e = .returned (.int .i64 n) ∧ Below W.heap.size W w') (h0 : n = m) (his : is = false) (ht : t.toList.isEmpty = false) :
    Calls Tryz.prog 38 #[v, .int .i64 m, .string t, .int .i64 j] w fun e w' => e = .returned (.bool false) ∧ Below w.heap.size w w' := by
  have HP := Lib.hid hP
  have HN := Lib.hid hN
  clear hP hN
  (try subst h0)
  (try subst his)
  (try subst hkj)
  go_enter Tryz.func38, Tryz.ntmps38
  go_wp2_with fail
  refine HP.out.mono ?_
  rintro e w1 ⟨rfl, hb⟩
  have HB := Lib.hid hb
  clear hb
  go_wp2_with fail
  refine (HN.out _ HB.out).mono ?_
  rintro e w2 ⟨rfl, hb2⟩
  have HB2 := Lib.hid hb2
  clear hb2
  go_wp2
  go_ret
  exact ⟨rfl, HB.out.trans (HB2.out.mono HB.out.size)⟩
set_option maxHeartbeats 2000000 in
theorem told_yes1 (v : Value) (n k m j : Int) (is : Bool) (s t : ByteArray) (w : World) (hP : Calls Tryz.prog 76 #[v] w fun e w' => e = .returned (.tuple #[.string s, .int .i64 k, .bool is]) ∧ Below w.heap.size w w')
    (hN : ∀ W, Below w.heap.size w W → Calls Tryz.prog 77 #[v] W fun e w' => e = .returned (.int .i64 n) ∧ Below W.heap.size W w') (h0 : n = m) (his : is = false) (ht : t.toList.isEmpty = true) :
    Calls Tryz.prog 38 #[v, .int .i64 m, .string t, .int .i64 j] w fun e w' => e = .returned (.bool true) ∧ Below w.heap.size w w' := by
  have HP := Lib.hid hP
  have HN := Lib.hid hN
  clear hP hN
  (try subst h0)
  (try subst his)
  (try subst hkj)
  go_enter Tryz.func38, Tryz.ntmps38
  go_wp2_with fail
  refine HP.out.mono ?_
  rintro e w1 ⟨rfl, hb⟩
  have HB := Lib.hid hb
  clear hb
  go_wp2_with fail
  refine (HN.out _ HB.out).mono ?_
  rintro e w2 ⟨rfl, hb2⟩
  have HB2 := Lib.hid hb2
  clear hb2
  go_wp2
  go_ret
  exact ⟨rfl, HB.out.trans (HB2.out.mono HB.out.size)⟩
set_option maxHeartbeats 2000000 in
theorem told_no4 (v : Value) (n k m j : Int) (is : Bool) (s t : ByteArray) (w : World) (hP : Calls Tryz.prog 76 #[v] w fun e w' => e = .returned (.tuple #[.string s, .int .i64 k, .bool is]) ∧ Below w.heap.size w w')
    (hN : ∀ W, Below w.heap.size w W → Calls Tryz.prog 77 #[v] W fun e w' => e = .returned (.int .i64 n) ∧ Below W.heap.size W w') (h0 : n = m) (his : is = true) (ht : t.toList.isEmpty = false) (hst : ¬ s.toList = t.toList) :
    Calls Tryz.prog 38 #[v, .int .i64 m, .string t, .int .i64 j] w fun e w' => e = .returned (.bool false) ∧ Below w.heap.size w w' := by
  have HP := Lib.hid hP
  have HN := Lib.hid hN
  clear hP hN
  (try subst h0)
  (try subst his)
  (try subst hkj)
  go_enter Tryz.func38, Tryz.ntmps38
  go_wp2_with fail
  refine HP.out.mono ?_
  rintro e w1 ⟨rfl, hb⟩
  have HB := Lib.hid hb
  clear hb
  go_wp2_with fail
  refine (HN.out _ HB.out).mono ?_
  rintro e w2 ⟨rfl, hb2⟩
  have HB2 := Lib.hid hb2
  clear hb2
  go_wp2
  go_ret
  exact ⟨rfl, HB.out.trans (HB2.out.mono HB.out.size)⟩
set_option maxHeartbeats 2000000 in
theorem told_no5 (v : Value) (n k m j : Int) (is : Bool) (s t : ByteArray) (w : World) (hP : Calls Tryz.prog 76 #[v] w fun e w' => e = .returned (.tuple #[.string s, .int .i64 k, .bool is]) ∧ Below w.heap.size w w')
    (hN : ∀ W, Below w.heap.size w W → Calls Tryz.prog 77 #[v] W fun e w' => e = .returned (.int .i64 n) ∧ Below W.heap.size W w') (h0 : n = m) (his : is = true) (ht : t.toList.isEmpty = false) (hst : s.toList = t.toList) (hkj : k ≠ j) :
    Calls Tryz.prog 38 #[v, .int .i64 m, .string t, .int .i64 j] w fun e w' => e = .returned (.bool false) ∧ Below w.heap.size w w' := by
  have HP := Lib.hid hP
  have HN := Lib.hid hN
  clear hP hN
  (try subst h0)
  (try subst his)
  (try subst hkj)
  go_enter Tryz.func38, Tryz.ntmps38
  go_wp2_with fail
  refine HP.out.mono ?_
  rintro e w1 ⟨rfl, hb⟩
  have HB := Lib.hid hb
  clear hb
  go_wp2_with fail
  refine (HN.out _ HB.out).mono ?_
  rintro e w2 ⟨rfl, hb2⟩
  have HB2 := Lib.hid hb2
  clear hb2
  go_wp2
  go_ret
  exact ⟨by simp [hkj], HB.out.trans (HB2.out.mono HB.out.size)⟩
set_option maxHeartbeats 2000000 in
theorem told_yes2 (v : Value) (n k m j : Int) (is : Bool) (s t : ByteArray) (w : World) (hP : Calls Tryz.prog 76 #[v] w fun e w' => e = .returned (.tuple #[.string s, .int .i64 k, .bool is]) ∧ Below w.heap.size w w')
    (hN : ∀ W, Below w.heap.size w W → Calls Tryz.prog 77 #[v] W fun e w' => e = .returned (.int .i64 n) ∧ Below W.heap.size W w') (h0 : n = m) (his : is = true) (ht : t.toList.isEmpty = false) (hst : s.toList = t.toList) (hkj : k = j) :
    Calls Tryz.prog 38 #[v, .int .i64 m, .string t, .int .i64 j] w fun e w' => e = .returned (.bool true) ∧ Below w.heap.size w w' := by
  have HP := Lib.hid hP
  have HN := Lib.hid hN
  clear hP hN
  (try subst h0)
  (try subst his)
  (try subst hkj)
  go_enter Tryz.func38, Tryz.ntmps38
  go_wp2_with fail
  refine HP.out.mono ?_
  rintro e w1 ⟨rfl, hb⟩
  have HB := Lib.hid hb
  clear hb
  go_wp2_with fail
  refine (HN.out _ HB.out).mono ?_
  rintro e w2 ⟨rfl, hb2⟩
  have HB2 := Lib.hid hb2
  clear hb2
  go_wp2
  go_ret
  exact ⟨rfl, HB.out.trans (HB2.out.mono HB.out.size)⟩
theorem told_gen (v : Value) (n k m j : Int) (is : Bool) (s t : ByteArray) (w : World) (hP : Calls Tryz.prog 76 #[v] w fun e w' => e = .returned (.tuple #[.string s, .int .i64 k, .bool is]) ∧ Below w.heap.size w w')
    (hN : ∀ W, Below w.heap.size w W → Calls Tryz.prog 77 #[v] W fun e w' => e = .returned (.int .i64 n) ∧ Below W.heap.size W w') (hi : is = !s.toList.isEmpty) (hk : is = false → k = 0) :
    Calls Tryz.prog 38 #[v, .int .i64 m, .string t, .int .i64 j] w (BoolR w ((n, s, k) = (m, t, j))) := by
  have hno : ∀ {e : Ending} {w' : World}, (¬ (n, s, k) = (m, t, j)) → (e = .returned (.bool false) ∧ Below w.heap.size w w') → BoolR w ((n, s, k) = (m, t, j)) e w' := fun h0 h => ⟨false, h.1, fun h3 => absurd h3 h0, h.2⟩
  have hin : (n, s, k) = (m, t, j) → n = m ∧ s = t ∧ k = j := fun h => by cases h; exact ⟨rfl, rfl, rfl⟩
  by_cases h0 : n = m
  · cases hs : is with
    | true =>
      cases ht : t.toList.isEmpty with
      | true => exact (told_no2 v n k m j is s t w hP hN h0 hs ht).mono fun e w' h => hno (fun h3 => by
          have := (hin h3).2.1; subst this; rw [ht, hs] at hi; cases hi) h
      | false =>
        by_cases hst : s.toList = t.toList
        · by_cases hkj : k = j
          · exact (told_yes2 v n k m j is s t w hP hN h0 hs ht hst hkj).mono fun e w' h => ⟨true, h.1, fun _ => rfl, h.2⟩
          · exact (told_no5 v n k m j is s t w hP hN h0 hs ht hst hkj).mono fun e w' h => hno (fun h3 => hkj (hin h3).2.2) h
        · exact (told_no4 v n k m j is s t w hP hN h0 hs ht hst).mono fun e w' h => hno (fun h3 => hst (by rw [(hin h3).2.1])) h
    | false =>
      cases ht : t.toList.isEmpty with
      | true => exact (told_yes1 v n k m j is s t w hP hN h0 hs ht).mono fun e w' h => ⟨true, h.1, fun _ => rfl, h.2⟩
      | false => exact (told_no3 v n k m j is s t w hP hN h0 hs ht).mono fun e w' h => hno (fun h3 => by
          have := (hin h3).2.1; subst this; rw [ht, hs] at hi; cases hi) h
  · exact (told_no1 v n k m j is s t w hP hN h0).mono fun e w' h => hno (fun h3 => h0 (hin h3).1) h
theorem noWh_nil : false = !(ByteArray.toList ⟨#[]⟩).isEmpty := by decide +kernel
theorem told_any (f g : Fl) (v : Value) (base : Nat) (w : World) (hg : Hg w) (h : ErrV w base f v) :
    Calls Tryz.prog 38 #[v, .int .i64 g.1, .string g.2.1, .int .i64 g.2.2] w (BoolR w (f = g)) := by
  obtain ⟨fn, fs, fk⟩ := f
  obtain ⟨gn, gs, gk⟩ := g
  rcases h with ⟨h1, rfl⟩ | ⟨h1, h2, h3, rfl⟩ | ⟨h1, h2, b, h3, rfl, hi⟩
  · cases h1
    exact told_gen _ 0 0 gn gk false ⟨#[]⟩ gs w (place_nil w) (fun W hb => number_nil W) noWh_nil (fun _ => rfl)
  · dsimp only at h1 h2
    subst h1 h2
    exact told_gen _ fn 0 gn gk false ⟨#[]⟩ gs w (place_E fn w hg) (fun W hb => number_E fn W (hg.below hb hg.lt)) noWh_nil (fun _ => rfl)
  · have hl := hi.lt
    exact told_gen _ fn fk gn gk true fs gs w (place_F b fs fk fn w hg hi) (fun W hb => number_F b fn W (hg.below hb hg.lt) (hi.below hb hl).2.2) (by dsimp only at h2; cases hx : fs.toList.isEmpty with | true => exact absurd (List.isEmpty_iff.1 hx) h2 | false => rfl) (fun h => by cases h)
def fV (f : Fl) : Value := .agg #[.int .i64 f.1, .string f.2.1, .int .i64 f.2.2]
set_option maxHeartbeats 1000000 in
theorem ltold_any (f g : Fl) (v : Value) (base : Nat) (w : World) (hg : Hg w) (h : ErrV w base f v) : Calls Tryz.prog 41 #[v, fV g] w (BoolR w (f = g)) := by
  have HT := Lib.hid (fun W (hb : Below w.heap.size w W) => told_any f g v base W (hg.below hb hg.lt) (h.below hb))
  clear h hg
  obtain ⟨gn, gs, gk⟩ := g
  unfold fV
  go_enter Tryz.func41, Tryz.ntmps41
  go_wp2_with fail
  refine (HT.out _ (belowBox w _)).mono ?_
  rintro e w1 ⟨b, rfl, hp, hb⟩
  have HP := Lib.hid hp
  have HB := Lib.hid hb
  clear hp hb
  go_wp2
  go_ret
  exact ⟨b, rfl, HP.out, bthen (belowBox w _) HB.out⟩
def I64 (x : Int) : Prop := -9223372036854775808 ≤ x ∧ x ≤ 9223372036854775807
theorem fracQ_small {v : Int × Int} (h1 : I64 v.1) (h2 : I64 v.2) : lenW (fracQ v).num.natAbs ≤ 1 ∧ lenW (fracQ v).den ≤ 1 := by
  unfold fracQ
  have l1 := lenW_i64 h1.1 h1.2
  have l2 := lenW_i64 h2.1 h2.2
  split
  · refine ⟨l1, ?_⟩
    show lenW 1 ≤ 1
    rw [lenW_pos1]; exact Nat.le_refl _
  · rename_i hd
    rw [rat_num _ _ hd, rat_den _ _ hd, newI_abs]
    exact ⟨Nat.le_trans (lenW_mono (Nat.div_le_self _ _)) l1, Nat.le_trans (lenW_mono (Nat.div_le_self _ _)) l2⟩
def RvR (q : Rat) (w : World) (e : Ending) (w' : World) : Prop := ∃ v : Rv, e = .returned v.val ∧ v.ok w' ∧ v.small ∧ v.q = q ∧ Below w.heap.size w w'
theorem RvR.of {q : Rat} {w w' : World} {e : Ending} (h : RetR q w e w') (h1 : lenW q.num.natAbs ≤ 2) (h2 : lenW q.den ≤ 1) : RvR q w e w' := by
  obtain ⟨v, he, ho, rfl, hb⟩ := h.rv
  exact ⟨v, he, ho, ⟨h1, h2⟩, rfl, hb⟩
theorem vint_any (x : Int) (w : World) (h : I64 x) : Calls Tryz.prog 16 #[.int .i64 x] w (RvR (x : Rat) w) :=
  (rint_any x w h.1 h.2).mono fun e w' hr => RvR.of hr (Nat.le_trans (lenW_i64 h.1 h.2) (by decide)) (by show lenW 1 ≤ 1; rw [lenW_pos1]; exact Nat.le_refl _)
theorem noWord_of {w : World} {b : Nat} {cs : Array Value} {ty : TypeId} {o : Nat × Nat} (h : w.heap[b]? = some (.cells cs ty o)) (ht : ty ≠ 157) : ¬ WordB w b := fun ⟨cs2, hc⟩ => by
  rw [h] at hc
  injection hc with hc
  injection hc with _ h2
  exact ht h2
theorem set3k (w : World) (z : Nat) (a b c : Value) : Keeps w (((w.setCell ⟨z, 0, none⟩ a).setCell ⟨z, 1, none⟩ b).setCell ⟨z, 2, none⟩ c) fun k => k = z :=
  ((Keeps.setCell _ _ _ (S := fun k => k = z) rfl).trans (Keeps.setCell _ _ _ (S := fun k => k = z) rfl) fun _ _ h => h).trans (Keeps.setCell _ _ _ (S := fun k => k = z) rfl) fun _ _ h => h
theorem RvR.laid {q : Rat} {w w1 w' : World} {v : Rv} {z : Nat} {e : Ending} (hb : Below w.heap.size w w1) (ho : v.ok w1) (hs : v.small) (hq : v.q = q) (hz : w.heap.size ≤ z) (hw : ¬ WordB w1 z) (hk : Keeps w1 w' fun k => k = z) (he : e = .returned v.val) : RvR q w e w' :=
  ⟨v, he, ho.keeps hk (fun k h => by rw [h]; exact hw), hs, hq, hb.trans (hk.below hb.size (fun k h => by omega))⟩
set_option maxRecDepth 100000 in
set_option maxHeartbeats 4000000 in
theorem One_zero (p d : Int) (w : World) (h1 : I64 p) (h2 : I64 d) (hd : d = 0) : Calls Tryz.prog 34 #[.agg #[.int .i64 p, .int .i64 d]] w (RvR (fracQ (p, d)) w) := by
  have hs := fracQ_small (v := (p, d)) h1 h2
  subst hd
  have hI := fun W => rint_any p W h1.1 h1.2
  have hE : fracQ (p, 0) = (p : Rat) := by unfold fracQ; rw [if_pos rfl]
  have HI := Lib.hid hI
  have HE := Lib.hid hE
  clear hI hE
  obtain ⟨w0, hw0⟩ : ∃ w0, (w.alloc (.cells #[.int .i64 p, .int .i64 0] 36)).alloc (.cells #[.bool false, .slice none 0 0, .slice none 0 0] 51) = w0 := ⟨_, rfl⟩
  have hb0 : Below w.heap.size w w0 := by rw [← hw0]; exact bthen (belowBox w _) (belowBox _ _)
  have hz : w.heap.size + 1 < w0.heap.size := by rw [← hw0]; simp
  have q0 : w0.cell? ⟨w.heap.size + 1, 0, none⟩ = some (.bool false) := by rw [← hw0]; simp
  have q1 : w0.cell? ⟨w.heap.size + 1, 1, none⟩ = some (.slice none 0 0) := by rw [← hw0]; simp
  have q2 : w0.cell? ⟨w.heap.size + 1, 2, none⟩ = some (.slice none 0 0) := by rw [← hw0]; simp
  have qf : ∀ j, w0.frozen? ⟨w.heap.size + 1, j, none⟩ = false := by intro j; rw [← hw0]; simp
  have b0 : w0.cell? ⟨w.heap.size, 0, none⟩ = some (.int .i64 p) := by rw [← hw0]; simp
  have b1 : w0.cell? ⟨w.heap.size, 1, none⟩ = some (.int .i64 0) := by rw [← hw0]; simp
  have hzb : ¬ WordB w0 (w.heap.size + 1) := by
    rw [← hw0]
    exact noWord_of (heap2 w _ _).2 (by decide)
  have HS := Lib.hid hs
  have HB0 := Lib.hid hb0
  have HZB := Lib.hid hzb
  clear hs hb0 hzb
  go_enter Tryz.func34, Tryz.ntmps34
  go_wp2_with fail
  (try simp only [hw0])
  clear hw0
  go_wp2_with fail
  refine (HI.out _).mono ?_
  rintro e w1 h
  rw [← HE.out] at h
  obtain ⟨v, rfl, ho, hq, hb⟩ := h.rv
  clear h
  have hsm : v.small := by
    have h3 := HS.out
    rw [← hq] at h3
    exact ⟨Nat.le_trans h3.1 (by decide), h3.2⟩
  have r0 := (hb.cell (p := ⟨w.heap.size + 1, 0, none⟩) hz).trans q0
  have r1 := (hb.cell (p := ⟨w.heap.size + 1, 1, none⟩) hz).trans q1
  have r2 := (hb.cell (p := ⟨w.heap.size + 1, 2, none⟩) hz).trans q2
  have f0 := (hb.frozen (p := ⟨w.heap.size + 1, 0, none⟩) hz).trans (qf 0)
  have f1 := (hb.frozen (p := ⟨w.heap.size + 1, 1, none⟩) hz).trans (qf 1)
  have f2 := (hb.frozen (p := ⟨w.heap.size + 1, 2, none⟩) hz).trans (qf 2)
  have hz1 : w.heap.size + 1 < w1.heap.size := Nat.lt_of_lt_of_le hz hb.size
  have HW1 := Lib.hid (show ¬ WordB w1 (w.heap.size + 1) from fun ⟨cs, hc⟩ => HZB.out ⟨cs, (hb.block _ hz).symm.trans hc⟩)
  have HO := Lib.hid ho
  have HQ := Lib.hid hq
  have HSM := Lib.hid hsm
  have HB := Lib.hid (bthen HB0.out hb)
  have hne : w1.heap.size ≠ w.heap.size + 1 := by omega
  clear ho hq hsm hb q0 q1 q2 qf b0 b1
  unfold Rv.val
  go_wp2_with fail
  refine bodyPost_ret (v := .agg #[.bool v.s, .slice v.a v.l v.c, .slice v.b v.m v.d]) (by simp [results, Tryz.results34, go_sem, World.cell?_alloc_lt, hz1, r0, r1, r2]) rfl ?_
  refine RvR.laid HB.out HO.out HSM.out HQ.out (by omega) HW1.out ?_ rfl
  first | exact set3k _ _ _ _ _ | exact (set3k _ _ _ _ _).trans (Keeps.alloc _ _ fun k => k = w.heap.size + 1) (fun _ _ h => h) | exact (Keeps.alloc _ _ _).trans (set3k _ _ _ _ _) (fun _ _ h => h)
set_option maxRecDepth 100000 in
set_option maxHeartbeats 4000000 in
theorem One_over (p d : Int) (w : World) (h1 : I64 p) (h2 : I64 d) (hd : ¬ d = 0) : Calls Tryz.prog 34 #[.agg #[.int .i64 p, .int .i64 d]] w (RvR (fracQ (p, d)) w) := by
  have hs := fracQ_small (v := (p, d)) h1 h2
  have hI := fun W => rof_any (by decide : 1 ≤ 17592186044416) div_upto_word (by decide) (by decide) p d W h1.1 h1.2 h2.1 h2.2 hd
  have hE : fracQ (p, d) = Rat.divInt p d := by unfold fracQ; rw [if_neg hd]
  have HI := Lib.hid hI
  have HE := Lib.hid hE
  clear hI hE
  obtain ⟨w0, hw0⟩ : ∃ w0, (w.alloc (.cells #[.int .i64 p, .int .i64 d] 36)).alloc (.cells #[.bool false, .slice none 0 0, .slice none 0 0] 51) = w0 := ⟨_, rfl⟩
  have hb0 : Below w.heap.size w w0 := by rw [← hw0]; exact bthen (belowBox w _) (belowBox _ _)
  have hz : w.heap.size + 1 < w0.heap.size := by rw [← hw0]; simp
  have q0 : w0.cell? ⟨w.heap.size + 1, 0, none⟩ = some (.bool false) := by rw [← hw0]; simp
  have q1 : w0.cell? ⟨w.heap.size + 1, 1, none⟩ = some (.slice none 0 0) := by rw [← hw0]; simp
  have q2 : w0.cell? ⟨w.heap.size + 1, 2, none⟩ = some (.slice none 0 0) := by rw [← hw0]; simp
  have qf : ∀ j, w0.frozen? ⟨w.heap.size + 1, j, none⟩ = false := by intro j; rw [← hw0]; simp
  have b0 : w0.cell? ⟨w.heap.size, 0, none⟩ = some (.int .i64 p) := by rw [← hw0]; simp
  have b1 : w0.cell? ⟨w.heap.size, 1, none⟩ = some (.int .i64 d) := by rw [← hw0]; simp
  have hzb : ¬ WordB w0 (w.heap.size + 1) := by
    rw [← hw0]
    exact noWord_of (heap2 w _ _).2 (by decide)
  have HS := Lib.hid hs
  have HB0 := Lib.hid hb0
  have HZB := Lib.hid hzb
  clear hs hb0 hzb
  go_enter Tryz.func34, Tryz.ntmps34
  go_wp2_with fail
  (try simp only [hw0])
  clear hw0
  go_wp2_with fail
  refine (HI.out _).mono ?_
  rintro e w1 ⟨a, c, b, d2, rfl, hn, hm, hb9⟩
  have hr : RetR (Rat.divInt p d) w0 (.returned (ratV a c b d2 (Rat.divInt p d))) w1 := ⟨a, c, b, d2, rfl, hn, hm, hb9⟩
  rw [← HE.out] at hr ⊢
  obtain ⟨v, hv, ho, hq, hb⟩ := hr.rv
  rw [Ending.returned.inj hv]
  clear hn hm hv hr hb9
  have hsm : v.small := by
    have h3 := HS.out
    rw [← hq] at h3
    exact ⟨Nat.le_trans h3.1 (by decide), h3.2⟩
  have r0 := (hb.cell (p := ⟨w.heap.size + 1, 0, none⟩) hz).trans q0
  have r1 := (hb.cell (p := ⟨w.heap.size + 1, 1, none⟩) hz).trans q1
  have r2 := (hb.cell (p := ⟨w.heap.size + 1, 2, none⟩) hz).trans q2
  have f0 := (hb.frozen (p := ⟨w.heap.size + 1, 0, none⟩) hz).trans (qf 0)
  have f1 := (hb.frozen (p := ⟨w.heap.size + 1, 1, none⟩) hz).trans (qf 1)
  have f2 := (hb.frozen (p := ⟨w.heap.size + 1, 2, none⟩) hz).trans (qf 2)
  have hz1 : w.heap.size + 1 < w1.heap.size := Nat.lt_of_lt_of_le hz hb.size
  have HW1 := Lib.hid (show ¬ WordB w1 (w.heap.size + 1) from fun ⟨cs, hc⟩ => HZB.out ⟨cs, (hb.block _ hz).symm.trans hc⟩)
  have HO := Lib.hid ho
  have HQ := Lib.hid hq
  have HSM := Lib.hid hsm
  have HB := Lib.hid (bthen HB0.out hb)
  have hne : w1.heap.size ≠ w.heap.size + 1 := by omega
  clear ho hq hsm hb q0 q1 q2 qf b0 b1
  unfold Rv.val
  go_wp2_with fail
  refine bodyPost_ret (v := .agg #[.bool v.s, .slice v.a v.l v.c, .slice v.b v.m v.d]) (by simp [results, Tryz.results34, go_sem, World.cell?_alloc_lt, hz1, r0, r1, r2]) rfl ?_
  refine RvR.laid HB.out HO.out HSM.out HQ.out (by omega) HW1.out ?_ rfl
  first | exact set3k _ _ _ _ _ | exact (set3k _ _ _ _ _).trans (Keeps.alloc _ _ fun k => k = w.heap.size + 1) (fun _ _ h => h) | exact (Keeps.alloc _ _ _).trans (set3k _ _ _ _ _) (fun _ _ h => h)
theorem One_any (p d : Int) (w : World) (h1 : I64 p) (h2 : I64 d) : Calls Tryz.prog 34 #[.agg #[.int .i64 p, .int .i64 d]] w (RvR (fracQ (p, d)) w) := by
  by_cases hd : d = 0
  · exact One_zero p d w h1 h2 hd
  · exact One_over p d w h1 h2 hd
set_option maxHeartbeats 1000000 in
theorem value_any (p d : Int) (w : World) : Calls Tryz.prog 39 #[.agg #[.int .i64 p, .int .i64 d]] w fun e w' => e = .returned (.agg #[.int .i64 p, .int .i64 d]) ∧ Below w.heap.size w w' := by
  go_enter Tryz.func39, Tryz.ntmps39
  go_wp2
  refine bodyPost_ret (v := .agg #[.int .i64 p, .int .i64 d]) (by simp [results, Tryz.results39, go_sem]) rfl ?_
  refine ⟨rfl, ?_⟩
  exact bthen (belowBox w _) (belowBox _ _)
end Go.Proofs.YtaehklhbokocbaaGreatDoor
