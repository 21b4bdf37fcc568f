/-
  A Prob in a variable's box, written in three places; what the three sets make of a store: plain laws for StoreSets.
  Printed by a program of this repository (wip/law17.py).
-/
import Derived.Test.YtaehklhbokocbaaGreatDoorXM
set_option linter.unusedVariables false
set_option linter.unusedSimpArgs false
namespace Go.Proofs.YtaehklhbokocbaaGreatDoor
open Go.RowKit Go.Extern.Stop Go.Stop Go.Extern
section
variable {w : World} {pb : Nat} {G : Nat → Prop} {rows : List Rw} {cs : List Rv} {b o rc cc : Nat} {ra ca : Option Addr}
theorem pcost_elt (h : Box w pb 73 G [.slice (some ⟨b, o, none⟩) cs.length cc, .slice ra rows.length rc] (pPs (.slice (some ⟨b, o, none⟩) cs.length cc) (.slice ra rows.length rc) cs rows)) (k : Nat) {x : Rv} (hk : cs[k]? = some x) (j : Nat) (hj : j < 3) (u : Value) (x' : Rv) (hx : Rv.cells x' = (Rv.cells x).set j u) :
    BoxA w pb 73 G [.slice (some ⟨b, o, none⟩) (cs.set k x').length cc, .slice ra rows.length rc] (pPs (.slice (some ⟨b, o, none⟩) (cs.set k x').length cc) (.slice ra rows.length rc) (cs.set k x') rows) (w.setCell ⟨b, o + k * 3 + j, none⟩ u) := by
  obtain ⟨hkl, rfl⟩ := List.getElem?_eq_some_iff.1 hk
  have hs := h.elt 0 (g := b) (o := o) (cap := cc) (n := cs.length) (size := 3) (e := 51) (xs := cs.flatMap Rv.cells) rfl (k * 3 + j) u
  rw [← Nat.add_assoc] at hs
  have e : (pPs (.slice (some ⟨b, o, none⟩) cs.length cc) (.slice ra rows.length rc) cs rows).set 0 ⟨.slice (some ⟨b, o, none⟩) cs.length cc, 51, 3, cs.length, (cs.flatMap Rv.cells).set (k * 3 + j) u⟩ = pPs (.slice (some ⟨b, o, none⟩) (cs.set k x').length cc) (.slice ra rows.length rc) (cs.set k x') rows := by
    have e1 := flat_set Rv.cells 3 rvCells_len cs k hkl x' j hj u hx
    simp only [pPs, List.set_cons_zero, e1, List.length_set]
  rw [e] at hs
  rw [List.length_set] at hs ⊢
  exact hs
theorem prow_elt (h : Box w pb 73 G [.slice ca cs.length cc, .slice (some ⟨b, o, none⟩) rows.length rc] (pPs (.slice ca cs.length cc) (.slice (some ⟨b, o, none⟩) rows.length rc) cs rows)) (k : Nat) {r : Rw} (hk : rows[k]? = some r) (j : Nat) (hj : j < 5) (u : Value) (r' : Rw) (hx : prowCells r' = (prowCells r).set j u) (hc : coefP r' = coefP r) :
    BoxA w pb 73 G [.slice ca cs.length cc, .slice (some ⟨b, o, none⟩) (rows.set k r').length rc] (pPs (.slice ca cs.length cc) (.slice (some ⟨b, o, none⟩) (rows.set k r').length rc) cs (rows.set k r')) (w.setCell ⟨b, o + k * 5 + j, none⟩ u) := by
  obtain ⟨hkl, rfl⟩ := List.getElem?_eq_some_iff.1 hk
  have hs := h.elt 1 (g := b) (o := o) (cap := rc) (n := rows.length) (size := 5) (e := 82) (xs := rows.flatMap prowCells) rfl (k * 5 + j) u
  rw [← Nat.add_assoc] at hs
  have e : (pPs (.slice ca cs.length cc) (.slice (some ⟨b, o, none⟩) rows.length rc) cs rows).set 1 ⟨.slice (some ⟨b, o, none⟩) rows.length rc, 82, 5, rows.length, (rows.flatMap prowCells).set (k * 5 + j) u⟩ = pPs (.slice ca cs.length cc) (.slice (some ⟨b, o, none⟩) (rows.set k r').length rc) cs (rows.set k r') := by
    have e1 := flat_set prowCells 5 prowCells_len rows k hkl r' j hj u hx
    have e2 : (rows.set k r').map coefP = rows.map coefP := by
      rw [List.map_set, hc]
      exact set_at _ _ _ (by simp [hkl])
    simp only [pPs, List.set_cons_zero, List.set_cons_succ, e1, e2, List.length_set]
  rw [e] at hs
  rw [List.length_set] at hs ⊢
  exact hs
theorem pcoef_elt (h : Box w pb 73 G [.slice ca cs.length cc, .slice ra rows.length rc] (pPs (.slice ca cs.length cc) (.slice ra rows.length rc) cs rows)) (k : Nat) {r : Rw} (hk : rows[k]? = some r) {n : Nat} (hcv : r.cv = .slice (some ⟨b, o, none⟩) r.coef.length n) (c : Nat) {x : Rv} (hc : r.coef[c]? = some x) (j : Nat) (hj : j < 3) (u : Value) (x' : Rv) (hx : Rv.cells x' = (Rv.cells x).set j u) :
    BoxA w pb 73 G [.slice ca cs.length cc, .slice ra (rows.set k { r with coef := r.coef.set c x' }).length rc] (pPs (.slice ca cs.length cc) (.slice ra (rows.set k { r with coef := r.coef.set c x' }).length rc) cs (rows.set k { r with coef := r.coef.set c x' })) (w.setCell ⟨b, o + c * 3 + j, none⟩ u) := by
  obtain ⟨hcl, rfl⟩ := List.getElem?_eq_some_iff.1 hc
  have hkl := (List.getElem?_eq_some_iff.1 hk).1
  have hp : (pPs (.slice ca cs.length cc) (.slice ra rows.length rc) cs rows)[k + 2]? = some ⟨.slice (some ⟨b, o, none⟩) r.coef.length n, 51, 3, r.coef.length, r.coef.flatMap Rv.cells⟩ := by
    simp [pPs, hk, coefP, hcv]
  have hs := h.elt (k + 2) hp (c * 3 + j) u
  rw [← Nat.add_assoc] at hs
  have e : (pPs (.slice ca cs.length cc) (.slice ra rows.length rc) cs rows).set (k + 2) ⟨.slice (some ⟨b, o, none⟩) r.coef.length n, 51, 3, r.coef.length, (r.coef.flatMap Rv.cells).set (c * 3 + j) u⟩ = pPs (.slice ca cs.length cc) (.slice ra (rows.set k { r with coef := r.coef.set c x' }).length rc) cs (rows.set k { r with coef := r.coef.set c x' }) := by
    have e1 := flat_set Rv.cells 3 rvCells_len r.coef c hcl x' j hj u hx
    have e2 : (rows.set k { r with coef := r.coef.set c x' }).flatMap prowCells = rows.flatMap prowCells := by
      have h3 := flat_set prowCells 5 prowCells_len rows k hkl { r with coef := r.coef.set c x' } 0 (by omega) r.cv (by rw [← (List.getElem?_eq_some_iff.1 hk).2]; rfl)
      rw [h3]
      refine set_at _ _ _ (flat_at prowCells 5 prowCells_len rows k hkl 0 _ ?_)
      rw [(List.getElem?_eq_some_iff.1 hk).2]; rfl
    simp only [pPs, List.set_cons_succ, List.map_set, coefP, List.length_set, e2, e1]
    rw [hcv]
  rw [e] at hs
  rw [List.length_set] at hs ⊢
  exact hs
theorem pcost_set (h : Box w pb 73 G [.slice (some ⟨b, o, none⟩) cs.length cc, .slice ra rows.length rc] (pPs (.slice (some ⟨b, o, none⟩) cs.length cc) (.slice ra rows.length rc) cs rows)) (k : Nat) (hk : k < cs.length) (v : Rv) :
    BoxA w pb 73 G [.slice (some ⟨b, o, none⟩) (cs.set k v).length cc, .slice ra rows.length rc] (pPs (.slice (some ⟨b, o, none⟩) (cs.set k v).length cc) (.slice ra rows.length rc) (cs.set k v) rows) (((w.setCell ⟨b, o + k * 3, none⟩ (.bool v.s)).setCell ⟨b, o + k * 3 + 1, none⟩ (.slice v.a v.l v.c)).setCell ⟨b, o + k * 3 + 2, none⟩ (.slice v.b v.m v.d)) := by
  obtain ⟨x, hx⟩ : ∃ x, cs[k]? = some x := ⟨_, List.getElem?_eq_getElem hk⟩
  have h1 := pcost_elt h k hx 0 (by omega) (.bool v.s) { x with s := v.s } rfl
  have h2 := h1.trans fun G1 hq => pcost_elt hq k (x := { x with s := v.s }) (by simp [hk]) 1 (by omega) (.slice v.a v.l v.c) { v with b := x.b, m := x.m, d := x.d } rfl
  have h3 := h2.trans fun G1 hq => pcost_elt hq k (x := { v with b := x.b, m := x.m, d := x.d }) (by simp [hk]) 2 (by omega) (.slice v.b v.m v.d) v rfl
  simpa only [List.set_set, Nat.add_zero] using h3
theorem prhs_set (h : Box w pb 73 G [.slice ca cs.length cc, .slice (some ⟨b, o, none⟩) rows.length rc] (pPs (.slice ca cs.length cc) (.slice (some ⟨b, o, none⟩) rows.length rc) cs rows)) (k : Nat) {r : Rw} (hk : rows[k]? = some r) (v : Rv) :
    BoxA w pb 73 G [.slice ca cs.length cc, .slice (some ⟨b, o, none⟩) (rows.set k { r with rhs := v }).length rc] (pPs (.slice ca cs.length cc) (.slice (some ⟨b, o, none⟩) (rows.set k { r with rhs := v }).length rc) cs (rows.set k { r with rhs := v })) (((w.setCell ⟨b, o + k * 5 + 2, none⟩ (.bool v.s)).setCell ⟨b, o + k * 5 + 3, none⟩ (.slice v.a v.l v.c)).setCell ⟨b, o + k * 5 + 4, none⟩ (.slice v.b v.m v.d)) := by
  have hkl := (List.getElem?_eq_some_iff.1 hk).1
  have h1 := prow_elt h k hk 2 (by omega) (.bool v.s) { r with rhs := { r.rhs with s := v.s } } rfl rfl
  have h2 := h1.trans fun G1 hq => prow_elt hq k (r := { r with rhs := { r.rhs with s := v.s } }) (by simp [hkl]) 3 (by omega) (.slice v.a v.l v.c) { r with rhs := { v with b := r.rhs.b, m := r.rhs.m, d := r.rhs.d } } rfl rfl
  have h3 := h2.trans fun G1 hq => prow_elt hq k (r := { r with rhs := { v with b := r.rhs.b, m := r.rhs.m, d := r.rhs.d } }) (by simp [hkl]) 4 (by omega) (.slice v.b v.m v.d) { r with rhs := v } rfl rfl
  simpa only [List.set_set] using h3
theorem pcoef_set (h : Box w pb 73 G [.slice ca cs.length cc, .slice ra rows.length rc] (pPs (.slice ca cs.length cc) (.slice ra rows.length rc) cs rows)) (k : Nat) {r : Rw} (hk : rows[k]? = some r) {n : Nat} (hcv : r.cv = .slice (some ⟨b, o, none⟩) r.coef.length n) (c : Nat) (hc : c < r.coef.length) (v : Rv) :
    BoxA w pb 73 G [.slice ca cs.length cc, .slice ra (rows.set k { r with coef := r.coef.set c v }).length rc] (pPs (.slice ca cs.length cc) (.slice ra (rows.set k { r with coef := r.coef.set c v }).length rc) cs (rows.set k { r with coef := r.coef.set c v })) (((w.setCell ⟨b, o + c * 3, none⟩ (.bool v.s)).setCell ⟨b, o + c * 3 + 1, none⟩ (.slice v.a v.l v.c)).setCell ⟨b, o + c * 3 + 2, none⟩ (.slice v.b v.m v.d)) := by
  have hkl := (List.getElem?_eq_some_iff.1 hk).1
  obtain ⟨x, hx⟩ : ∃ x, r.coef[c]? = some x := ⟨_, List.getElem?_eq_getElem hc⟩
  have h1 := pcoef_elt h k hk hcv c hx 0 (by omega) (.bool v.s) { x with s := v.s } rfl
  have h2 := h1.trans fun G1 hq => pcoef_elt hq k (r := { r with coef := r.coef.set c { x with s := v.s } }) (by simp [hkl]) (n := n) (by rw [List.length_set]; exact hcv) c (x := { x with s := v.s }) (by simp [hc]) 1 (by omega) (.slice v.a v.l v.c) { v with b := x.b, m := x.m, d := x.d } rfl
  have h3 := h2.trans fun G1 hq => pcoef_elt hq k (r := { r with coef := (r.coef.set c { x with s := v.s }).set c { v with b := x.b, m := x.m, d := x.d } }) (by simp [hkl]) (n := n) (by rw [List.length_set, List.length_set]; exact hcv) c (x := { v with b := x.b, m := x.m, d := x.d }) (by simp [hc]) 2 (by omega) (.slice v.b v.m v.d) v rfl
  simpa only [List.set_set, Nat.add_zero] using h3
def pF (pb : Nat) (ca ra : Option Addr) (cc rc : Nat) (cs : List Rv) (rows : List Rw) (k : Nat) : Prop := k = pb ∨ Foot (pPs (.slice ca cs.length cc) (.slice ra rows.length rc) cs rows) k
structure PBx (w : World) (pb : Nat) (ca ra : Option Addr) (cc rc : Nat) (cs : List Rv) (rows : List Rw) (c : List Rat) (rs : List AR) : Prop where
  box : Box w pb 73 (pF pb ca ra cc rc cs rows) [.slice ca cs.length cc, .slice ra rows.length rc] (pPs (.slice ca cs.length cc) (.slice ra rows.length rc) cs rows)
  cost : cs.map (·.q) = c
  rws : rows.map Rw.ar = rs
  okc : ∀ v, v ∈ cs → v.ok w ∧ v.small
  okr : ∀ r, r ∈ rows → r.rhs.ok w ∧ r.rhs.small
  okv : ∀ r, r ∈ rows → ∀ v, v ∈ r.coef → v.ok w ∧ v.small
end
section
variable {w w' : World} {pb : Nat} {S : Nat → Prop} {rows rows2 : List Rw} {cs cs2 : List Rv} {rc cc : Nat} {ra ca : Option Addr} {c c2 : List Rat} {rs rs2 : List AR}
theorem pps_types : ∀ p, p ∈ pPs (.slice ca cs.length cc) (.slice ra rows.length rc) cs rows → p.e ≠ 157 := by
  intro p hp
  simp only [pPs, List.mem_cons, List.mem_map] at hp
  rcases hp with rfl | rfl | ⟨r, _, rfl⟩
  · simp
  · simp
  · simp [coefP]
theorem PBx.noW (h : PBx w pb ca ra cc rc cs rows c rs) : ∀ k, pF pb ca ra cc rc cs rows k → ¬ WordB w k := by
  intro k hk
  rcases hk with rfl | hk
  · exact noWord_of h.box.1 (by decide)
  · exact own_noW h.box.2.1 pps_types k hk
theorem PBx.pa (h : PBx w pb ca ra cc rc cs rows c rs) : PA w (pF pb ca ra cc rc cs rows) ca ra cc rc cs rows c rs :=
  ⟨⟨h.box.2.1, fun _ hk => .inr hk, h.box.lt⟩, h.noW, h.cost, h.rws, h.okc, h.okr, h.okv⟩
theorem PBx.keeps (h : PBx w pb ca ra cc rc cs rows c rs) (hk : Keeps w w' S) (hd : ∀ k, pF pb ca ra cc rc cs rows k → ¬ S k) (hs : ∀ k, S k → ¬ WordB w k) : PBx w' pb ca ra cc rc cs rows c rs :=
  ⟨h.box.keeps hk hd, h.cost, h.rws, fun v hv => ⟨(h.okc v hv).1.keeps hk hs, (h.okc v hv).2⟩, fun r hr => ⟨(h.okr r hr).1.keeps hk hs, (h.okr r hr).2⟩, fun r hr v hv => ⟨(h.okv r hr v hv).1.keeps hk hs, (h.okv r hr v hv).2⟩⟩
theorem PBx.below (h : PBx w pb ca ra cc rc cs rows c rs) (hb : Below w.heap.size w w') : PBx w' pb ca ra cc rc cs rows c rs :=
  h.keeps (Keeps.of_below hb (S := fun k => w.heap.size ≤ k) fun b h _ => h) (fun k hf hn => by have := h.box.lt k hf; omega) fun k hn hw => by have := hw.lt; omega
theorem PA.boxed {F : Nat → Prop} (h : PA w F ca ra cc rc cs rows c rs) : PBx (w.alloc (.cells #[.slice ca cs.length cc, .slice ra rows.length rc] 73)) w.heap.size ca ra cc rc cs rows c rs := by
  have hb := belowBox w (.cells #[.slice ca cs.length cc, .slice ra rows.length rc] 73)
  have hlt : ∀ k, Foot (pPs (.slice ca cs.length cc) (.slice ra rows.length rc) cs rows) k → k < w.heap.size := h.pw.1.lt
  refine ⟨⟨heap_alloc_new _ _, h.pw.1.below hb, .inl rfl, fun k hk => ⟨.inr hk, fun e => by have := hlt k hk; omega⟩, fun k hk => ?_⟩, h.cost, h.rws, fun v hv => ⟨(h.okc v hv).1.below hb, (h.okc v hv).2⟩, fun r hr => ⟨(h.okr r hr).1.below hb, (h.okr r hr).2⟩, fun r hr v hv => ⟨(h.okv r hr v hv).1.below hb, (h.okv r hr v hv).2⟩⟩
  have hz : (w.alloc (.cells #[.slice ca cs.length cc, .slice ra rows.length rc] 73)).heap.size = w.heap.size + 1 := by simp
  rcases hk with rfl | hk
  · omega
  · have := hlt k hk; omega
theorem PBx.write (h : PBx w pb ca ra cc rc cs rows c rs) (hb : BoxA w pb 73 (pF pb ca ra cc rc cs rows) [.slice ca cs2.length cc, .slice ra rows2.length rc] (pPs (.slice ca cs2.length cc) (.slice ra rows2.length rc) cs2 rows2) w')
    (hc : cs2.map (·.q) = c2) (hr : rows2.map Rw.ar = rs2) (h1 : ∀ v, v ∈ cs2 → v.ok w ∧ v.small) (h2 : ∀ r, r ∈ rows2 → r.rhs.ok w ∧ r.rhs.small) (h3 : ∀ r, r ∈ rows2 → ∀ v, v ∈ r.coef → v.ok w ∧ v.small) :
    PBx w' pb ca ra cc rc cs2 rows2 c2 rs2 ∧ Keeps w w' (pF pb ca ra cc rc cs rows) ∧ ∀ k, pF pb ca ra cc rc cs2 rows2 k → pF pb ca ra cc rc cs rows k ∨ w.heap.size ≤ k := by
  obtain ⟨G', hq, hg, hk⟩ := hb
  have hs := h.noW
  refine ⟨⟨⟨hq.1, hq.2.1, .inl rfl, fun k hf => ⟨.inr hf, (hq.2.2.2.1 k hf).2⟩, fun k hf => ?_⟩, hc, hr, fun v hv => ⟨(h1 v hv).1.keeps hk hs, (h1 v hv).2⟩, fun r hr => ⟨(h2 r hr).1.keeps hk hs, (h2 r hr).2⟩, fun r hr v hv => ⟨(h3 r hr v hv).1.keeps hk hs, (h3 r hr v hv).2⟩⟩, hk, fun k hf => ?_⟩
  · rcases hf with rfl | hf
    · exact hq.lt _ hq.2.2.1
    · exact hq.lt k (hq.2.2.2.1 k hf).1
  · rcases hf with rfl | hf
    · exact .inl (.inl rfl)
    · exact hg k (hq.2.2.2.1 k hf).1
end
theorem PBx.frm {w0 W W' : World} {K : Nat → Prop} {pb : Nat} {ca ra : Option Addr} {cc rc : Nat} {cs : List Rv} {rows : List Rw} {c : List Rat} {rs : List AR} (hp : PBx W pb ca ra cc rc cs rows c rs) (h : Frm w0 K W W') (hF : ∀ k, pF pb ca ra cc rc cs rows k → K k) : PBx W' pb ca ra cc rc cs rows c rs := by
  obtain ⟨S, h1, h2, h3, _⟩ := h
  exact hp.keeps h1 (fun k hk => h2 k (hF k hk)) h3
theorem LSt.other {w0 W W' : World} {sb : Nat} {s : AS} {K S : Nat → Prop} (h : LSt w0 W sb s K) (hk : Keeps W W' S) (hS : ∀ k, S k → K k ∧ ¬ WordB W k ∧ w0.heap.size ≤ k) : LSt w0 W' sb s K := by
  obtain ⟨G, h1, h2, h3, h4, h5⟩ := h
  exact ⟨G, h1.keeps hk (fun k hg hs => h4 k (hS k hs).1 hg) fun k hs => (hS k hs).2.1, h2, below_of_keeps h3 hk fun k hs => (hS k hs).2.2, h4, fun k hk2 => Nat.lt_of_lt_of_le (h5 k hk2) hk.size⟩
theorem LSt.sub {w0 W : World} {sb : Nat} {s : AS} {K K2 : Nat → Prop} (h : LSt w0 W sb s K) (hk : ∀ k, K2 k → K k) : LSt w0 W sb s K2 := by
  obtain ⟨G, h1, h2, h3, h4, h5⟩ := h
  exact ⟨G, h1, h2, h3, fun k hq => h4 k (hk k hq), fun k hq => h5 k (hk k hq)⟩
theorem coefAt (S : AS) {rid cid : Int} {k j : Nat} (hr : atI S.rids rid = k) (hc : atI S.cids cid = j) (hk : k < S.rows.length) (hj : j < S.cols.length) (x : Rat) : S.setCoef rid cid x = (noF, { S with rows := upd (fun r => { r with coef := r.coef.set j x }) S.rows k }) := by
  unfold AS.setCoef
  rw [hr, hc, if_pos hk, if_pos hj]
theorem rhsAt (S : AS) {rid : Int} {k : Nat} (hr : atI S.rids rid = k) (hk : k < S.rows.length) (y : Rat) : S.setRhs rid y = (noF, { S with rows := upd (fun r => { r with rhs := y }) S.rows k }) := by
  unfold AS.setRhs
  rw [hr, if_pos hk]
theorem costAt (S : AS) {cid : Int} {j : Nat} (hc : atI S.cids cid = j) (hj : j < S.cols.length) (z : Rat) : S.setCost cid z = (noF, { S with cols := upd (fun c => { c with cost := z }) S.cols j }) := by
  unfold AS.setCost
  rw [hc, if_pos hj]
def AS.three (S : AS) (k j : Nat) (x y z : Rat) : AS :=
  { S with rows := upd (fun r => { r with rhs := y }) (upd (fun r => { r with coef := r.coef.set j x }) S.rows k) k, cols := upd (fun c => { c with cost := z }) S.cols j }
theorem three_rids (S : AS) (k j : Nat) (x y z : Rat) : (S.three k j x y z).rids = S.rids := by
  exact (upd_map (fun r : AR => { r with rhs := y }) (fun r : AR => r.id) (fun _ => rfl) _ k).trans (upd_map (fun r : AR => { r with coef := r.coef.set j x }) (fun r : AR => r.id) (fun _ => rfl) S.rows k)
theorem three_cids (S : AS) (k j : Nat) (x y z : Rat) : (S.three k j x y z).cids = S.cids := by
  exact upd_map (fun c : AC => { c with cost := z }) (fun c : AC => c.id) (fun _ => rfl) S.cols j
theorem three_sets (S : AS) (hw : WF S) {k j : Nat} (hk : k < S.rids.length) (hj : j < S.cids.length) (x y z : Rat) : ∃ S1 S2,
    S.setCoef S.rids[k] S.cids[j] x = (noF, S1) ∧ S1.setRhs S.rids[k] y = (noF, S2) ∧ S2.setCost S.cids[j] z = (noF, S.three k j x y z) ∧ WF S1 ∧ WF S2 ∧ WF (S.three k j x y z) := by
  have hr : atI S.rids S.rids[k] = k := atI_idx (hw.rid.imp fun h => Int.ne_of_lt h) hk
  have hc : atI S.cids S.cids[j] = j := atI_idx (hw.cid.imp fun h => Int.ne_of_lt h) hj
  have hkr : k < S.rows.length := by rw [← rids_length]; exact hk
  have hjc : j < S.cols.length := by rw [← cids_length]; exact hj
  have e1 := coefAt S hr hc hkr hjc x
  have w1 := hw.setCoef S.rids[k] S.cids[j] x
  rw [e1] at w1
  obtain ⟨S1, h1⟩ : ∃ S1 : AS, S1 = { S with rows := upd (fun r => { r with coef := r.coef.set j x }) S.rows k } := ⟨_, rfl⟩
  rw [← h1] at e1 w1
  have r1 : S1.rids = S.rids := by rw [h1]; exact upd_map (fun r : AR => { r with coef := r.coef.set j x }) (fun r : AR => r.id) (fun _ => rfl) S.rows k
  have c1 : S1.cids = S.cids := by rw [h1]; rfl
  have e2 := rhsAt S1 (rid := S.rids[k]) (k := k) (by rw [r1]; exact hr) (by rw [← rids_length, r1]; exact hk) y
  have w2 := w1.setRhs S.rids[k] y
  rw [e2] at w2
  obtain ⟨S2, h2⟩ : ∃ S2 : AS, S2 = { S1 with rows := upd (fun r => { r with rhs := y }) S1.rows k } := ⟨_, rfl⟩
  rw [← h2] at e2 w2
  have c2 : S2.cids = S.cids := by rw [h2]; exact c1
  have e3 := costAt S2 (cid := S.cids[j]) (j := j) (by rw [c2]; exact hc) (by rw [← cids_length, c2]; exact hj) z
  have w3 := w2.setCost S.cids[j] z
  rw [e3] at w3
  have h3 : ({ S2 with cols := upd (fun c => { c with cost := z }) S2.cols j } : AS) = S.three k j x y z := by rw [h2, h1]; rfl
  rw [h3] at e3 w3
  exact ⟨S1, S2, e1, e2, e3, w1, w2, w3⟩
theorem pF_row {pb : Nat} {ca ra : Option Addr} {cc rc : Nat} {cs : List Rv} {rows : List Rw} {k : Nat} {R r' : Rw} (hk : rows[k]? = some R) (hcv : r'.cv = R.cv) : ∀ z, pF pb ca ra cc rc cs (rows.set k r') z → pF pb ca ra cc rc cs rows z := by
  intro z hz
  rcases hz with h | ⟨p, hp, hv⟩
  · exact .inl h
  · simp only [pPs, List.mem_cons, List.mem_map] at hp
    rcases hp with rfl | rfl | ⟨r, hr, rfl⟩
    · exact .inr ⟨⟨.slice ca cs.length cc, 51, 3, cs.length, cs.flatMap Rv.cells⟩, by simp [pPs], hv⟩
    · exact .inr ⟨⟨.slice ra rows.length rc, 82, 5, rows.length, rows.flatMap prowCells⟩, by simp [pPs], by simpa using hv⟩
    · rcases List.mem_or_eq_of_mem_set hr with h | rfl
      · exact .inr ⟨coefP r, by simp only [pPs, List.mem_cons, List.mem_map]; exact .inr (.inr ⟨r, h, rfl⟩), hv⟩
      · refine .inr ⟨coefP R, by simp only [pPs, List.mem_cons, List.mem_map]; exact .inr (.inr ⟨R, List.mem_of_getElem? hk, rfl⟩), ?_⟩
        show R.cv.ownBlock = some z
        rw [← hcv]
        exact hv
theorem pF_cost {pb : Nat} {ca ra : Option Addr} {cc rc : Nat} {cs : List Rv} {rows : List Rw} {k : Nat} {v : Rv} : ∀ z, pF pb ca ra cc rc (cs.set k v) rows z → pF pb ca ra cc rc cs rows z := by
  intro z hz
  rcases hz with h | ⟨p, hp, hv⟩
  · exact .inl h
  · simp only [pPs, List.mem_cons, List.mem_map] at hp
    rcases hp with rfl | rfl | ⟨r, hr, rfl⟩
    · exact .inr ⟨⟨.slice ca cs.length cc, 51, 3, cs.length, cs.flatMap Rv.cells⟩, by simp [pPs], by simpa using hv⟩
    · exact .inr ⟨⟨.slice ra rows.length rc, 82, 5, rows.length, rows.flatMap prowCells⟩, by simp [pPs], hv⟩
    · exact .inr ⟨coefP r, by simp only [pPs, List.mem_cons, List.mem_map]; exact .inr (.inr ⟨r, hr, rfl⟩), hv⟩
section
variable {w : World} {pb b o : Nat} {rows : List Rw} {cs : List Rv} {rc cc : Nat} {ra ca : Option Addr} {c : List Rat} {rs : List AR}
theorem mem_set_of {α : Type} {p : α → Prop} {l : List α} {k : Nat} {y : α} (h : ∀ x, x ∈ l → p x) (hy : p y) : ∀ x, x ∈ l.set k y → p x := fun x hx => by
  rcases List.mem_or_eq_of_mem_set hx with h1 | rfl
  · exact h x h1
  · exact hy
theorem PBx.coef3 (h : PBx w pb ca ra cc rc cs rows c rs) {k j : Nat} {R : Rw} (hk : rows[k]? = some R) {n : Nat} (hcv : R.cv = .slice (some ⟨b, o, none⟩) R.coef.length n) (hj : j < R.coef.length) {v : Rv} (hv : v.ok w) (hs : v.small) :
    PBx (((w.setCell ⟨b, o + j * 3, none⟩ (.bool v.s)).setCell ⟨b, o + j * 3 + 1, none⟩ (.slice v.a v.l v.c)).setCell ⟨b, o + j * 3 + 2, none⟩ (.slice v.b v.m v.d)) pb ca ra cc rc cs (rows.set k { R with coef := R.coef.set j v }) c (upd (fun r => { r with coef := r.coef.set j v.q }) rs k) ∧
      Keeps w (((w.setCell ⟨b, o + j * 3, none⟩ (.bool v.s)).setCell ⟨b, o + j * 3 + 1, none⟩ (.slice v.a v.l v.c)).setCell ⟨b, o + j * 3 + 2, none⟩ (.slice v.b v.m v.d)) (pF pb ca ra cc rc cs rows) := by
  have hm := List.mem_of_getElem? hk
  have hb := pcoef_set h.box k hk hcv j hj v
  have hr : rs[k]? = some R.ar := by rw [← h.rws, List.getElem?_map, hk]; rfl
  have e : (rows.set k { R with coef := R.coef.set j v }).map Rw.ar = upd (fun r => { r with coef := r.coef.set j v.q }) rs k := by
    rw [upd_set _ _ _ _ hr, List.map_set, h.rws]
    congr 1
    simp [Rw.ar, List.map_set]
  have h1 := h.write hb h.cost e h.okc (mem_set_of h.okr (h.okr R hm)) (mem_set_of h.okv (mem_set_of (h.okv R hm) ⟨hv, hs⟩))
  exact ⟨h1.1, h1.2.1⟩
theorem PBx.rhs3 (h : PBx w pb ca (some ⟨b, o, none⟩) cc rc cs rows c rs) {k : Nat} {R : Rw} (hk : rows[k]? = some R) {v : Rv} (hv : v.ok w) (hs : v.small) :
    PBx (((w.setCell ⟨b, o + k * 5 + 2, none⟩ (.bool v.s)).setCell ⟨b, o + k * 5 + 3, none⟩ (.slice v.a v.l v.c)).setCell ⟨b, o + k * 5 + 4, none⟩ (.slice v.b v.m v.d)) pb ca (some ⟨b, o, none⟩) cc rc cs (rows.set k { R with rhs := v }) c (upd (fun r => { r with rhs := v.q }) rs k) ∧
      Keeps w (((w.setCell ⟨b, o + k * 5 + 2, none⟩ (.bool v.s)).setCell ⟨b, o + k * 5 + 3, none⟩ (.slice v.a v.l v.c)).setCell ⟨b, o + k * 5 + 4, none⟩ (.slice v.b v.m v.d)) (pF pb ca (some ⟨b, o, none⟩) cc rc cs rows) := by
  have hm := List.mem_of_getElem? hk
  have hb := prhs_set h.box k hk v
  have hr : rs[k]? = some R.ar := by rw [← h.rws, List.getElem?_map, hk]; rfl
  have e : (rows.set k { R with rhs := v }).map Rw.ar = upd (fun r => { r with rhs := v.q }) rs k := by
    rw [upd_set _ _ _ _ hr, List.map_set, h.rws]
    rfl
  have h1 := h.write hb h.cost e h.okc (mem_set_of h.okr ⟨hv, hs⟩) (mem_set_of h.okv (h.okv R hm))
  exact ⟨h1.1, h1.2.1⟩
theorem PBx.cost3 (h : PBx w pb (some ⟨b, o, none⟩) ra cc rc cs rows c rs) {k : Nat} (hk : k < cs.length) {v : Rv} (hv : v.ok w) (hs : v.small) :
    PBx (((w.setCell ⟨b, o + k * 3, none⟩ (.bool v.s)).setCell ⟨b, o + k * 3 + 1, none⟩ (.slice v.a v.l v.c)).setCell ⟨b, o + k * 3 + 2, none⟩ (.slice v.b v.m v.d)) pb (some ⟨b, o, none⟩) ra cc rc (cs.set k v) rows (c.set k v.q) rs ∧
      Keeps w (((w.setCell ⟨b, o + k * 3, none⟩ (.bool v.s)).setCell ⟨b, o + k * 3 + 1, none⟩ (.slice v.a v.l v.c)).setCell ⟨b, o + k * 3 + 2, none⟩ (.slice v.b v.m v.d)) (pF pb (some ⟨b, o, none⟩) ra cc rc cs rows) := by
  have hb := pcost_set h.box k hk v
  have h1 := h.write hb (c2 := c.set k v.q) (by rw [List.map_set, h.cost]) h.rws (mem_set_of h.okc ⟨hv, hs⟩) h.okr h.okv
  exact ⟨h1.1, h1.2.1⟩
end
end Go.Proofs.YtaehklhbokocbaaGreatDoor
