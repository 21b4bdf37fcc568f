/-
  What the laws of a store stand on, part D: contracts and plain laws of SAddCol; the conditions are each law's own.
-/
import Derived.Test.YtaehklhbokocbaaGreatDoorXC
set_option linter.unusedVariables false
set_option linter.unusedSimpArgs false
namespace Go.Proofs.YtaehklhbokocbaaGreatDoor
open Go.RowKit Go.Extern.Stop Go.Stop Go.Extern
theorem Tryz.infoCol : (Tryz.prog.info? 113).map (fun i => (i.zero, i.size, i.bytes)) = some (some (.agg #[.int .i64 0, .bool false, .slice none 0 0, .slice none 0 0]), 4, 64) := by kernel_rfl
theorem Tryz.infoRatV : (Tryz.prog.info? 51).map (fun i => (i.zero, i.size, i.bytes)) = some (some (.agg #[.bool false, .slice none 0 0, .slice none 0 0]), 3, 56) := by kernel_rfl
def Rw.bare (r : Rw) : Rw := { r with cv := .nilIface }
def addC : List Rw → List Rv → List Rw
  | r :: rs, v :: vs => { r with coef := r.coef ++ [v] } :: addC rs vs
  | _, _ => []
theorem Nums.bare {w : World} {rows rows' : List Rw} {cols : List Cl} (h : Nums w rows cols) (e : rows'.map Rw.bare = rows.map Rw.bare) : Nums w rows' cols := by
  have hm : ∀ r, r ∈ rows' → ∃ r2, r2 ∈ rows ∧ r2.rhs = r.rhs ∧ r2.coef = r.coef := fun r hr => by
    have : r.bare ∈ rows.map Rw.bare := by rw [← e]; exact List.mem_map.2 ⟨r, hr, rfl⟩
    obtain ⟨r2, h2, h3⟩ := List.mem_map.1 this
    refine ⟨r2, h2, ?_, ?_⟩
    · have := congrArg Rw.rhs h3; exact this
    · have := congrArg Rw.coef h3; exact this
  exact ⟨fun r hr => by obtain ⟨r2, h2, h3, _⟩ := hm r hr; rw [← h3]; exact h.rhs r2 h2, fun r hr => by obtain ⟨r2, h2, _, h3⟩ := hm r hr; rw [← h3]; exact h.coef r2 h2, h.cost⟩
theorem addC_mem : ∀ (rows : List Rw) (vs : List Rv) (r : Rw), r ∈ addC rows vs → ∃ r2 v, r2 ∈ rows ∧ v ∈ vs ∧ r.rhs = r2.rhs ∧ r.coef = r2.coef ++ [v]
  | [], vs, r, h => by unfold addC at h; cases h
  | x :: rs, [], r, h => by unfold addC at h; cases h
  | x :: rs, v :: vs, r, h => by
    unfold addC at h
    rcases List.mem_cons.1 h with rfl | h
    · exact ⟨x, v, by simp, by simp, rfl, rfl⟩
    · obtain ⟨r2, v2, h1, h2, h3⟩ := addC_mem rs vs r h
      exact ⟨r2, v2, by simp [h1], by simp [h2], h3⟩
theorem Nums.addC {w : World} {rows : List Rw} {cols : List Cl} (h : Nums w rows cols) (vs : List Rv) (hv : ∀ v, v ∈ vs → v.ok w) : Nums w (addC rows vs) cols :=
  ⟨fun r hr => by obtain ⟨r2, v, h1, h2, h3, _⟩ := addC_mem rows vs r hr; rw [h3]; exact h.rhs r2 h1, fun r hr x hx => by
    obtain ⟨r2, v, h1, h2, _, h4⟩ := addC_mem rows vs r hr
    rw [h4] at hx
    rcases List.mem_append.1 hx with hx | hx
    · exact h.coef r2 h1 x hx
    · rw [List.mem_singleton.1 hx]; exact hv v h2, h.cost⟩
theorem Nums.pushCol {w : World} {rows : List Rw} {cols : List Cl} (h : Nums w rows cols) (c : Cl) (hc : c.cost.ok w) : Nums w rows (cols ++ [c]) :=
  ⟨h.rhs, h.coef, fun x hx => by
    rcases List.mem_append.1 hx with hx | hx
    · exact h.cost x hx
    · rw [List.mem_singleton.1 hx]; exact hc⟩
theorem addCol_world {w w3 w4 : World} {sb : Nat} {G : Nat → Prop} {rows : List Rw} {cols : List Cl} {lr lc : Int} {ra ca a4 : Option Addr} {rc cc c4 : Nat} {r : Cl} {ob : Obj}
    (h : BoxA w sb 93 G [.slice ra rows.length rc, .slice ca cols.length cc, .int .i64 lr, .int .i64 lc] (sPs (.slice ra rows.length rc) (.slice ca cols.length cc) rows cols) w3)
    (hmo : Mid w4 0 113 4 (.slice a4 (cols.length + 1) c4) (cols.length + 1) (cols.flatMap colCells ++ colCells r)) (hgo : ((w3.alloc ob).drew).grownBy w4 (Value.slice ca cols.length cc).ownBlock)
    (hbo : (Value.slice a4 (cols.length + 1) c4).ownBlock = (Value.slice ca cols.length cc).ownBlock ∨ (Value.slice a4 (cols.length + 1) c4).ownBlock = some (w3.heap.size + 1)) :
    BoxA w sb 93 G [.slice ra rows.length rc, .slice a4 (cols ++ [r]).length c4, .int .i64 lr, .int .i64 lc] (sPs (.slice ra rows.length rc) (.slice a4 (cols ++ [r]).length c4) rows (cols ++ [r])) (w4.setCell ⟨sb, 1, none⟩ (.slice a4 (cols ++ [r]).length c4)) := by
  have hln : (cols ++ [r]).length = cols.length + 1 := by simp
  have hk : Keeps w3 w4 (fun k => (Value.slice ca cols.length cc).ownBlock = some k) :=
    ((Keeps.alloc w3 ob (fun k => (Value.slice ca cols.length cc).ownBlock = some k)).trans (Keeps.drew _ (fun _ => False)) fun _ _ h => h.elim).trans (Keeps.of_grown hgo (S := fun k => (Value.slice ca cols.length cc).ownBlock = some k) fun b h => h) fun _ _ h => h
  rw [hln]
  refine h.trans fun G1 hq => ?_
  have hw := hq.write 1 (p := (⟨.slice ca cols.length cc, 113, 4, cols.length, cols.flatMap colCells⟩ : Pc)) rfl (⟨.slice a4 (cols.length + 1) c4, 113, 4, cols.length + 1, cols.flatMap colCells ++ colCells r⟩ : Pc) hk hmo (fun k hk => by
    rcases hbo with e | e
    · exact .inl (e.symm.trans hk)
    · right
      have : (Value.slice a4 (cols.length + 1) c4).ownBlock = some k := hk
      rw [e] at this; cases this; omega)
  have hs := hw.trans fun G2 hq2 => hq2.head 1 (.slice a4 (cols.length + 1) c4)
  have e : (sPs (.slice ra rows.length rc) (.slice ca cols.length cc) rows cols).set 1 (⟨.slice a4 (cols.length + 1) c4, 113, 4, cols.length + 1, cols.flatMap colCells ++ colCells r⟩ : Pc) = sPs (.slice ra rows.length rc) (.slice a4 (cols.length + 1) c4) rows (cols ++ [r]) := by
    simp [sPs]
  rw [e] at hs
  exact hs
theorem coef_push {wr w4 : World} {sb b o rc : Nat} {G : Nat → Prop} {rows : List Rw} {cols : List Cl} {lr lc : Int} {ca ja a4 : Option Addr} {cc jc c4 : Nat} {ob : Obj} {v : Rv}
    (h : Box wr sb 93 G [.slice (some ⟨b, o, none⟩) rows.length rc, .slice ca cols.length cc, .int .i64 lr, .int .i64 lc] (sPs (.slice (some ⟨b, o, none⟩) rows.length rc) (.slice ca cols.length cc) rows cols)) (k : Nat) {r : Rw} (hk : rows[k]? = some r) (hcv : r.cv = .slice ja r.coef.length jc)
    (hmo : Mid w4 0 51 3 (.slice a4 (r.coef.length + 1) c4) (r.coef.length + 1) (r.coef.flatMap Rv.cells ++ v.cells)) (hgo : ((wr.alloc ob).drew).grownBy w4 (Value.slice ja r.coef.length jc).ownBlock)
    (hbo : (Value.slice a4 (r.coef.length + 1) c4).ownBlock = (Value.slice ja r.coef.length jc).ownBlock ∨ (Value.slice a4 (r.coef.length + 1) c4).ownBlock = some (wr.heap.size + 1)) (r' : Rw) (hr' : r' = ⟨r.id, r.kind, r.rhs, .slice a4 (r.coef.length + 1) c4, r.coef ++ [v]⟩) :
    BoxA wr sb 93 G [.slice (some ⟨b, o, none⟩) (rows.set k r').length rc, .slice ca cols.length cc, .int .i64 lr, .int .i64 lc] (sPs (.slice (some ⟨b, o, none⟩) (rows.set k r').length rc) (.slice ca cols.length cc) (rows.set k r') cols) (w4.setCell ⟨b, o + k * 6 + 5, none⟩ (.slice a4 (r.coef.length + 1) c4)) := by
  subst hr'
  have hkl := (List.getElem?_eq_some_iff.1 hk).1
  have hke := (List.getElem?_eq_some_iff.1 hk).2
  have hp : (sPs (.slice (some ⟨b, o, none⟩) rows.length rc) (.slice ca cols.length cc) rows cols)[k + 2]? = some (⟨.slice ja r.coef.length jc, 51, 3, r.coef.length, r.coef.flatMap Rv.cells⟩ : Pc) := by
    simp [sPs, hk, coefP, hcv]
  have hkp : Keeps wr w4 (fun k => (Value.slice ja r.coef.length jc).ownBlock = some k) :=
    ((Keeps.alloc wr ob (fun k => (Value.slice ja r.coef.length jc).ownBlock = some k)).trans (Keeps.drew _ (fun _ => False)) fun _ _ h => h.elim).trans (Keeps.of_grown hgo (S := fun k => (Value.slice ja r.coef.length jc).ownBlock = some k) fun b h => h) fun _ _ h => h
  have hw := h.write (k + 2) hp (⟨.slice a4 (r.coef.length + 1) c4, 51, 3, r.coef.length + 1, r.coef.flatMap Rv.cells ++ v.cells⟩ : Pc) hkp hmo (fun k hk => by
    rcases hbo with e | e
    · exact .inl (e.symm.trans hk)
    · right
      have : (Value.slice a4 (r.coef.length + 1) c4).ownBlock = some k := hk
      rw [e] at this; cases this; omega)
  have hs := hw.trans fun G2 hq2 => hq2.elt 0 (g := b) (o := o) (cap := rc) (n := rows.length) (size := 6) (e := 111) (xs := rows.flatMap rowCells) rfl (k * 6 + 5) (.slice a4 (r.coef.length + 1) c4)
  rw [← Nat.add_assoc] at hs
  have e1 := flat_set rowCells 6 rowCells_len rows k hkl ⟨r.id, r.kind, r.rhs, .slice a4 (r.coef.length + 1) c4, r.coef ++ [v]⟩ 5 (by omega) (.slice a4 (r.coef.length + 1) c4) (by rw [hke]; rfl)
  have e : ((sPs (.slice (some ⟨b, o, none⟩) rows.length rc) (.slice ca cols.length cc) rows cols).set (k + 2) (⟨.slice a4 (r.coef.length + 1) c4, 51, 3, r.coef.length + 1, r.coef.flatMap Rv.cells ++ v.cells⟩ : Pc)).set 0 (⟨.slice (some ⟨b, o, none⟩) rows.length rc, 111, 6, rows.length, (rows.flatMap rowCells).set (k * 6 + 5) (.slice a4 (r.coef.length + 1) c4)⟩ : Pc) = sPs (.slice (some ⟨b, o, none⟩) (rows.set k ⟨r.id, r.kind, r.rhs, .slice a4 (r.coef.length + 1) c4, r.coef ++ [v]⟩).length rc) (.slice ca cols.length cc) (rows.set k ⟨r.id, r.kind, r.rhs, .slice a4 (r.coef.length + 1) c4, r.coef ++ [v]⟩) cols := by
    rw [← e1]
    simp [sPs, List.map_set, coefP]
  rw [e] at hs
  rw [List.length_set] at hs ⊢
  exact hs
theorem BoxA.step {w w1 w2 : World} {mb : Nat} {T : TypeId} {G G1 : Nat → Prop} {H : List Value} {Q : List Pc} (hs : ∀ k, G1 k → G k ∨ w.heap.size ≤ k) (hkp : Keeps w w1 G) (h : BoxA w1 mb T G1 H Q w2) : BoxA w mb T G H Q w2 := by
  obtain ⟨G2, a, b, c⟩ := h
  exact ⟨G2, a, fun k hk => (b k hk).elim (fun h => hs k h) (fun h => .inr (Nat.le_trans hkp.size h)), hkp.trans c fun x hx h => (hs x h).resolve_right (by omega)⟩
theorem set_mid {α : Type} (pre rest : List α) (x y : α) (k : Nat) (h : pre.length = k) : (pre ++ x :: rest).set k y = pre ++ [y] ++ rest := by
  subst h
  rw [List.set_append_right _ _ (Nat.le_refl _), Nat.sub_self]
  simp
set_option maxHeartbeats 2000000 in
theorem addCol_full (sb : Nat) (G : Nat → Prop) (rows : List Rw) (cols : List Cl) (lr lc : Int) (v : Rv) (ea : Option Addr) (n ec : Nat) (w : World) (h : SS w sb G rows cols lr lc) (hl : 24 ≤ cols.length) :
    Calls Tryz.prog 17 #[.pointer (some ⟨sb, 0, none⟩), .agg #[.bool v.s, .slice v.a v.l v.c, .slice v.b v.m v.d], .slice ea n ec] w fun e w' => e = .returned (.tuple #[.int .i64 0, eE 2]) ∧ Below w.heap.size w w' := by
  unfold eE
  obtain ⟨ra, ca, rc, cc, r⟩ := (h.below (belowBox w (.cells #[.bool v.s, .slice v.a v.l v.c, .slice v.b v.m v.d] 51))).read
  have c0 := r.c1
  have hl2 : (24 : Int) ≤ (cols.length : Int) := by omega
  clear h r
  go_enter Tryz.func17, Tryz.ntmps17
  go_wp2
  go_ret2
  exact ⟨rfl, belowBox _ _⟩
set_option maxRecDepth 100000 in
set_option maxHeartbeats 4000000 in
theorem addCol_fault (sb : Nat) (G : Nat → Prop) (rows : List Rw) (cols : List Cl) (lr lc : Int) (v : Rv) (es : List Cl) (ea : Option Addr) (ec : Nat) (w : World) (h : SS w sb G rows cols lr lc) (hl : cols.length < 24) (hc : rows.length ≤ 4096)
    (he : Sl w 4 (.slice ea es.length ec) es.length (es.flatMap colCells)) (en id : Int) (hr : layF (rowV rows) 230 es (List.replicate rows.length Rv.zero) (List.replicate rows.length false) = .error (en, id)) :
    Calls Tryz.prog 17 #[.pointer (some ⟨sb, 0, none⟩), .agg #[.bool v.s, .slice v.a v.l v.c, .slice v.b v.m v.d], .slice ea es.length ec] w (FaultR w sRow en id fun x => .returned (.tuple #[.int .i64 0, x])) := by
  have hb0 := belowBox w (.cells #[.bool v.s, .slice v.a v.l v.c, .slice v.b v.m v.d] 51)
  obtain ⟨ra, ca, rc, cc, r⟩ := (h.below hb0).read
  have c0 := r.c0
  have c1 := r.c1
  have hl2 : ¬ (24 : Int) ≤ (cols.length : Int) := by omega
  have HLAY := Lib.hid (hr ▸ lay_row sb rows.length es ea ec (rowV rows) 230 sRow _ (he.below hb0) hc (fun W id hb => rowAt_any sb G rows cols lr lc id W ((h.below hb0).below hb)) (rowV_lt rows))
  unfold sRow at HLAY
  clear h r hr he hb0
  go_enter Tryz.func17, Tryz.ntmps17
  go_wp2_with fail
  refine HLAY.out.mono ?_
  rintro e w1 ⟨b, rfl, hi, hb1, hn1⟩
  have HN := Lib.hid hn1
  clear hn1
  have HI := Lib.hid hi
  have HB := Lib.hid hb1
  clear hi hb1
  unfold eF
  go_wp2
  go_ret2
  exact ⟨b, rfl, HI.out, bthen (belowBox _ _) HB.out, Nat.le_trans (belowBox w _).size HN.out⟩
def AddedCol (w : World) (sb : Nat) (G : Nat → Prop) (rows : List Rw) (cols : List Cl) (lr lc : Int) (v : Rv) (vs : List Rv) (w' : World) : Prop := ∃ rows', rows'.map Rw.bare = (addC rows vs).map Rw.bare ∧ StA w sb G rows' (cols ++ [⟨lc + 1, v⟩]) lr (lc + 1) w'
set_option maxRecDepth 100000 in
set_option maxHeartbeats 16000000 in
theorem addCol_ok (sb : Nat) (G : Nat → Prop) (rows : List Rw) (cols : List Cl) (lr lc : Int) (v : Rv) (es : List Cl) (ea : Option Addr) (ec : Nat) (w : World) (h : SS w sb G rows cols lr lc) (hl : cols.length < 24) (hc : rows.length ≤ 4096) (hr0 : 0 ≤ lc) (hr1 : lc ≤ 4611686018427387904) (hcl : ∀ r, r ∈ rows → r.coef.length ≤ 4096)
    (he : Sl w 4 (.slice ea es.length ec) es.length (es.flatMap colCells)) (hv : v.ok w) (hes : ∀ e, e ∈ es → e.cost.ok w) (vs : List Rv) (hr : layF (rowV rows) 230 es (List.replicate rows.length Rv.zero) (List.replicate rows.length false) = .ok vs) :
    Calls Tryz.prog 17 #[.pointer (some ⟨sb, 0, none⟩), .agg #[.bool v.s, .slice v.a v.l v.c, .slice v.b v.m v.d], .slice ea es.length ec] w fun e w' => e = .returned (.tuple #[.int .i64 (lc + 1), .nilIface]) ∧ AddedCol w sb G rows cols lr lc v vs w' := by
  have hb0 := belowBox w (.cells #[.bool v.s, .slice v.a v.l v.c, .slice v.b v.m v.d] 51)
  obtain ⟨ra, ca, rc, cc, hbox, hnw, hnums⟩ := id h
  have hq := (hbox.below hb0)
  have c0 := hq.cell 0 rfl
  have c1 := hq.cell 1 rfl
  have hl2 : ¬ (24 : Int) ≤ (cols.length : Int) := by omega
  obtain ⟨tc, hic, hc0, hc1, hc2⟩ := info_parts Tryz.infoCol
  obtain ⟨tr, hi, hz0, hz1, hz2⟩ := info_parts Tryz.infoRatV
  have HLAY := Lib.hid (hr ▸ lay_row sb rows.length es ea ec (rowV rows) 230 sRow _ (he.below hb0) hc (fun W id hb => rowAt_any sb G rows cols lr lc id W ((h.below hb0).below hb)) (rowV_lt rows))
  unfold sRow at HLAY
  have hvl : vs.length = rows.length := by rw [layF_len es _ _ vs hr]; simp
  have hvok : ∀ x, x ∈ vs → x.ok w := fun x hx => by
    rcases layF_mem es _ _ vs hr x hx with h1 | ⟨e, h2, rfl⟩
    · rw [(List.mem_replicate.1 h1).2]; exact Rv.zero_ok w
    · exact hes e h2
  have HBOX := Lib.hid hbox
  have HNW := Lib.hid hnw
  have HNUMS := Lib.hid hnums
  have HVL := Lib.hid hvl
  have HVOK := Lib.hid hvok
  have HV := Lib.hid hv
  have HCL := Lib.hid hcl
  have HGl := Lib.hid h.lt
  have HS := Lib.hid h
  have hlt := hbox.lt _ hbox.2.2.1
  clear h hq hr he hb0 hbox hnw hnums hvl hvok hv hes hcl
  go_enter Tryz.func17, Tryz.ntmps17
  go_wp2_with fail
  refine HLAY.out.mono ?_
  rintro e w2 ⟨a2, c2, rfl, hm, hb1⟩
  have hbw := bthen (belowBox w (.cells #[.bool v.s, .slice v.a v.l v.c, .slice v.b v.m v.d] 51)) hb1
  have m0 : w2.cell? ⟨w.heap.size, 0, none⟩ = some (.bool v.s) := ((bcell hb1).1 _ _ (by simp)).trans (by simp)
  have m1 : w2.cell? ⟨w.heap.size, 1, none⟩ = some (.slice v.a v.l v.c) := ((bcell hb1).1 _ _ (by simp)).trans (by simp)
  have m2 : w2.cell? ⟨w.heap.size, 2, none⟩ = some (.slice v.b v.m v.d) := ((bcell hb1).1 _ _ (by simp)).trans (by simp)
  have h2 := HBOX.out.below hbw
  have g2 := h2.cell 3 rfl
  have f2 := h2.free 3
  have hA2 := h2.head 3 (.int .i64 (lc + 1))
  have hszw : w.heap.size < w2.heap.size := by have := hb1.size; simp at this; omega
  have HDN := Lib.hid (fun (wr : World) (hk : Keeps w2 wr G) => (show Mid wr _ 51 3 (.slice a2 rows.length c2) rows.length (vs.flatMap Rv.cells) from hm.keeps hk fun k hk hg => by have h1 := (hm.lt k hk).1; have h2 := HGl.out k hg; simp at h1; omega))
  have HA2 := Lib.hid hA2
  have HBW := Lib.hid hbw
  clear hA2 hm hb1 c0 c1 HLAY h2
  go_upto_region 7 with fail
  have n0 : sb ≠ w.heap.size := by omega
  have r0 : (w2.setCell ⟨sb, 3, none⟩ (.int .i64 (lc + 1))).cell? ⟨w.heap.size, 0, none⟩ = some (.bool v.s) := by rw [World.cell?_setCell_far _ _ _ _ n0]; exact m0
  have r1 : (w2.setCell ⟨sb, 3, none⟩ (.int .i64 (lc + 1))).cell? ⟨w.heap.size, 1, none⟩ = some (.slice v.a v.l v.c) := by rw [World.cell?_setCell_far _ _ _ _ n0]; exact m1
  have r2 : (w2.setCell ⟨sb, 3, none⟩ (.int .i64 (lc + 1))).cell? ⟨w.heap.size, 2, none⟩ = some (.slice v.b v.m v.d) := by rw [World.cell?_setCell_far _ _ _ _ n0]; exact m2
  have hz3 : (w2.setCell ⟨sb, 3, none⟩ (.int .i64 (lc + 1))).heap.size = w2.heap.size := by simp
  clear m0 m1 m2 g2 f2 hbw
  generalize w2.setCell ⟨sb, 3, none⟩ (.int .i64 (lc + 1)) = w3 at HA2 r0 r1 r2 hz3 ⊢
  obtain ⟨G3, hq3, hs3, hk3⟩ := id HA2.out
  simp only [List.set_cons_zero, List.set_cons_succ] at hq3
  have c0 := hq3.cell 1 rfl
  have c2' := hq3.cell 3 rfl
  have f0 := hq3.free 1
  have hsl3 := lt_of_block hq3.1
  have hrm := hq3.mid 1 rfl
  have hfo := hq3.foot 1 rfl
  have HM0 := Lib.hid (show Mid ((w3.alloc (.cells #[.int .i64 (lc + 1), .bool v.s, .slice v.a v.l v.c, .slice v.b v.m v.d] 113)).drew) 0 113 4 (.slice ca cols.length cc) cols.length (cols.flatMap colCells) from (hrm.alloc _).drew)
  have HS0 := Lib.hid (show Src Tryz.prog 4 91 (.slice (some ⟨w3.heap.size, 0, none⟩) 1 1) 1 [.int .i64 (lc + 1), .bool v.s, .slice v.a v.l v.c, .slice v.b v.m v.d] ((w3.alloc (.cells #[.int .i64 (lc + 1), .bool v.s, .slice v.a v.l v.c, .slice v.b v.m v.d] 113)).drew) from (show Sl ((w3.alloc (.cells #[.int .i64 (lc + 1), .bool v.s, .slice v.a v.l v.c, .slice v.b v.m v.d] 113)).drew) 4 _ 1 _ from Sl.lit w3 113 4 1 [.int .i64 (lc + 1), .bool v.s, .slice v.a v.l v.c, .slice v.b v.m v.d] (by unfold maxLen; omega) rfl).src (P := Tryz.prog) Tryz.underlying91 (fun u hu => by
    simp only [List.mem_cons, List.not_mem_nil, or_false] at hu
    rcases hu with rfl | rfl | rfl | rfl <;> rfl))
  have hbo : Below w3.heap.size w3 ((w3.alloc (.cells #[.int .i64 (lc + 1), .bool v.s, .slice v.a v.l v.c, .slice v.b v.m v.d] 113)).drew) := ((Below.refl _ _).alloc (Nat.le_refl _) _).drew
  have hkb : ∀ w4, ((w3.alloc (.cells #[.int .i64 (lc + 1), .bool v.s, .slice v.a v.l v.c, .slice v.b v.m v.d] 113)).drew).grownBy w4 (Value.slice ca cols.length cc).ownBlock → w4.heap[sb]? = w3.heap[sb]? := fun w4 hg => by
    refine (hg.block sb (by simp; omega) fun e => ?_).trans (hbo.block sb hsl3)
    exact (hfo sb e.symm).2 rfl
  have HK0 := Lib.hid (fun w4 hg => (World.cell?_of_block (a := ⟨sb, 1, none⟩) (hkb w4 hg)).trans c0)
  have HK1 := Lib.hid (fun w4 hg => (World.frozen?_of_block (a := ⟨sb, 1, none⟩) (hkb w4 hg)).trans f0)
  have hszb : w.heap.size < w3.heap.size := by omega
  have a0 : (w3.alloc (.cells #[.int .i64 (lc + 1), .bool v.s, .slice v.a v.l v.c, .slice v.b v.m v.d] 113)).cell? ⟨sb, 1, none⟩ = some (.slice ca cols.length cc) := (World.cell?_alloc_lt _ _ ⟨sb, 1, none⟩ hsl3).trans c0
  have a2' : (w3.alloc (.cells #[.int .i64 (lc + 1), .bool v.s, .slice v.a v.l v.c, .slice v.b v.m v.d] 113)).cell? ⟨sb, 3, none⟩ = some (.int .i64 (lc + 1)) := (World.cell?_alloc_lt _ _ ⟨sb, 3, none⟩ hsl3).trans c2'
  clear hq3 hs3 hk3 hrm hfo hbo hkb hszw hz3 n0
  obtain ⟨CC, hCC⟩ : ∃ CC, CC = cols ++ [(⟨lc + 1, v⟩ : Cl)] := ⟨_, rfl⟩
  go_cut [] (fun wx => ∃ ra ca rc cc, BoxA w2 sb 93 G [.slice ra rows.length rc, .slice ca CC.length cc, .int .i64 lr, .int .i64 (lc + 1)] (sPs (.slice ra rows.length rc) (.slice ca CC.length cc) rows CC) wx)
  case first =>
    go_region_law ((refine step_append_mid (v := .slice ca cols.length cc) (by rfl) _ _ 91 91 (by rfl) tc (.agg #[.int .i64 0, .bool false, .slice none 0 0, .slice none 0 0]) 64 Tryz.underlying91 hic hc0 hc1 hc2 rfl (by rfl) HM0.out _ (by rfl) 1 _ HS0.out (by unfold maxLen; omega) (by omega) (Nat.zero_le _) ?_; intro a4 c4 w4 hmo hgo hbo; have q4 := HK0.out w4 hgo; have q5 := HK1.out w4 hgo; have HMO := Lib.hid hmo; have HGO := Lib.hid hgo; have HBO := Lib.hid hbo; clear hmo hgo hbo))
    all_goals
      go_wp2_with fail
      go_meet
      have e := addCol_world (r := ⟨lc + 1, v⟩) HA2.out HMO.out HGO.out (by simpa using HBO.out)
      refine ⟨ra, a4, rc, c4, ?_⟩
      rw [← hCC] at e
      rw [show CC.length = cols.length + 1 by rw [hCC]; simp] at e ⊢
      exact e
  case rest =>
    obtain ⟨wz, rfl⟩ : ∃ wz : World, wz = wc := ⟨_, rfl⟩
    obtain ⟨ra0, ca0, rc0, cc0, hbx⟩ := hcut
    clear HM0 HS0 HK0 HK1 a0 a2' r0 r1 r2 c0 c2' f0 HA2 hsl3 hszb
    have k0 : wz.cell? ⟨sb, 0, none⟩ = some (.slice ra0 rows.length rc0) := by
      obtain ⟨_, hb, _⟩ := id hbx
      exact hb.cell 0 rfl
    have HBX := Lib.hid hbx
    have HR := Lib.hid (show ([] ++ addC (rows.drop 0) (vs.drop 0)).map Rw.bare = (addC rows vs).map Rw.bare by simp)
    obtain ⟨R, hR⟩ : ∃ R, R = (addC rows vs).map Rw.bare := ⟨_, rfl⟩
    rw [← hR] at HR
    have HRR := Lib.hid hR
    clear hR
    clear hbx
    go_wp2_with fail
    clear k0
    go_loopw [60] (fun iv wr => ∃ (k : Nat) (pre : List Rw), k ≤ rows.length ∧ iv = .int .i64 k ∧ pre.length = k ∧ (pre ++ addC (rows.drop k) (vs.drop k)).map Rw.bare = R ∧ ∃ ra ca rc cc, BoxA w2 sb 93 G [.slice ra (pre ++ rows.drop k).length rc, .slice ca CC.length cc, .int .i64 lr, .int .i64 (lc + 1)] (sPs (.slice ra (pre ++ rows.drop k).length rc) (.slice ca CC.length cc) (pre ++ rows.drop k) CC) wr) (fun iv _ => rows.length - (intOf iv).toNat)
    case atStart => exact ⟨0, [], Nat.zero_le _, rfl, rfl, HR.out, ra0, ca0, rc0, cc0, HBX.out⟩
    case round =>
      obtain ⟨k, pre, hk, rfl, hpl, hRk, ra, ca, rc, cc, hbx⟩ := hrel
      by_cases hlt : k < rows.length
      · obtain ⟨rk, hrk⟩ : ∃ rk, rk = pre ++ rows.drop k := ⟨_, rfl⟩
        rw [← hrk] at hbx
        have hd := List.drop_eq_getElem_cons hlt
        have hvlt : k < vs.length := by rw [HVL.out]; exact hlt
        have hdv := List.drop_eq_getElem_cons hvlt
        have hrl := HCL.out rows[k] (List.getElem_mem hlt)
        obtain ⟨r, hr⟩ : ∃ r, r = rows[k] := ⟨_, rfl⟩
        obtain ⟨x, hx⟩ : ∃ x, x = vs[k] := ⟨_, rfl⟩
        have hrkk : rk[k]? = some r := by rw [hrk, ← hpl, hr, List.getElem?_append_right (Nat.le_refl _)]; simp [hpl, hlt]
        have hrkl : rk.length = rows.length := by rw [hrk]; simp; omega
        rw [hd, hdv, ← hr, ← hx] at hRk
        rw [← hr] at hrl
        unfold addC at hRk
        obtain ⟨G1, hq, hs, hkp⟩ := hbx
        have hdn := HDN.out wr hkp
        obtain ⟨b2, o2, e2, hbl2, x0, x1, x2⟩ := rv_get (vs := vs) (by rw [HVL.out]; exact Sl.ofMid hdn) k hvlt
        subst e2
        rw [← hx] at x0 x1 x2
        have hdl := World.block_lt_of_cell? _ _ x0
        have hrm : Mid wr 0 111 6 (.slice ra rk.length rc) rk.length (rk.flatMap rowCells) := hq.mid 0 rfl
        obtain ⟨b, o, e1, hbl, z0, z1, z2, z3, z4, k5⟩ := row_get (Sl.ofMid hrm) k (by omega)
        clear z0 z1 z2 z3 z4
        subst e1
        have hrke := (List.getElem?_eq_some_iff.1 hrkk).2
        rw [hrke] at k5
        have hp : (sPs (.slice (some ⟨b, o, none⟩) rk.length rc) (.slice ca CC.length cc) rk CC)[k + 2]? = some (coefP r) := by simp [sPs, hrkk]
        have hjm : Mid wr 0 51 3 r.cv r.coef.length (r.coef.flatMap Rv.cells) := hq.mid (k + 2) hp
        have hjf := hq.foot (k + 2) hp
        have hja := hq.apart (k + 2) 0 hp rfl (by omega)
        obtain ⟨ja, jc, hcv⟩ := hjm.slice
        rw [hcv] at hjm k5
        have hjf2 : ∀ y, (Value.slice ja r.coef.length jc).ownBlock = some y → y ≠ sb ∧ y ≠ b := fun y hy => ⟨(hjf y (by show r.cv.ownBlock = _; rw [hcv]; exact hy)).2, fun e => hja y (by show r.cv.ownBlock = _; rw [hcv]; exact hy) (by rw [e]; rfl)⟩
        have c0 := hq.cell 0 rfl
        have hsl := lt_of_block hq.1
        have f5 := hrm.frozen (o + k * 6 + 5)
        have hbo : Below wr.heap.size wr ((wr.alloc (.cells #[.bool x.s, .slice x.a x.l x.c, .slice x.b x.m x.d] 51)).drew) := ((Below.refl _ _).alloc (Nat.le_refl _) _).drew
        have hkb : ∀ w4, ((wr.alloc (.cells #[.bool x.s, .slice x.a x.l x.c, .slice x.b x.m x.d] 51)).drew).grownBy w4 (Value.slice ja r.coef.length jc).ownBlock → ∀ y, y < wr.heap.size → (y = sb ∨ y = b) → w4.heap[y]? = wr.heap[y]? := fun w4 hg y hy hye => by
          refine (hg.block y (by simp; omega) fun e => ?_).trans (hbo.block y hy)
          have := hjf2 y e.symm
          omega
        have HK0 := Lib.hid (fun w4 hg => (World.cell?_of_block (a := ⟨sb, 0, none⟩) (hkb w4 hg sb hsl (.inl rfl))).trans c0)
        have HK1 := Lib.hid (fun w4 hg => (World.cell?_of_block (a := ⟨b, o + k * 6 + 5, none⟩) (hkb w4 hg b hbl (.inr rfl))).trans k5)
        have HK2 := Lib.hid (fun w4 hg => (World.frozen?_of_block (a := ⟨b, o + k * 6 + 5, none⟩) (hkb w4 hg b hbl (.inr rfl))).trans f5)
        have i0 : (0 : Int) ≤ (k : Int) := by omega
        have i1 : (k : Int) < (rows.length : Int) := by omega
        have i2 : (k : Int) < (rk.length : Int) := by omega
        have a0 : (wr.alloc (.cells #[.bool x.s, .slice x.a x.l x.c, .slice x.b x.m x.d] 51)).cell? ⟨sb, 0, none⟩ = some (.slice (some ⟨b, o, none⟩) rk.length rc) := (World.cell?_alloc_lt _ _ ⟨sb, 0, none⟩ hsl).trans c0
        have a2 : (wr.alloc (.cells #[.bool x.s, .slice x.a x.l x.c, .slice x.b x.m x.d] 51)).cell? ⟨b, o + k * 6 + 5, none⟩ = some (.slice ja r.coef.length jc) := (World.cell?_alloc_lt _ _ ⟨b, o + k * 6 + 5, none⟩ hbl).trans k5
        have HMJ := Lib.hid (show Mid ((wr.alloc (.cells #[.bool x.s, .slice x.a x.l x.c, .slice x.b x.m x.d] 51)).drew) 0 51 3 (.slice ja r.coef.length jc) r.coef.length (r.coef.flatMap Rv.cells) from (hjm.alloc _).drew)
        have HSJ := Lib.hid (show Src Tryz.prog 3 70 (.slice (some ⟨wr.heap.size, 0, none⟩) 1 1) 1 [.bool x.s, .slice x.a x.l x.c, .slice x.b x.m x.d] ((wr.alloc (.cells #[.bool x.s, .slice x.a x.l x.c, .slice x.b x.m x.d] 51)).drew) from (show Sl ((wr.alloc (.cells #[.bool x.s, .slice x.a x.l x.c, .slice x.b x.m x.d] 51)).drew) 3 _ 1 _ from Sl.lit wr 51 3 1 [.bool x.s, .slice x.a x.l x.c, .slice x.b x.m x.d] (by unfold maxLen; omega) rfl).src (P := Tryz.prog) Tryz.underlying70 (fun u hu => by
          simp only [List.mem_cons, List.not_mem_nil, or_false] at hu
          rcases hu with rfl | rfl | rfl <;> rfl))
        have hcapr : rk.length ≤ rc := (Sl.ofMid hrm).lenI.2.1
        have hcapd : rows.length ≤ c2 := (Sl.ofMid hdn).lenI.2.1
        have HQ := Lib.hid hq
        have HSS := Lib.hid hs
        have HKP := Lib.hid hkp
        have HCV := Lib.hid hcv
        have HRKK := Lib.hid hrkk
        have HRK := Lib.hid hRk
        have HRE := Lib.hid hrk
        have HPL := Lib.hid hpl
        have HD := Lib.hid hd
        have HRR2 := Lib.hid hr
        clear hq hs hkp hcv hrkk hRk hrk hpl hd hdv hr hx hp hjm hjf hja hjf2 hbo hkb hrm hdn hrke
        go_wp2_with fail
        go_region_law ((refine step_append_mid (v := .slice ja r.coef.length jc) (by rfl) _ _ 70 70 (by rfl) tr (.agg #[.bool false, .slice none 0 0, .slice none 0 0]) 56 Tryz.underlying70 hi hz0 hz1 hz2 rfl (by rfl) HMJ.out _ (by rfl) 1 _ HSJ.out (by unfold maxLen; omega) (by omega) (Nat.zero_le _) ?_; intro a4 c4 w4 hmo hgo hbo; have q4 := HK0.out w4 hgo; have q5 := HK1.out w4 hgo; have q6 := HK2.out w4 hgo; have HMO := Lib.hid hmo; have HGO := Lib.hid hgo; have HBO := Lib.hid hbo; clear hmo hgo hbo))
        all_goals
          go_wp2_with fail
          go_roundw
          case rel =>
            refine ⟨k + 1, pre ++ [⟨r.id, r.kind, r.rhs, .slice a4 (r.coef.length + 1) c4, r.coef ++ [x]⟩], by omega, by go_num, by simp [HPL.out], ?_, some ⟨b, o, none⟩, ca, rc, cc, ?_⟩
            · rw [← HRK.out]; simp [Rw.bare]
            · have e := coef_push HQ.out k HRKK.out HCV.out HMO.out HGO.out (by simpa using HBO.out) _ rfl
              have e3 : rk.set k ⟨r.id, r.kind, r.rhs, .slice a4 (r.coef.length + 1) c4, r.coef ++ [x]⟩ = pre ++ [⟨r.id, r.kind, r.rhs, .slice a4 (r.coef.length + 1) c4, r.coef ++ [x]⟩] ++ rows.drop (k + 1) := by
                rw [HRE.out, HD.out]
                exact set_mid pre _ _ _ k HPL.out
              rw [e3] at e
              exact BoxA.step HSS.out HKP.out e
          case measure => simp [intOf]; omega
      · obtain rfl : k = rows.length := by omega
        rw [List.drop_length, List.append_nil] at hbx
        have he : pre.map Rw.bare = (addC rows vs).map Rw.bare := by
          rw [← HRR.out, ← hRk, List.drop_length]
          simp [addC]
        have c3 : wr.cell? ⟨sb, 3, none⟩ = some (.int .i64 (lc + 1)) := by
          obtain ⟨_, hb, _⟩ := id hbx
          exact hb.cell 3 rfl
        have HE := Lib.hid he
        have HBX2 := Lib.hid hbx
        clear he hbx hRk
        go_wp2_with fail
        go_ret2
        refine ⟨rfl, pre, HE.out, ?_⟩
        rw [← hCC]
        refine StA.then_below HBW.out HGl.out (StA.of HBX2.out (HS.out.below HBW.out).noWords (Nums.bare ?_ HE.out))
        rw [hCC]
        exact ((HNUMS.out.below HBW.out).addC vs fun x hx => (HVOK.out x hx).below HBW.out).pushCol _ (HV.out.below HBW.out)
end Go.Proofs.YtaehklhbokocbaaGreatDoor
