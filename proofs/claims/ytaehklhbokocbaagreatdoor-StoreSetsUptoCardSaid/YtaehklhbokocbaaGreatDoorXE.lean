/-
  What the laws of a store stand on, part E: contracts and plain laws of SDropCol, SCopy, SProb; the conditions are each law's own.
-/
import Derived.Test.YtaehklhbokocbaaGreatDoorXD
import Derived.Test.YtaehklhbokocbaaGreatDoorXC
import Derived.Deep.RegionHeld3
set_option linter.unusedVariables false
set_option linter.unusedSimpArgs false
namespace Go.Proofs.YtaehklhbokocbaaGreatDoor
open Go.RowKit Go.Extern.Stop Go.Stop Go.Extern
def dropC (c : Nat) (r : Rw) : Rw := { r with coef := r.coef.eraseIdx c }
theorem Nums.dropC {w : World} {rows : List Rw} {cols : List Cl} (h : Nums w rows cols) (c : Nat) : Nums w (rows.map (dropC c)) cols :=
  ⟨fun r hr => by obtain ⟨r2, h1, rfl⟩ := List.mem_map.1 hr; exact h.rhs r2 h1, fun r hr v hv => by obtain ⟨r2, h1, rfl⟩ := List.mem_map.1 hr; exact h.coef r2 h1 v (List.mem_of_mem_eraseIdx hv), h.cost⟩
section
variable {w : World} {sb : Nat} {G : Nat → Prop} {rows : List Rw} {cols : List Cl} {lr lc : Int} {b o rc cc : Nat} {ra ca : Option Addr}
theorem dropCol_world {w2 : World} (h : Box w sb 93 G [.slice ra rows.length rc, .slice (some ⟨b, o, none⟩) cols.length cc, .int .i64 lr, .int .i64 lc] (sPs (.slice ra rows.length rc) (.slice (some ⟨b, o, none⟩) cols.length cc) rows cols)) (k : Nat) (hk : k < cols.length)
    (hm : Mid w2 0 113 4 (.slice (some ⟨b, o, none⟩) (cols.length - 1) cc) (cols.length - 1) ((cols.flatMap colCells).take (k * 4) ++ (cols.flatMap colCells).drop ((k + 1) * 4))) (hkp : Keeps w w2 fun x => x = b) :
    BoxA w sb 93 G [.slice ra rows.length rc, .slice (some ⟨b, o, none⟩) (cols.eraseIdx k).length cc, .int .i64 lr, .int .i64 lc] (sPs (.slice ra rows.length rc) (.slice (some ⟨b, o, none⟩) (cols.eraseIdx k).length cc) rows (cols.eraseIdx k)) (w2.setCell ⟨sb, 1, none⟩ (.slice (some ⟨b, o, none⟩) (cols.length - 1) cc)) := by
  have hln : (cols.eraseIdx k).length = cols.length - 1 := List.length_eraseIdx_of_lt hk
  have hw := h.write 1 (p := (⟨.slice (some ⟨b, o, none⟩) cols.length cc, 113, 4, cols.length, cols.flatMap colCells⟩ : Pc)) rfl (⟨.slice (some ⟨b, o, none⟩) (cols.length - 1) cc, 113, 4, cols.length - 1, (cols.eraseIdx k).flatMap colCells⟩ : Pc) (hkp.mono fun x _ hx => by rw [hx]; rfl) (by rw [flat_erase colCells 4 colCells_len]; exact hm) fun x hx => .inl hx
  have hs := hw.trans fun G2 hq2 => hq2.head 1 (.slice (some ⟨b, o, none⟩) (cols.length - 1) cc)
  have e : (sPs (.slice ra rows.length rc) (.slice (some ⟨b, o, none⟩) cols.length cc) rows cols).set 1 (⟨.slice (some ⟨b, o, none⟩) (cols.length - 1) cc, 113, 4, cols.length - 1, (cols.eraseIdx k).flatMap colCells⟩ : Pc) = sPs (.slice ra rows.length rc) (.slice (some ⟨b, o, none⟩) (cols.eraseIdx k).length cc) rows (cols.eraseIdx k) := by
    simp only [sPs, List.set_cons_zero, List.set_cons_succ, hln]
  rw [e] at hs
  rw [hln] at hs ⊢
  exact hs
theorem coef_put {w4 : World} (h : Box w sb 93 G [.slice (some ⟨b, o, none⟩) rows.length rc, .slice ca cols.length cc, .int .i64 lr, .int .i64 lc] (sPs (.slice (some ⟨b, o, none⟩) rows.length rc) (.slice ca cols.length cc) rows cols)) (k : Nat) {r : Rw} (hk : rows[k]? = some r) {V : Value} (hcv : r.cv = V) {a4 : Option Addr} {c4 : Nat} {cs : List Rv}
    (hm : Mid w4 0 51 3 (.slice a4 cs.length c4) cs.length (cs.flatMap Rv.cells)) (hkp : Keeps w w4 fun x => V.ownBlock = some x) (hb : ∀ x, (Value.slice a4 cs.length c4).ownBlock = some x → V.ownBlock = some x ∨ w.heap.size ≤ x) (r' : Rw) (hr' : r' = ⟨r.id, r.kind, r.rhs, .slice a4 cs.length c4, cs⟩) :
    BoxA w sb 93 G [.slice (some ⟨b, o, none⟩) (rows.set k r').length rc, .slice ca cols.length cc, .int .i64 lr, .int .i64 lc] (sPs (.slice (some ⟨b, o, none⟩) (rows.set k r').length rc) (.slice ca cols.length cc) (rows.set k r') cols) (w4.setCell ⟨b, o + k * 6 + 5, none⟩ (.slice a4 cs.length c4)) := by
  subst hr' hcv
  have hkl := (List.getElem?_eq_some_iff.1 hk).1
  have hke := (List.getElem?_eq_some_iff.1 hk).2
  have hp : (sPs (.slice (some ⟨b, o, none⟩) rows.length rc) (.slice ca cols.length cc) rows cols)[k + 2]? = some (coefP r) := by simp [sPs, hk]
  have hw := h.write (k + 2) hp (⟨.slice a4 cs.length c4, 51, 3, cs.length, cs.flatMap Rv.cells⟩ : Pc) hkp hm hb
  have hs := hw.trans fun G2 hq2 => hq2.elt 0 (g := b) (o := o) (cap := rc) (n := rows.length) (size := 6) (e := 111) (xs := rows.flatMap rowCells) rfl (k * 6 + 5) (.slice a4 cs.length c4)
  rw [← Nat.add_assoc] at hs
  have e1 := flat_set rowCells 6 rowCells_len rows k hkl ⟨r.id, r.kind, r.rhs, .slice a4 cs.length c4, cs⟩ 5 (by omega) (.slice a4 cs.length c4) (by rw [hke]; rfl)
  have e : ((sPs (.slice (some ⟨b, o, none⟩) rows.length rc) (.slice ca cols.length cc) rows cols).set (k + 2) (⟨.slice a4 cs.length c4, 51, 3, cs.length, cs.flatMap Rv.cells⟩ : Pc)).set 0 (⟨.slice (some ⟨b, o, none⟩) rows.length rc, 111, 6, rows.length, (rows.flatMap rowCells).set (k * 6 + 5) (.slice a4 cs.length c4)⟩ : Pc) = sPs (.slice (some ⟨b, o, none⟩) (rows.set k ⟨r.id, r.kind, r.rhs, .slice a4 cs.length c4, cs⟩).length rc) (.slice ca cols.length cc) (rows.set k ⟨r.id, r.kind, r.rhs, .slice a4 cs.length c4, cs⟩) cols := by
    rw [← e1]
    simp [sPs, List.map_set, coefP]
  rw [e] at hs
  rw [List.length_set] at hs ⊢
  exact hs
end
set_option maxRecDepth 100000 in
set_option maxHeartbeats 2000000 in
theorem dropCol_none (sb : Nat) (G : Nat → Prop) (rows : List Rw) (cols : List Cl) (lr lc id : Int) (w : World) (h : SS w sb G rows cols lr lc) (hh : ¬ colAt cols id < cols.length) :
    Calls Tryz.prog 20 #[.pointer (some ⟨sb, 0, none⟩), .int .i64 id] w (FaultR w sColumn 231 id .returned) := by
  have HA := Lib.hid (colV_no hh ▸ colAt_any sb G rows cols lr lc id _ h)
  clear h
  go_enter Tryz.func20, Tryz.ntmps20
  go_wp2_with fail
  refine HA.out.mono ?_
  rintro e w1 ⟨rfl, hb1⟩
  have HB1 := Lib.hid hb1
  clear hb1
  go_wp2_with fail
  refine (wrap_E 231 ⟨#[99, 111, 108, 117, 109, 110]⟩ id _).mono ?_
  rintro e w2 ⟨rfl, hi, rfl⟩
  have HI := Lib.hid hi
  clear hi
  go_wp2
  go_ret
  exact ⟨_, rfl, HI.out, bthen HB1.out (belowBox _ _), HB1.out.size⟩
set_option maxRecDepth 100000 in
set_option maxHeartbeats 16000000 in
theorem dropCol_ok (sb : Nat) (G : Nat → Prop) (rows : List Rw) (cols : List Cl) (lr lc id : Int) (w : World) (h : SS w sb G rows cols lr lc) (hh : colAt cols id < cols.length) (hcl : ∀ r, r ∈ rows → colAt cols id < r.coef.length ∧ r.coef.length ≤ 4096) :
    Calls Tryz.prog 20 #[.pointer (some ⟨sb, 0, none⟩), .int .i64 id] w fun e w' => e = .returned .nilIface ∧ ∃ rows', rows'.map Rw.bare = (rows.map (dropC (colAt cols id))).map Rw.bare ∧ StA w sb G rows' (cols.eraseIdx (colAt cols id)) lr lc w' := by
  have HA := Lib.hid (colV_at hh ▸ colAt_any sb G rows cols lr lc id _ h)
  have HS := Lib.hid h
  have HCL := Lib.hid hcl
  clear h hcl
  generalize colAt cols id = c at *
  go_enter Tryz.func20, Tryz.ntmps20
  go_wp2_with fail
  refine HA.out.mono ?_
  rintro e w1 ⟨rfl, hb1⟩
  obtain ⟨ra0, ca0, rc0, cc0, hq, hnw, hn⟩ := HS.out.below hb1
  have HB1 := Lib.hid hb1
  have hrm : Mid w1 0 113 4 (.slice ca0 cols.length cc0) cols.length (cols.flatMap colCells) := hq.mid 1 rfl
  obtain ⟨b1, o1, e1, hbl1, z0, z1, z2, z3⟩ := col_get (Sl.ofMid hrm) c hh
  clear z0 z1 z2 z3
  subst e1
  have c0 := hq.cell 0 rfl
  have c1 := hq.cell 1 rfl
  have f1 := hq.free 1
  have hsl := lt_of_block hq.1
  have hne : sb ≠ b1 := fun e => (hq.foot 1 rfl b1 rfl).2 e.symm
  have i0 : (0 : Int) ≤ (c : Int) := by omega
  have hrl : cols.length ≤ 9223372036854775807 := (Sl.ofMid hrm).lenI.1
  have hrl2 : rows.length ≤ 9223372036854775807 := (Sl.ofMid (show Mid w1 0 111 6 (.slice ra0 rows.length rc0) rows.length (rows.flatMap rowCells) from hq.mid 0 rfl)).lenI.1
  have hd := delete_col b1 o1 cols.length cc0 c (c + 1) _ w1 hrm (colCells_one cols) hh rfl
  rw [show ((c + 1 : Nat) : Int) = (c : Int) + 1 from rfl] at hd
  have HD := Lib.hid hd
  have HQ := Lib.hid hq
  have HNW := Lib.hid hnw
  have HN := Lib.hid hn
  clear hd hq hnw hn hrm hb1
  go_wp2_with fail
  refine HD.out.mono ?_
  rintro e w2 ⟨rfl, hm2, hk2⟩
  have c0 := (hk2.cell (a := ⟨sb, 0, none⟩) hsl hne).trans c0
  have c1 := (hk2.cell (a := ⟨sb, 1, none⟩) hsl hne).trans c1
  have f1 := (hk2.frozen (a := ⟨sb, 1, none⟩) hsl hne).trans f1
  obtain ⟨CC, hCC⟩ : ∃ CC, CC = cols.eraseIdx c := ⟨_, rfl⟩
  have HBX := Lib.hid (hCC ▸ dropCol_world HQ.out c hh hm2 hk2)
  clear hm2 hk2
  obtain ⟨R, hR⟩ : ∃ R, R = (rows.map (dropC c)).map Rw.bare := ⟨_, rfl⟩
  have HR := Lib.hid (show ([] ++ (rows.drop 0).map (dropC c)).map Rw.bare = R by rw [hR]; simp)
  have HRR := Lib.hid hR
  have HCC := Lib.hid hCC
  clear hR hCC
  go_wp2_with fail
  go_loopw [31] (fun iv wr => ∃ (k : Nat) (pre : List Rw), k ≤ rows.length ∧ iv = .int .i64 k ∧ pre.length = k ∧ (pre ++ (rows.drop k).map (dropC c)).map Rw.bare = R ∧ ∃ ra ca rc cc, BoxA w1 sb 93 G [.slice ra (pre ++ rows.drop k).length rc, .slice ca CC.length cc, .int .i64 lr, .int .i64 lc] (sPs (.slice ra (pre ++ rows.drop k).length rc) (.slice ca CC.length cc) (pre ++ rows.drop k) CC) wr) (fun iv _ => rows.length - (intOf iv).toNat)
  case atStart => exact ⟨0, [], Nat.zero_le _, rfl, rfl, HR.out, ra0, some ⟨b1, o1, none⟩, rc0, cc0, HBX.out⟩
  case round =>
    clear c0 c1 f1 hsl hne hbl1 HD HQ HBX
    obtain ⟨k, pre, hk, rfl, hpl, hRk, ra, ca, rc, cc, hbx⟩ := hrel
    by_cases hlt : k < rows.length
    · obtain ⟨rk, hrk⟩ : ∃ rk, rk = pre ++ rows.drop k := ⟨_, rfl⟩
      rw [← hrk] at hbx
      have hd := List.drop_eq_getElem_cons hlt
      obtain ⟨hcl1, hcl2⟩ := HCL.out rows[k] (List.getElem_mem hlt)
      obtain ⟨r, hr⟩ : ∃ r, r = rows[k] := ⟨_, rfl⟩
      have hrkk : rk[k]? = some r := by rw [hrk, ← hpl, hr, List.getElem?_append_right (Nat.le_refl _)]; simp [hpl, hlt]
      have hrkl : rk.length = rows.length := by rw [hrk]; simp; omega
      rw [hd, ← hr, List.map_cons] at hRk
      rw [← hr] at hcl1 hcl2
      obtain ⟨G1, hq, hs, hkp⟩ := hbx
      have hrm : Mid wr 0 111 6 (.slice ra rk.length rc) rk.length (rk.flatMap rowCells) := hq.mid 0 rfl
      obtain ⟨b, o, e1, hbl, z0, z1, z2, z3, z4, k5⟩ := row_get (Sl.ofMid hrm) k (by omega)
      clear z0 z1 z2 z3 z4
      subst e1
      have hrke := (List.getElem?_eq_some_iff.1 hrkk).2
      rw [hrke] at k5
      have hp : (sPs (.slice (some ⟨b, o, none⟩) rk.length rc) (.slice ca CC.length cc) rk CC)[k + 2]? = some (coefP r) := by simp [sPs, hrkk]
      have hjm : Mid wr 0 51 3 r.cv r.coef.length (r.coef.flatMap Rv.cells) := hq.mid (k + 2) hp
      have hjf := hq.foot (k + 2) hp
      have hja := hq.apart (k + 2) 0 hp rfl (by omega)
      obtain ⟨ja, jc, hcv⟩ := hjm.slice
      rw [hcv] at hjm k5
      obtain ⟨g, o2, e2, hgl, y0, y1, y2⟩ := rv_get (Sl.ofMid hjm) c hcl1
      clear y0 y1 y2
      subst e2
      have hgs : sb ≠ g := fun e => (hjf g (by show r.cv.ownBlock = _; rw [hcv]; rfl)).2 e.symm
      have hgb : b ≠ g := fun e => hja g (by show r.cv.ownBlock = _; rw [hcv]; rfl) (by rw [← e]; rfl)
      have hbs : b ≠ sb := fun e => (hq.foot 0 rfl b rfl).2 e
      have c0 := hq.cell 0 rfl
      have hsl := lt_of_block hq.1
      have f5 := hrm.frozen (o + k * 6 + 5)
      have hd3 := delete_vec g o2 r.coef.length jc c (c + 1) _ wr.drew hjm.drew (rvCells_one r.coef) hcl1 rfl
      rw [show ((c + 1 : Nat) : Int) = (c : Int) + 1 from rfl] at hd3
      have HDV := Lib.hid hd3
      have hwr : IntKind.i64.wrap ((c : Int) + 1) = (c : Int) + 1 := by rw [IntKind.wrap_i64]; omega
      have k0 : (0 : Int) ≤ (k : Int) := by omega
      have k1 : (k : Int) < (rows.length : Int) := by omega
      have k2 : (k : Int) < (rk.length : Int) := by omega
      have hcapr : rk.length ≤ rc := (Sl.ofMid hrm).lenI.2.1
      have HQ := Lib.hid hq
      have HSS := Lib.hid hs
      have HKP := Lib.hid hkp
      have HCV := Lib.hid hcv
      have HRKK := Lib.hid hrkk
      have HRK := Lib.hid hRk
      have HRE := Lib.hid hrk
      have HPL := Lib.hid hpl
      have HD := Lib.hid (hr ▸ hd)
      clear hq hs hkp hcv hrkk hRk hrk hpl hd hr hp hjm hjf hja hrm hrke hd3
      go_wp2_with fail
      refine wp_region_held_drew (S := fun W => W.cell? ⟨sb, 0, none⟩ = some (.slice (some ⟨b, o, none⟩) rk.length rc)) (by kernel_rfl) (c0) (fun hHeld => ?_)
      refine tk 0 (some 34) (v := ?_) rfl rfl ?_ ?_
      rotate_left
      · (intro w _; go_simp; (try with_reducible rfl))
      simp only [Act.put, stB, stZ, stS]
      refine tk 1 (some 35) (v := ?_) rfl rfl ?_ ?_
      rotate_left
      · (intro w hSw; (try dsimp only at hSw); go_simp; (try with_reducible rfl))
      simp only [Act.put, stB, stZ, stS]
      refine tk 2 (some 36) (v := ?_) rfl rfl ?_ ?_
      rotate_left
      · (intro w _; go_simp; (try with_reducible rfl))
      simp only [Act.put, stB, stZ, stS]
      refine tk 3 (some 37) (v := ?_) rfl rfl ?_ ?_
      rotate_left
      · (intro w hSw; (try dsimp only at hSw); go_simp; (try with_reducible rfl))
      simp only [Act.put, stB, stZ, stS]
      refine tk 4 (some 38) (v := ?_) rfl rfl ?_ ?_
      rotate_left
      · (intro w _; go_simp; (try with_reducible rfl))
      simp only [Act.put, stB, stZ, stS]
      refine tk 5 (some 39) (v := ?_) rfl rfl ?_ ?_
      rotate_left
      · (intro w _; go_simp; (try with_reducible rfl))
      simp only [Act.put, stB, stZ, stS]
      refine tk 6 (some 40) (v := ?_) rfl rfl ?_ ?_
      rotate_left
      · (intro w hSw; (try dsimp only at hSw); go_simp; (try with_reducible rfl))
      simp only [Act.put, stB, stZ, stS]
      refine tk 7 (some 41) (v := ?_) rfl rfl ?_ ?_
      rotate_left
      · (intro w _; go_simp; (try with_reducible rfl))
      simp only [Act.put, stB, stZ, stS]
      refine tk 8 (some 42) (v := ?_) rfl rfl ?_ ?_
      rotate_left
      · (intro w hSw; (try dsimp only at hSw); go_simp; (try with_reducible rfl))
      simp only [Act.put, stB, stZ, stS]
      refine tk 9 (some 43) (v := ?_) rfl rfl ?_ ?_
      rotate_left
      · (intro w _; go_simp; (try with_reducible rfl))
      simp only [Act.put, stB, stZ, stS]
      refine tk 10 (some 44) (v := ?_) rfl rfl ?_ ?_
      rotate_left
      · (intro w hSw; (try dsimp only at hSw); go_simp; (try with_reducible rfl))
      simp only [Act.put, stB, stZ, stS]
      refine tk 11 (some 45) (v := ?_) rfl rfl ?_ ?_
      rotate_left
      · (intro w _; go_simp; (try with_reducible rfl))
      simp only [Act.put, stB, stZ, stS]
      refine tk 13 (some 47) (v := ?_) rfl rfl ?_ ?_
      rotate_left
      · (intro w _; go_simp; (try with_reducible rfl))
      simp only [Act.put, stB, stZ, stS]
      refine tk 14 (some 48) (v := ?_) rfl rfl ?_ ?_
      rotate_left
      · (intro w _; go_simp; (try with_reducible rfl))
      simp only [Act.put, stB, stZ, stS]
      refine tk 15 (some 49) (v := ?_) rfl rfl ?_ ?_
      rotate_left
      · (intro w _; go_simp; (try with_reducible rfl))
      simp only [Act.put, stB, stZ, stS]
      refine wpAnyH_ready (rs := [12]) (by kernel_rfl) (by simp) ?_
      refine (AllReadyH.cons (o := { dst := some 46, op := Op.load 70 (Operand.tmp 45), type := 70, pos := "store.go:116", after := #[{ on := 11, ground := Ground.data }], guard := none }) rfl (fun K hK => ?_) AllReadyH.nil)
      go_simp
      refine hK.out _ _ (hHeld) (fun hHeld2 => ?_)
      clear hK K hHeld
      rename _ => hHeld
      try simp only [Act.put, stB, stZ, stS]
      refine wpAnyH_ready (rs := [16]) (by kernel_rfl) (by simp) ?_
      refine (AllReadyH.cons (o := { dst := some 50, op := Op.call { callee := Callee.value (Operand.func 57), args := #[Operand.tmp 46, Operand.tmp 47, Operand.tmp 49], argTypes := #[70, 3, 3] }, type := 70, pos := "store.go:116", after := #[{ on := 12, ground := Ground.data }, { on := 13, ground := Ground.data }, { on := 15, ground := Ground.data }], guard := none }) rfl (fun K hK => ?_) AllReadyH.nil)
      go_simp
      refine HDV.out.mono ?_
      rintro e w3 ⟨rfl, hm3, hk3⟩
      have hk3 := (Keeps.drew wr (fun x => x = g)).trans hk3 (fun _ _ h => h)
      have u0 := (hk3.cell (a := ⟨sb, 0, none⟩) hsl hgs).trans c0
      have u5 := (hk3.cell (a := ⟨b, o + k * 6 + 5, none⟩) hbl hgb).trans k5
      have g5 := (hk3.frozen (a := ⟨b, o + k * 6 + 5, none⟩) hbl hgb).trans f5
      have HM3 := Lib.hid hm3
      have HK3 := Lib.hid hk3
      clear hm3 hk3
      dsimp only
      refine hK.out _ _ (u0) (fun hHeld2 => ?_)
      clear hK K hHeld
      rename _ => hHeld
      try simp only [Act.put, stB, stZ, stS]
      refine tk 17 (some 51) (v := ?_) rfl rfl ?_ ?_
      rotate_left
      · (intro w hSw; (try dsimp only at hSw); go_simp; (try with_reducible rfl))
      simp only [Act.put, stB, stZ, stS]
      refine tk 18 (some 52) (v := ?_) rfl rfl ?_ ?_
      rotate_left
      · (intro w _; go_simp; (try with_reducible rfl))
      simp only [Act.put, stB, stZ, stS]
      refine wpAnyH_ready (rs := [19]) (by kernel_rfl) (by simp) ?_
      refine (AllReadyH.cons (o := { dst := none, op := Op.store 70 (Operand.tmp 52) (Operand.tmp 50), type := 0, pos := "store.go:116", after := #[{ on := 18, ground := Ground.data }, { on := 16, ground := Ground.data }, { on := 16, ground := Ground.chain }, { on := 0, ground := Ground.phase }, { on := 1, ground := Ground.phase }, { on := 2, ground := Ground.phase }, { on := 3, ground := Ground.phase }, { on := 4, ground := Ground.phase }, { on := 5, ground := Ground.phase }, { on := 6, ground := Ground.phase }, { on := 7, ground := Ground.phase }, { on := 8, ground := Ground.phase }, { on := 9, ground := Ground.phase }, { on := 10, ground := Ground.phase }, { on := 11, ground := Ground.phase }, { on := 12, ground := Ground.phase }, { on := 13, ground := Ground.phase }, { on := 14, ground := Ground.phase }, { on := 15, ground := Ground.phase }, { on := 16, ground := Ground.phase }], guard := none }) rfl (fun K hK => ?_) AllReadyH.nil)
      go_simp
      refine hK.out _ _ ((World.cell?_setCell_far _ _ _ _ hbs).trans u0) (fun hHeld2 => ?_)
      clear hK K hHeld
      rename _ => hHeld
      try simp only [Act.put, stB, stZ, stS]
      refine wpAnyH_done (by kernel_rfl) ?_ _
      (try simp only [Exit.inBlock, Exit.then])
      go_wp2_with fail
      go_roundw
      case rel =>
        refine ⟨k + 1, pre ++ [⟨r.id, r.kind, r.rhs, .slice (some ⟨g, o2, none⟩) (r.coef.length - 1) jc, r.coef.eraseIdx c⟩], by omega, by go_num, by simp [HPL.out], ?_, some ⟨b, o, none⟩, ca, rc, cc, ?_⟩
        · rw [← HRK.out]; simp [Rw.bare, dropC]
        · have e := coef_put HQ.out k HRKK.out HCV.out (cs := r.coef.eraseIdx c) (by rw [flat_erase Rv.cells 3 rvCells_len, List.length_eraseIdx_of_lt hcl1]; exact HM3.out) (HK3.out.mono fun x _ hx => by rw [hx]; rfl) (fun x hx => .inl hx) _ rfl
          have e3 : rk.set k ⟨r.id, r.kind, r.rhs, .slice (some ⟨g, o2, none⟩) (r.coef.eraseIdx c).length jc, r.coef.eraseIdx c⟩ = pre ++ [⟨r.id, r.kind, r.rhs, .slice (some ⟨g, o2, none⟩) (r.coef.eraseIdx c).length jc, r.coef.eraseIdx c⟩] ++ rows.drop (k + 1) := by
            rw [HRE.out, HD.out]
            exact set_mid pre _ _ _ k HPL.out
          rw [e3] at e
          rw [List.length_eraseIdx_of_lt hcl1] at e
          exact BoxA.step HSS.out HKP.out e
      case measure => simp [intOf]; omega
    · obtain rfl : k = rows.length := by omega
      rw [List.drop_length, List.append_nil] at hbx
      have he : pre.map Rw.bare = (rows.map (dropC c)).map Rw.bare := by
        rw [← HRR.out, ← hRk, List.drop_length]
        simp
      have HE := Lib.hid he
      have HBX2 := Lib.hid hbx
      clear he hbx hRk
      go_wp2_with fail
      go_ret
      refine ⟨rfl, pre, HE.out, ?_⟩
      rw [← HCC.out]
      refine StA.then_below HB1.out HS.out.lt (StA.of HBX2.out HNW.out (Nums.bare ?_ HE.out))
      exact (HN.out.dropC c).sub (fun _ h => h) fun x hx => by rw [HCC.out] at hx; exact List.mem_of_mem_eraseIdx hx
end Go.Proofs.YtaehklhbokocbaaGreatDoor
namespace Go.Proofs.YtaehklhbokocbaaGreatDoor
open Go.RowKit Go.Extern.Stop Go.Stop Go.Extern
def BoxN (w : World) (mb : Nat) (T : TypeId) (hs : List Value) (ps : List Pc) (w' : World) : Prop := ∃ G, Box w' mb T G hs ps ∧ (∀ k, G k → w.heap.size ≤ k) ∧ Below w.heap.size w w'
theorem BoxN.step {w wr w' : World} {mb : Nat} {T : TypeId} {hs hs2 : List Value} {ps ps2 : List Pc} (h : BoxN w mb T hs ps wr) (k : ∀ G1, Box wr mb T G1 hs ps → BoxA wr mb T G1 hs2 ps2 w') : BoxN w mb T hs2 ps2 w' := by
  obtain ⟨G1, h1, h2, h3⟩ := h
  obtain ⟨G2, k1, k2, k3⟩ := k G1 h1
  have := h3.size
  refine ⟨G2, k1, fun x hx => ?_, h3.trans (k3.below (by omega) fun b hb => h2 b hb)⟩
  rcases k2 x hx with h | h
  · exact h2 x h
  · omega
theorem BoxN.of {w wr w' : World} {mb : Nat} {T : TypeId} {hs : List Value} {ps : List Pc} {G1 : Nat → Prop} (hg : ∀ k, G1 k → w.heap.size ≤ k) (hb : Below w.heap.size w wr) (h : BoxA wr mb T G1 hs ps w') : BoxN w mb T hs ps w' := by
  obtain ⟨G2, k1, k2, k3⟩ := h
  have := hb.size
  refine ⟨G2, k1, fun x hx => ?_, hb.trans (k3.below (by omega) fun b hb => hg b hb)⟩
  rcases k2 x hx with h | h
  · exact hg x h
  · omega
end Go.Proofs.YtaehklhbokocbaaGreatDoor
namespace Go.Proofs.YtaehklhbokocbaaGreatDoor
open Go.RowKit Go.Extern.Stop Go.Stop Go.Extern
theorem Tryz.infoPRow : (Tryz.prog.info? 82).map (fun i => (i.zero, i.size, i.bytes)) = some (some (.agg #[.slice none 0 0, .int .i64 0, .bool false, .slice none 0 0, .slice none 0 0]), 5, 88) := by kernel_rfl
def prowCells (r : Rw) : List Value := [r.cv, .int .i64 r.kind, .bool r.rhs.s, .slice r.rhs.a r.rhs.l r.rhs.c, .slice r.rhs.b r.rhs.m r.rhs.d]
theorem prowCells_len (r : Rw) : (prowCells r).length = 5 := rfl
def pPs (cv rv : Value) (cs : List Rv) (rows : List Rw) : List Pc :=
  ⟨cv, 51, 3, cs.length, cs.flatMap Rv.cells⟩ :: ⟨rv, 82, 5, rows.length, rows.flatMap prowCells⟩ :: rows.map coefP
theorem Box.grow {w w4 : World} {mb : Nat} {T : TypeId} {G : Nat → Prop} {hs : List Value} {ps : List Pc} (h : Box w mb T G hs ps) (i j : Nat) {a a4 : Option Addr} {n c n4 c4 size : Nat} {e : TypeId} {xs xs4 : List Value} (hp : ps[i]? = some ⟨.slice a n c, e, size, n, xs⟩)
    (hm : Mid w4 0 e size (.slice a4 n4 c4) n4 xs4) (hk : Keeps w w4 fun k => (Value.slice a n c).ownBlock = some k) (hb : ∀ k, (Value.slice a4 n4 c4).ownBlock = some k → (Value.slice a n c).ownBlock = some k ∨ w.heap.size ≤ k) :
    BoxA w mb T G (hs.set j (.slice a4 n4 c4)) (ps.set i ⟨.slice a4 n4 c4, e, size, n4, xs4⟩) (w4.setCell ⟨mb, j, none⟩ (.slice a4 n4 c4)) :=
  (h.write i hp (⟨.slice a4 n4 c4, e, size, n4, xs4⟩ : Pc) hk hm hb).trans fun _ h2 => h2.head j _
theorem grown_keeps {w3 w4 : World} {ob : Obj} {row : Option Nat} (h : (w3.alloc ob).grownBy w4 row) : Keeps w3 w4 fun k => row = some k :=
  (Keeps.alloc w3 ob (fun k => row = some k)).trans (Keeps.of_grown h (S := fun k => row = some k) fun b h => h) fun _ _ h => h
theorem prob_push {w w3 w4 : World} {pb : Nat} {G : Nat → Prop} {cs : List Rv} {rows : List Rw} {ca ra a2 a4 : Option Addr} {cc rc c2 c4 : Nat} {ob : Obj} {i k : Int} {rhs : Rv} {coef : List Rv}
    (h : BoxA w pb 73 G [.slice ca cs.length cc, .slice ra rows.length rc] (pPs (.slice ca cs.length cc) (.slice ra rows.length rc) cs rows ++ [⟨.slice a2 coef.length c2, 51, 3, coef.length, coef.flatMap Rv.cells⟩]) w3)
    (hm : Mid w4 0 82 5 (.slice a4 (rows.length + 1) c4) (rows.length + 1) (rows.flatMap prowCells ++ [.slice a2 coef.length c2, .int .i64 k, .bool rhs.s, .slice rhs.a rhs.l rhs.c, .slice rhs.b rhs.m rhs.d])) (hg : (w3.alloc ob).grownBy w4 (Value.slice ra rows.length rc).ownBlock)
    (hb : (Value.slice a4 (rows.length + 1) c4).ownBlock = (Value.slice ra rows.length rc).ownBlock ∨ (Value.slice a4 (rows.length + 1) c4).ownBlock = some (w3.alloc ob).heap.size) :
    BoxA w pb 73 G [.slice ca cs.length cc, .slice a4 (rows.length + 1) c4] (pPs (.slice ca cs.length cc) (.slice a4 (rows.length + 1) c4) cs (rows ++ [⟨i, k, rhs, .slice a2 coef.length c2, coef⟩])) (w4.setCell ⟨pb, 1, none⟩ (.slice a4 (rows.length + 1) c4)) := by
  refine h.trans fun G1 hq => ?_
  have hs := hq.grow 1 1 (a := ra) (n := rows.length) (c := rc) rfl hm (grown_keeps hg) fun k hk => by
    rcases hb with e | e
    · exact .inl (e.symm.trans hk)
    · right; rw [e] at hk; cases hk; simp
  have e : (pPs (.slice ca cs.length cc) (.slice ra rows.length rc) cs rows ++ [(⟨.slice a2 coef.length c2, 51, 3, coef.length, coef.flatMap Rv.cells⟩ : Pc)]).set 1 (⟨.slice a4 (rows.length + 1) c4, 82, 5, rows.length + 1, rows.flatMap prowCells ++ [.slice a2 coef.length c2, .int .i64 k, .bool rhs.s, .slice rhs.a rhs.l rhs.c, .slice rhs.b rhs.m rhs.d]⟩ : Pc) = pPs (.slice ca cs.length cc) (.slice a4 (rows.length + 1) c4) cs (rows ++ [⟨i, k, rhs, .slice a2 coef.length c2, coef⟩]) := by
    simp [pPs, coefP, prowCells]
  rw [e] at hs
  exact hs
theorem prob_cost {w w3 w4 : World} {pb : Nat} {G : Nat → Prop} {cs : List Rv} {rows : List Rw} {ca ra a4 : Option Addr} {cc rc c4 : Nat} {ob : Obj} {v : Rv}
    (h : BoxA w pb 73 G [.slice ca cs.length cc, .slice ra rows.length rc] (pPs (.slice ca cs.length cc) (.slice ra rows.length rc) cs rows) w3)
    (hm : Mid w4 0 51 3 (.slice a4 (cs.length + 1) c4) (cs.length + 1) (cs.flatMap Rv.cells ++ v.cells)) (hg : (w3.alloc ob).grownBy w4 (Value.slice ca cs.length cc).ownBlock)
    (hb : (Value.slice a4 (cs.length + 1) c4).ownBlock = (Value.slice ca cs.length cc).ownBlock ∨ (Value.slice a4 (cs.length + 1) c4).ownBlock = some (w3.alloc ob).heap.size) :
    BoxA w pb 73 G [.slice a4 (cs.length + 1) c4, .slice ra rows.length rc] (pPs (.slice a4 (cs.length + 1) c4) (.slice ra rows.length rc) (cs ++ [v]) rows) (w4.setCell ⟨pb, 0, none⟩ (.slice a4 (cs.length + 1) c4)) := by
  refine h.trans fun G1 hq => ?_
  have hs := hq.grow 0 0 (a := ca) (n := cs.length) (c := cc) rfl hm (grown_keeps hg) fun k hk => by
    rcases hb with e | e
    · exact .inl (e.symm.trans hk)
    · right; rw [e] at hk; cases hk; simp
  have e : (pPs (.slice ca cs.length cc) (.slice ra rows.length rc) cs rows).set 0 (⟨.slice a4 (cs.length + 1) c4, 51, 3, cs.length + 1, cs.flatMap Rv.cells ++ v.cells⟩ : Pc) = pPs (.slice a4 (cs.length + 1) c4) (.slice ra rows.length rc) (cs ++ [v]) rows := by
    simp [pPs]
  rw [e] at hs
  exact hs
theorem prob_start (w : World) : BoxN w w.heap.size 73 [.slice none 0 0, .slice none 0 0] (pPs (.slice none 0 0) (.slice none 0 0) [] []) (w.alloc (.cells #[.slice none 0 0, .slice none 0 0] 73)) := by
  refine ⟨fun k => k = w.heap.size, ⟨heap_alloc_new _ _, ⟨fun p hp => ?_, ?_⟩, rfl, fun k hk => ?_, fun k hk => by rw [hk]; simp⟩, fun k hk => by rw [hk]; exact Nat.le_refl _, belowBox _ _⟩
  · simp only [pPs, List.map_nil, List.mem_cons, List.not_mem_nil, or_false] at hp
    rcases hp with rfl | rfl <;> exact Mid.nil _ _ _ _
  · exact List.pairwise_cons.2 ⟨fun p hp k h => (by cases h), List.pairwise_singleton _ _⟩
  · obtain ⟨p, hp, hv⟩ := hk
    simp only [pPs, List.map_nil, List.mem_cons, List.not_mem_nil, or_false] at hp
    rcases hp with rfl | rfl <;> cases hv
def PW (w : World) (F : Nat → Prop) (ca ra : Option Addr) (cc rc : Nat) (cs : List Rv) (rows : List Rw) : Prop :=
  Own w (pPs (.slice ca cs.length cc) (.slice ra rows.length rc) cs rows) ∧ (∀ k, Foot (pPs (.slice ca cs.length cc) (.slice ra rows.length rc) cs rows) k → F k) ∧ ∀ k, F k → k < w.heap.size
def ProbS (w : World) (cs : List Rv) (rows : List Rw) (e : Ending) (w' : World) : Prop :=
  ∃ F ca ra cc rc rows', e = .returned (.agg #[.slice ca cs.length cc, .slice ra rows'.length rc]) ∧ rows'.map Rw.bare = rows.map Rw.bare ∧ PW w' F ca ra cc rc cs rows' ∧ (∀ k, F k → w.heap.size ≤ k) ∧ Below w.heap.size w w'
set_option maxRecDepth 100000 in
set_option maxHeartbeats 8000000 in
theorem prob_any (sb : Nat) (G : Nat → Prop) (rows : List Rw) (cols : List Cl) (lr lc : Int) (w : World) (h : SS w sb G rows cols lr lc) (hl : rows.length ≤ 4096) (hc : cols.length ≤ 4096) (hcl : ∀ r, r ∈ rows → r.coef.length ≤ 4096) :
    Calls Tryz.prog 30 #[.pointer (some ⟨sb, 0, none⟩)] w (ProbS w (cols.map (·.cost)) rows) := by
  obtain ⟨tr, hi, hz0, hz1, hz2⟩ := info_parts Tryz.infoRat
  obtain ⟨tp, hp, hp0, hp1, hp2⟩ := info_parts Tryz.infoPRow
  have HONE := Lib.hid (fun (r : Rw) (_ : r ∈ rows) => rvCells_one r.coef)
  have HLE := Lib.hid hcl
  have hlt := h.lt
  have hsl := hlt sb h.here
  have hb0 := bthen (belowBox w (.cells #[.slice none 0 0, .slice none 0 0] 73)) (belowBox _ (.cells #[.slice none 0 0, .slice none 0 0] 73))
  obtain ⟨ra, ca, rc, cc, r⟩ := h.read
  have c1 := (r.below hb0).c1
  have HR := Lib.hid (r.below (belowBox w (.cells #[.slice none 0 0, .slice none 0 0] 73)))
  have HST := Lib.hid (prob_start (w.alloc (.cells #[.slice none 0 0, .slice none 0 0] 73)))
  clear h r hcl hlt hb0
  go_enter Tryz.func30, Tryz.ntmps30
  go_wp2_with fail
  have hrb := heap_alloc_new w (.cells #[.slice none 0 0, .slice none 0 0] 73)
  have hB0 := belowBox w (.cells #[.slice none 0 0, .slice none 0 0] 73)
  have hsz0 := World.size_alloc w (.cells #[.slice none 0 0, .slice none 0 0] 73)
  rw [hsz0] at HST
  obtain ⟨pb, hpb⟩ : ∃ pb, w.heap.size + 1 = pb := ⟨_, rfl⟩
  obtain ⟨w0, hw0⟩ : ∃ w0, w.alloc (.cells #[.slice none 0 0, .slice none 0 0] 73) = w0 := ⟨_, rfl⟩
  rw [hw0] at HST HR c1 hrb hB0 hsz0
  rw [hpb] at HST hsz0
  obtain ⟨wb, hwb⟩ : ∃ wb, w0.alloc (.cells #[.slice none 0 0, .slice none 0 0] 73) = wb := ⟨_, rfl⟩
  rw [hwb] at HST c1
  simp only [hpb, hw0, hwb]
  have HRB := Lib.hid hrb
  have HB0 := Lib.hid hB0
  have hsl0 : sb < w0.heap.size := by omega
  have HPBE := Lib.hid (show w.heap.size < pb by omega)
  have HSZ0 := Lib.hid hsz0
  clear hrb hB0 hw0 hwb hpb hsz0 c1
  go_loopw [13] (fun iv wr => ∃ (k : Nat) (pre : List Rv) (qa : Option Addr) (qc : Nat), k ≤ cols.length ∧ iv = .int .i64 k ∧ pre = (cols.take k).map (·.cost) ∧ BoxN w0 pb 73 [.slice qa pre.length qc, .slice none 0 0] (pPs (.slice qa pre.length qc) (.slice none 0 0) pre []) wr) (fun iv _ => cols.length - (intOf iv).toNat)
  case atStart => exact ⟨0, [], none, 0, Nat.zero_le _, rfl, rfl, HST.out⟩
  case round =>
    obtain ⟨k, pre, qa, qc, hk, rfl, hpre, hbn⟩ := hrel
    obtain ⟨G1, hq, hg, hbw⟩ := hbn
    have hrr := HR.out.below hbw
    have hpl : pre.length = k := by rw [hpre]; simp; omega
    by_cases hlt : k < cols.length
    · obtain ⟨b, o, rfl, hbl, k0, k1, k2, k3⟩ := col_get hrr.cls k hlt
      obtain ⟨x, hx⟩ : ∃ x, x = cols[k] := ⟨_, rfl⟩
      rw [← hx] at k0 k1 k2 k3
      have i0 : (0 : Int) ≤ (k : Int) := by omega
      have i1 : (k : Int) < (cols.length : Int) := by omega
      have hcapr : cols.length ≤ cc := hrr.cls.lenI.2.1
      have hrl : cols.length ≤ 9223372036854775807 := hrr.cls.lenI.1
      have hpbl := lt_of_block hq.1
      have hbo : Below wr.heap.size wr ((wr.alloc (.cells #[.int .i64 x.id, .bool x.cost.s, .slice x.cost.a x.cost.l x.cost.c, .slice x.cost.b x.cost.m x.cost.d] 113)).alloc (.cells #[.bool x.cost.s, .slice x.cost.a x.cost.l x.cost.c, .slice x.cost.b x.cost.m x.cost.d] 51)) := bthen (belowBox wr (.cells #[.int .i64 x.id, .bool x.cost.s, .slice x.cost.a x.cost.l x.cost.c, .slice x.cost.b x.cost.m x.cost.d] 113)) (belowBox _ (.cells #[.bool x.cost.s, .slice x.cost.a x.cost.l x.cost.c, .slice x.cost.b x.cost.m x.cost.d] 51))
      have d0 := (hbo.cell (p := ⟨pb, 0, none⟩) hpbl).trans (hq.cell 0 rfl)
      have e0 := ((belowBox wr (.cells #[.int .i64 x.id, .bool x.cost.s, .slice x.cost.a x.cost.l x.cost.c, .slice x.cost.b x.cost.m x.cost.d] 113)).cell (p := ⟨pb, 0, none⟩) hpbl).trans (hq.cell 0 rfl)
      have f0 := (hbo.frozen (p := ⟨pb, 0, none⟩) hpbl).trans (hq.free 0)
      have hrm := hq.mid 0 rfl
      have hfo := hq.foot 0 rfl
      have HM3 := Lib.hid (show Mid ((wr.alloc (.cells #[.int .i64 x.id, .bool x.cost.s, .slice x.cost.a x.cost.l x.cost.c, .slice x.cost.b x.cost.m x.cost.d] 113)).alloc (.cells #[.bool x.cost.s, .slice x.cost.a x.cost.l x.cost.c, .slice x.cost.b x.cost.m x.cost.d] 51)) 0 51 3 (.slice qa pre.length qc) pre.length (pre.flatMap Rv.cells) from (hrm.alloc _).alloc _)
      have HS3 := Lib.hid (show Src Tryz.prog 3 70 (.slice (some ⟨wr.heap.size + 1, 0, none⟩) 1 1) 1 [.bool x.cost.s, .slice x.cost.a x.cost.l x.cost.c, .slice x.cost.b x.cost.m x.cost.d] ((wr.alloc (.cells #[.int .i64 x.id, .bool x.cost.s, .slice x.cost.a x.cost.l x.cost.c, .slice x.cost.b x.cost.m x.cost.d] 113)).alloc (.cells #[.bool x.cost.s, .slice x.cost.a x.cost.l x.cost.c, .slice x.cost.b x.cost.m x.cost.d] 51)) from by
        have := (Sl.lit (wr.alloc (.cells #[.int .i64 x.id, .bool x.cost.s, .slice x.cost.a x.cost.l x.cost.c, .slice x.cost.b x.cost.m x.cost.d] 113)) 51 3 1 [.bool x.cost.s, .slice x.cost.a x.cost.l x.cost.c, .slice x.cost.b x.cost.m x.cost.d] (by unfold maxLen; omega) rfl).src (P := Tryz.prog) Tryz.underlying70 (fun u hu => by
          simp only [List.mem_cons, List.not_mem_nil, or_false] at hu
          rcases hu with rfl | rfl | rfl <;> rfl)
        rw [World.size_alloc] at this
        exact this)
      have hkb : ∀ w4, ((wr.alloc (.cells #[.int .i64 x.id, .bool x.cost.s, .slice x.cost.a x.cost.l x.cost.c, .slice x.cost.b x.cost.m x.cost.d] 113)).alloc (.cells #[.bool x.cost.s, .slice x.cost.a x.cost.l x.cost.c, .slice x.cost.b x.cost.m x.cost.d] 51)).grownBy w4 (Value.slice qa pre.length qc).ownBlock → w4.heap[pb]? = ((wr.alloc (.cells #[.int .i64 x.id, .bool x.cost.s, .slice x.cost.a x.cost.l x.cost.c, .slice x.cost.b x.cost.m x.cost.d] 113)).alloc (.cells #[.bool x.cost.s, .slice x.cost.a x.cost.l x.cost.c, .slice x.cost.b x.cost.m x.cost.d] 51)).heap[pb]? := fun w4 hg => hg.block pb (by simp; omega) fun e => (hfo pb e.symm).2 rfl
      have HK0 := Lib.hid (fun w4 hg => (World.cell?_of_block (a := ⟨pb, 0, none⟩) (hkb w4 hg)).trans d0)
      have HK1 := Lib.hid (fun w4 hg => (World.frozen?_of_block (a := ⟨pb, 0, none⟩) (hkb w4 hg)).trans f0)
      have hpk : pre.length ≤ 4096 := by omega
      have HA1 := Lib.hid (BoxA.of_below hq (belowBox wr (.cells #[.int .i64 x.id, .bool x.cost.s, .slice x.cost.a x.cost.l x.cost.c, .slice x.cost.b x.cost.m x.cost.d] 113)))
      have HG := Lib.hid hg
      have HBW := Lib.hid hbw
      have HPRE := Lib.hid hpre
      have HX := Lib.hid hx
      have HPL := Lib.hid hpl
      clear hq hg hbw hpre hx hrr hrm hfo hkb hbo hpl
      go_wp2_with (at_builtin; refine wpList_append_mid (v := .slice qa pre.length qc) rfl _ _ 70 70 rfl tr (.agg #[.bool false, .slice none 0 0, .slice none 0 0]) 56 Tryz.underlying70 hi hz0 hz1 hz2 rfl rfl HM3.out _ rfl 1 _ HS3.out (by unfold maxLen; omega) (by omega) (Nat.zero_le _) ?_; intro a4 c4 w4 hmo hgo hbo; have q4 := HK0.out w4 hgo; have q5 := HK1.out w4 hgo; have HMO := Lib.hid hmo; have HGO := Lib.hid hgo; have HBO := Lib.hid hbo; clear hmo hgo hbo)
      go_roundw
      case rel =>
        have e := prob_cost (v := x.cost) (rows := []) (rc := 0) (ra := none) HA1.out HMO.out HGO.out HBO.out
        refine ⟨k + 1, pre ++ [x.cost], a4, c4, by omega, by go_num, ?_, ?_⟩
        · rw [HPRE.out, List.take_succ_eq_append_getElem hlt, List.map_append, ← HX.out]; rfl
        · refine BoxN.of HG.out HBW.out ?_
          rw [List.length_append]
          exact e
      case measure => simp [intOf]; omega
    · obtain rfl : k = cols.length := by omega
      rw [List.take_length] at hpre
      subst hpre
      obtain ⟨w5, rfl⟩ : ∃ w5 : World, w5 = wr := ⟨_, rfl⟩
      have c0 := hrr.c0
      obtain ⟨CS, hCS⟩ : ∃ CS, CS = cols.map (·.cost) := ⟨_, rfl⟩
      rw [← hCS] at hq
      have HSTB := Lib.hid (show BoxN w0 pb 73 [.slice qa CS.length qc, .slice none 0 0] (pPs (.slice qa CS.length qc) (.slice none 0 0) CS []) w5 from ⟨G1, hq, hg, hbw⟩)
      have HCS := Lib.hid hCS
      clear hq hg hbw hrr hpl hCS
      go_wp2_with fail
      clear c0
      go_loopw [30] (fun iv wr => ∃ (k : Nat) (pre : List Rw) (ra : Option Addr) (rc : Nat), k ≤ rows.length ∧ iv = .int .i64 k ∧ pre.map Rw.bare = (rows.take k).map Rw.bare ∧ BoxN w0 pb 73 [.slice qa CS.length qc, .slice ra pre.length rc] (pPs (.slice qa CS.length qc) (.slice ra pre.length rc) CS pre) wr) (fun iv _ => rows.length - (intOf iv).toNat)
      case atStart => exact ⟨0, [], none, 0, Nat.zero_le _, rfl, rfl, HSTB.out⟩
      case round =>
        obtain ⟨ca9, cc9, hca9⟩ : ∃ ca9 cc9, ca9 = qa ∧ cc9 = qc := ⟨_, _, rfl, rfl⟩
        obtain ⟨rfl, rfl⟩ := hca9
        obtain ⟨k, pre, qa, qc, hk, rfl, hpre, hbn⟩ := hrel
        obtain ⟨G1, hq, hg, hbw⟩ := hbn
        have hrr := HR.out.below hbw
        have hpl : pre.length = k := by have := congrArg List.length hpre; simp at this; omega
        by_cases hlt : k < rows.length
        · obtain ⟨b, o, rfl, hbl, k0, k1, k2, k3, k4, k5⟩ := row_get hrr.rws k hlt
          obtain ⟨r, hr⟩ : ∃ r, r = rows[k] := ⟨_, rfl⟩
          rw [← hr] at k0 k1 k2 k3 k4 k5
          have hrm : r ∈ rows := by rw [hr]; exact List.getElem_mem hlt
          have hco := hrr.coef r hrm
          have hone := HONE.out r hrm
          have hle := HLE.out r hrm
          obtain ⟨ja, jc, hcv, _⟩ := hco.len
          rw [hcv] at hco k5
          have i0 : (0 : Int) ≤ (k : Int) := by omega
          have i1 : (k : Int) < (rows.length : Int) := by omega
          have hcapr : rows.length ≤ rc := hrr.rws.lenI.2.1
          have hrl : rows.length ≤ 9223372036854775807 := hrr.rws.lenI.1
          have hpk : pre.length ≤ 4096 := by omega
          have HCP := Lib.hid (vcopy_any ja r.coef.length jc _ (wr.alloc (.cells #[.int .i64 r.id, .int .i64 r.kind, .bool r.rhs.s, .slice r.rhs.a r.rhs.l r.rhs.c, .slice r.rhs.b r.rhs.m r.rhs.d, .slice ja r.coef.length jc] 111)).drew ((hco.alloc _).below (Below.drawn _ 1)) hone (by omega))
          have hpbl := lt_of_block hq.1
          have p0 : (wr.alloc (.cells #[.int .i64 r.id, .int .i64 r.kind, .bool r.rhs.s, .slice r.rhs.a r.rhs.l r.rhs.c, .slice r.rhs.b r.rhs.m r.rhs.d, .slice ja r.coef.length jc] 111)).cell? ⟨pb, 1, none⟩ = some (.slice qa pre.length qc) := (World.cell?_alloc_lt _ _ ⟨pb, 1, none⟩ hpbl).trans (hq.cell 1 rfl)
          have e1 : (wr.alloc (.cells #[.int .i64 r.id, .int .i64 r.kind, .bool r.rhs.s, .slice r.rhs.a r.rhs.l r.rhs.c, .slice r.rhs.b r.rhs.m r.rhs.d, .slice ja r.coef.length jc] 111)).cell? ⟨wr.heap.size, 1, none⟩ = some (.int .i64 r.kind) := by simp
          have e2 : (wr.alloc (.cells #[.int .i64 r.id, .int .i64 r.kind, .bool r.rhs.s, .slice r.rhs.a r.rhs.l r.rhs.c, .slice r.rhs.b r.rhs.m r.rhs.d, .slice ja r.coef.length jc] 111)).cell? ⟨wr.heap.size, 2, none⟩ = some (.bool r.rhs.s) := by simp
          have e3 : (wr.alloc (.cells #[.int .i64 r.id, .int .i64 r.kind, .bool r.rhs.s, .slice r.rhs.a r.rhs.l r.rhs.c, .slice r.rhs.b r.rhs.m r.rhs.d, .slice ja r.coef.length jc] 111)).cell? ⟨wr.heap.size, 3, none⟩ = some (.slice r.rhs.a r.rhs.l r.rhs.c) := by simp
          have e4 : (wr.alloc (.cells #[.int .i64 r.id, .int .i64 r.kind, .bool r.rhs.s, .slice r.rhs.a r.rhs.l r.rhs.c, .slice r.rhs.b r.rhs.m r.rhs.d, .slice ja r.coef.length jc] 111)).cell? ⟨wr.heap.size, 4, none⟩ = some (.slice r.rhs.b r.rhs.m r.rhs.d) := by simp
          have e5 : (wr.alloc (.cells #[.int .i64 r.id, .int .i64 r.kind, .bool r.rhs.s, .slice r.rhs.a r.rhs.l r.rhs.c, .slice r.rhs.b r.rhs.m r.rhs.d, .slice ja r.coef.length jc] 111)).cell? ⟨wr.heap.size, 5, none⟩ = some (.slice ja r.coef.length jc) := by simp
          have HQL := Lib.hid (fun y (hy : (Value.slice qa pre.length qc).ownBlock = some y) => hq.lt y (hq.foot 1 rfl y hy).1)
          have HPL2 := Lib.hid (show pb ≠ wr.heap.size by omega)
          have HQ := Lib.hid hq
          have HG := Lib.hid hg
          have HBW := Lib.hid hbw
          have HPRE := Lib.hid hpre
          have HRM := Lib.hid hr
          clear hq hg hbw hpre hpl hr hrr hco hone hcv
          go_wp2_with fail
          refine wp_region_held_drew (S := fun W => W.cell? ⟨wr.heap.size, 1, none⟩ = some (.int .i64 r.kind) ∧ W.cell? ⟨wr.heap.size, 2, none⟩ = some (.bool r.rhs.s) ∧ W.cell? ⟨wr.heap.size, 3, none⟩ = some (.slice r.rhs.a r.rhs.l r.rhs.c) ∧ W.cell? ⟨wr.heap.size, 4, none⟩ = some (.slice r.rhs.b r.rhs.m r.rhs.d) ∧ W.cell? ⟨wr.heap.size, 5, none⟩ = some (.slice ja r.coef.length jc)) (by kernel_rfl) (⟨e1, e2, e3, e4, e5⟩) (fun hHeld => ?_)
          refine tk 0 (some 34) (v := ?_) rfl rfl ?_ ?_
          rotate_left
          · (intro w _; go_simp; (try with_reducible rfl))
          simp only [Act.put, stB, stZ, stS]
          refine tk 2 (some 36) (v := ?_) rfl rfl ?_ ?_
          rotate_left
          · (intro w _; go_simp; (try with_reducible rfl))
          simp only [Act.put, stB, stZ, stS]
          refine tk 3 (some 37) (v := ?_) rfl rfl ?_ ?_
          rotate_left
          · (intro w hSw; (try dsimp only at hSw); ((try obtain ⟨hSw1, hSw2, hSw3, hSw4, hSw5⟩ := hSw); go_simp); (try with_reducible rfl))
          simp only [Act.put, stB, stZ, stS]
          refine tk 5 (some 39) (v := ?_) rfl rfl ?_ ?_
          rotate_left
          · (intro w _; go_simp; (try with_reducible rfl))
          simp only [Act.put, stB, stZ, stS]
          refine tk 6 (some 40) (v := ?_) rfl rfl ?_ ?_
          rotate_left
          · (intro w hSw; (try dsimp only at hSw); ((try obtain ⟨hSw1, hSw2, hSw3, hSw4, hSw5⟩ := hSw); go_simp); (try with_reducible rfl))
          simp only [Act.put, stB, stZ, stS]
          refine tk 7 (some 41) (v := ?_) rfl rfl ?_ ?_
          rotate_left
          · (intro w _; go_simp; (try with_reducible rfl))
          simp only [Act.put, stB, stZ, stS]
          refine tk 8 (some 42) (v := ?_) rfl rfl ?_ ?_
          rotate_left
          · (intro w hSw; (try dsimp only at hSw); ((try obtain ⟨hSw1, hSw2, hSw3, hSw4, hSw5⟩ := hSw); go_simp); (try with_reducible rfl))
          simp only [Act.put, stB, stZ, stS]
          refine wpAnyH_ready (rs := [1, 4]) (by kernel_rfl) (by simp) ?_
          refine (AllReadyH.cons (o := { dst := some 35, op := Op.load 71 (Operand.tmp 34), type := 71, pos := "store.go:189", after := #[{ on := 0, ground := Ground.data }], guard := none }) rfl (fun K hK => ?_) (AllReadyH.cons (o := { dst := some 38, op := Op.call { callee := Callee.value (Operand.func 62), args := #[Operand.tmp 37], argTypes := #[70] }, type := 70, pos := "store.go:189", after := #[{ on := 3, ground := Ground.data }], guard := none }) rfl (fun K hK => ?_) AllReadyH.nil))
          · skip
            go_simp
            refine hK.out _ _ (hHeld) (fun hHeld2 => ?_)
            clear hK K hHeld
            rename _ => hHeld
            try simp only [Act.put, stB, stZ, stS]
            refine wpAnyH_ready (rs := [4]) (by kernel_rfl) (by simp) ?_
            refine (AllReadyH.cons (o := { dst := some 38, op := Op.call { callee := Callee.value (Operand.func 62), args := #[Operand.tmp 37], argTypes := #[70] }, type := 70, pos := "store.go:189", after := #[{ on := 3, ground := Ground.data }], guard := none }) rfl (fun K hK => ?_) AllReadyH.nil)
            go_simp
            refine HCP.out.mono ?_
            rintro e w2 ⟨a2, c2, rfl, hm2, hb2⟩
            have hz2 := hb2.size
            simp at hz2
            have hb3 : Below wr.heap.size wr w2 := bthen (belowBox wr (.cells #[.int .i64 r.id, .int .i64 r.kind, .bool r.rhs.s, .slice r.rhs.a r.rhs.l r.rhs.c, .slice r.rhs.b r.rhs.m r.rhs.d, .slice ja r.coef.length jc] 111)) (bthen (Below.drawn _ 1) hb2)
            have hA1 := HQ.out.push hb3 ⟨.slice a2 r.coef.length c2, 51, 3, r.coef.length, r.coef.flatMap Rv.cells⟩ (pc_mid hm2) (fun k hk => by have := (hm2.lt k hk).1; simp at this; omega)
            have hAA := hA1
            obtain ⟨G3, hq3, hs3, hk3⟩ := hAA
            have hbS := fun j v (h : (wr.alloc (.cells #[.int .i64 r.id, .int .i64 r.kind, .bool r.rhs.s, .slice r.rhs.a r.rhs.l r.rhs.c, .slice r.rhs.b r.rhs.m r.rhs.d, .slice ja r.coef.length jc] 111)).drew.cell? ⟨wr.heap.size, j, none⟩ = some v) => ((bcell hb2).1 wr.heap.size j (by simp)).trans h
            have d0 := hq3.cell 1 rfl
            have f0 := hq3.free 1
            have hsl3 := lt_of_block hq3.1
            have hrm3 := hq3.mid 1 rfl
            have hfo := hq3.foot 1 rfl
            have HM0 := Lib.hid (show Mid (w2.alloc (.cells #[.slice a2 r.coef.length c2, .int .i64 r.kind, .bool r.rhs.s, .slice r.rhs.a r.rhs.l r.rhs.c, .slice r.rhs.b r.rhs.m r.rhs.d] 82)) 0 82 5 (.slice qa pre.length qc) pre.length (pre.flatMap prowCells) from hrm3.alloc _)
            have HS0 := Lib.hid (show Src Tryz.prog 5 71 (.slice (some ⟨w2.heap.size, 0, none⟩) 1 1) 1 [.slice a2 r.coef.length c2, .int .i64 r.kind, .bool r.rhs.s, .slice r.rhs.a r.rhs.l r.rhs.c, .slice r.rhs.b r.rhs.m r.rhs.d] (w2.alloc (.cells #[.slice a2 r.coef.length c2, .int .i64 r.kind, .bool r.rhs.s, .slice r.rhs.a r.rhs.l r.rhs.c, .slice r.rhs.b r.rhs.m r.rhs.d] 82)) from (show Sl (w2.alloc (.cells #[.slice a2 r.coef.length c2, .int .i64 r.kind, .bool r.rhs.s, .slice r.rhs.a r.rhs.l r.rhs.c, .slice r.rhs.b r.rhs.m r.rhs.d] 82)) 5 _ 1 _ from Sl.lit w2 82 5 1 [.slice a2 r.coef.length c2, .int .i64 r.kind, .bool r.rhs.s, .slice r.rhs.a r.rhs.l r.rhs.c, .slice r.rhs.b r.rhs.m r.rhs.d] (by unfold maxLen; omega) rfl).src (P := Tryz.prog) Tryz.underlying71 (fun u hu => by
              simp only [List.mem_cons, List.not_mem_nil, or_false] at hu
              rcases hu with rfl | rfl | rfl | rfl | rfl <;> rfl))
            have hkb : ∀ y w4, y < w2.heap.size → (y = pb ∨ y = wr.heap.size) → (w2.alloc (.cells #[.slice a2 r.coef.length c2, .int .i64 r.kind, .bool r.rhs.s, .slice r.rhs.a r.rhs.l r.rhs.c, .slice r.rhs.b r.rhs.m r.rhs.d] 82)).grownBy w4 (Value.slice qa pre.length qc).ownBlock → w4.heap[y]? = w2.heap[y]? := fun y w4 hy hye hg => by
              refine (hg.block y (by simp; omega) fun e => ?_).trans ((belowBox w2 (.cells #[.slice a2 r.coef.length c2, .int .i64 r.kind, .bool r.rhs.s, .slice r.rhs.a r.rhs.l r.rhs.c, .slice r.rhs.b r.rhs.m r.rhs.d] 82)).block y hy)
              rcases hye with rfl | rfl
              · exact (hfo _ e.symm).2 rfl
              · have := (HQL.out _ e.symm); omega
            have HK0 := Lib.hid (fun w4 hg => (World.cell?_of_block (a := ⟨pb, 1, none⟩) (hkb pb w4 hsl3 (.inl rfl) hg)).trans d0)
            have HK1 := Lib.hid (fun w4 hg => (World.frozen?_of_block (a := ⟨pb, 1, none⟩) (hkb pb w4 hsl3 (.inl rfl) hg)).trans f0)
            have HKS := Lib.hid (fun w4 hg j v (h : w2.cell? ⟨wr.heap.size, j, none⟩ = some v) => (World.cell?_of_block (a := ⟨wr.heap.size, j, none⟩) (hkb wr.heap.size w4 (by omega) (.inr rfl) hg)).trans h)
            have a0 : (w2.alloc (.cells #[.slice a2 r.coef.length c2, .int .i64 r.kind, .bool r.rhs.s, .slice r.rhs.a r.rhs.l r.rhs.c, .slice r.rhs.b r.rhs.m r.rhs.d] 82)).cell? ⟨pb, 1, none⟩ = some (.slice qa pre.length qc) := (World.cell?_alloc_lt _ _ ⟨pb, 1, none⟩ hsl3).trans d0
            have HA1 := Lib.hid hA1
            have HSB := Lib.hid hbS
            clear hA1 hq3 hs3 hk3 hrm3 hfo hkb hb3 hb2 hm2 hbS
            dsimp only
            refine hK.out _ _ (⟨HSB.out 1 _ hHeld.1, HSB.out 2 _ hHeld.2.1, HSB.out 3 _ hHeld.2.2.1, HSB.out 4 _ hHeld.2.2.2.1, HSB.out 5 _ hHeld.2.2.2.2⟩) (fun hHeld2 => ?_)
            clear hK K hHeld
            rename _ => hHeld
            try simp only [Act.put, stB, stZ, stS]
            refine tk 9 (some 43) (v := ?_) rfl rfl ?_ ?_
            rotate_left
            · (intro w _; go_simp; (try with_reducible rfl))
            simp only [Act.put, stB, stZ, stS]
            refine wpAnyH_ready (rs := [10]) (by kernel_rfl) (by simp) ?_
            refine (AllReadyH.cons (o := { dst := some 44, op := Op.buildSlice 71 1 #[(0, Operand.tmp 43)], type := 71, pos := "store.go:189", after := #[{ on := 9, ground := Ground.data }], guard := none }) rfl (fun K hK => ?_) AllReadyH.nil)
            go_simp
            refine hK.out _ _ (⟨(World.cell?_alloc_lt _ _ ⟨wr.heap.size, 1, none⟩ (World.block_lt_of_cell? _ _ hHeld.1)).trans hHeld.1, (World.cell?_alloc_lt _ _ ⟨wr.heap.size, 2, none⟩ (World.block_lt_of_cell? _ _ hHeld.2.1)).trans hHeld.2.1, (World.cell?_alloc_lt _ _ ⟨wr.heap.size, 3, none⟩ (World.block_lt_of_cell? _ _ hHeld.2.2.1)).trans hHeld.2.2.1, (World.cell?_alloc_lt _ _ ⟨wr.heap.size, 4, none⟩ (World.block_lt_of_cell? _ _ hHeld.2.2.2.1)).trans hHeld.2.2.2.1, (World.cell?_alloc_lt _ _ ⟨wr.heap.size, 5, none⟩ (World.block_lt_of_cell? _ _ hHeld.2.2.2.2)).trans hHeld.2.2.2.2⟩) (fun hHeld2 => ?_)
            clear hK K hHeld
            rename _ => hHeld
            try simp only [Act.put, stB, stZ, stS]
            refine wpAnyH_ready (rs := [11]) (by kernel_rfl) (by simp) ?_
            refine (AllReadyH.cons (o := { dst := some 45, op := Op.call { callee := Callee.builtin Builtin.append, args := #[Operand.tmp 35, Operand.tmp 44], argTypes := #[71, 71] }, type := 71, pos := "store.go:189", after := #[{ on := 1, ground := Ground.data }, { on := 10, ground := Ground.data }, { on := 4, ground := Ground.chain }], guard := none }) rfl (fun K hK => ?_) AllReadyH.nil)
            refine step_append_mid (v := .slice qa pre.length qc) (by rfl) _ _ 71 71 (by rfl) tp (.agg #[.slice none 0 0, .int .i64 0, .bool false, .slice none 0 0, .slice none 0 0]) 88 Tryz.underlying71 hp hp0 hp1 hp2 rfl (by rfl) HM0.out _ (by rfl) 1 _ HS0.out (by unfold maxLen; omega) (by omega) (Nat.zero_le _) ?_
            intro a4 c4 w4 hmo hgo hbo
            have q4 := HK0.out w4 hgo
            have q5 := HK1.out w4 hgo
            have HMO := Lib.hid hmo
            have HGO := Lib.hid hgo
            have HBO := Lib.hid hbo
            clear hmo hgo hbo
            dsimp only
            refine hK.out _ _ (⟨HKS.out w4 HGO.out 1 _ ((World.cell?_alloc_lt _ _ ⟨wr.heap.size, 1, none⟩ (by show wr.heap.size < w2.heap.size; omega)).symm.trans hHeld.1), HKS.out w4 HGO.out 2 _ ((World.cell?_alloc_lt _ _ ⟨wr.heap.size, 2, none⟩ (by show wr.heap.size < w2.heap.size; omega)).symm.trans hHeld.2.1), HKS.out w4 HGO.out 3 _ ((World.cell?_alloc_lt _ _ ⟨wr.heap.size, 3, none⟩ (by show wr.heap.size < w2.heap.size; omega)).symm.trans hHeld.2.2.1), HKS.out w4 HGO.out 4 _ ((World.cell?_alloc_lt _ _ ⟨wr.heap.size, 4, none⟩ (by show wr.heap.size < w2.heap.size; omega)).symm.trans hHeld.2.2.2.1), HKS.out w4 HGO.out 5 _ ((World.cell?_alloc_lt _ _ ⟨wr.heap.size, 5, none⟩ (by show wr.heap.size < w2.heap.size; omega)).symm.trans hHeld.2.2.2.2)⟩) (fun hHeld2 => ?_)
            clear hK K hHeld
            rename _ => hHeld
            try simp only [Act.put, stB, stZ, stS]
            refine tk 12 (some 46) (v := ?_) rfl rfl ?_ ?_
            rotate_left
            · (intro w _; go_simp; (try with_reducible rfl))
            simp only [Act.put, stB, stZ, stS]
            refine wpAnyH_ready (rs := [13]) (by kernel_rfl) (by simp) ?_
            refine (AllReadyH.cons (o := { dst := none, op := Op.store 71 (Operand.tmp 46) (Operand.tmp 45), type := 0, pos := "store.go:189", after := #[{ on := 12, ground := Ground.data }, { on := 11, ground := Ground.data }, { on := 11, ground := Ground.chain }, { on := 0, ground := Ground.phase }, { on := 1, ground := Ground.phase }, { on := 2, ground := Ground.phase }, { on := 3, ground := Ground.phase }, { on := 4, ground := Ground.phase }, { on := 5, ground := Ground.phase }, { on := 6, ground := Ground.phase }, { on := 7, ground := Ground.phase }, { on := 8, ground := Ground.phase }, { on := 9, ground := Ground.phase }, { on := 10, ground := Ground.phase }, { on := 11, ground := Ground.phase }], guard := none }) rfl (fun K hK => ?_) AllReadyH.nil)
            go_simp
            refine hK.out _ _ (⟨(World.cell?_setCell_far _ _ _ _ HPL2.out).trans hHeld.1, (World.cell?_setCell_far _ _ _ _ HPL2.out).trans hHeld.2.1, (World.cell?_setCell_far _ _ _ _ HPL2.out).trans hHeld.2.2.1, (World.cell?_setCell_far _ _ _ _ HPL2.out).trans hHeld.2.2.2.1, (World.cell?_setCell_far _ _ _ _ HPL2.out).trans hHeld.2.2.2.2⟩) (fun hHeld2 => ?_)
            clear hK K hHeld
            rename _ => hHeld
            try simp only [Act.put, stB, stZ, stS]
            refine wpAnyH_done (by kernel_rfl) ?_ _
            (try simp only [Exit.inBlock, Exit.then])
            go_wp2_with fail
            go_roundw
            case rel =>
              have e := prob_push (i := r.id) HA1.out HMO.out HGO.out HBO.out
              refine ⟨k + 1, pre ++ [⟨r.id, r.kind, r.rhs, .slice a2 r.coef.length c2, r.coef⟩], a4, c4, by omega, by go_num, ?_, ?_⟩
              · rw [List.map_append, HPRE.out, List.take_succ_eq_append_getElem hlt, List.map_append, ← HRM.out]; rfl
              · refine BoxN.of HG.out HBW.out ?_
                rw [List.length_append]
                exact e
            case measure => simp [intOf]; omega
          · skip
            go_simp
            refine HCP.out.mono ?_
            rintro e w2 ⟨a2, c2, rfl, hm2, hb2⟩
            have hz2 := hb2.size
            simp at hz2
            have hb3 : Below wr.heap.size wr w2 := bthen (belowBox wr (.cells #[.int .i64 r.id, .int .i64 r.kind, .bool r.rhs.s, .slice r.rhs.a r.rhs.l r.rhs.c, .slice r.rhs.b r.rhs.m r.rhs.d, .slice ja r.coef.length jc] 111)) (bthen (Below.drawn _ 1) hb2)
            have hA1 := HQ.out.push hb3 ⟨.slice a2 r.coef.length c2, 51, 3, r.coef.length, r.coef.flatMap Rv.cells⟩ (pc_mid hm2) (fun k hk => by have := (hm2.lt k hk).1; simp at this; omega)
            have hAA := hA1
            obtain ⟨G3, hq3, hs3, hk3⟩ := hAA
            have hbS := fun j v (h : (wr.alloc (.cells #[.int .i64 r.id, .int .i64 r.kind, .bool r.rhs.s, .slice r.rhs.a r.rhs.l r.rhs.c, .slice r.rhs.b r.rhs.m r.rhs.d, .slice ja r.coef.length jc] 111)).drew.cell? ⟨wr.heap.size, j, none⟩ = some v) => ((bcell hb2).1 wr.heap.size j (by simp)).trans h
            have d0 := hq3.cell 1 rfl
            have f0 := hq3.free 1
            have hsl3 := lt_of_block hq3.1
            have hrm3 := hq3.mid 1 rfl
            have hfo := hq3.foot 1 rfl
            have HM0 := Lib.hid (show Mid (w2.alloc (.cells #[.slice a2 r.coef.length c2, .int .i64 r.kind, .bool r.rhs.s, .slice r.rhs.a r.rhs.l r.rhs.c, .slice r.rhs.b r.rhs.m r.rhs.d] 82)) 0 82 5 (.slice qa pre.length qc) pre.length (pre.flatMap prowCells) from hrm3.alloc _)
            have HS0 := Lib.hid (show Src Tryz.prog 5 71 (.slice (some ⟨w2.heap.size, 0, none⟩) 1 1) 1 [.slice a2 r.coef.length c2, .int .i64 r.kind, .bool r.rhs.s, .slice r.rhs.a r.rhs.l r.rhs.c, .slice r.rhs.b r.rhs.m r.rhs.d] (w2.alloc (.cells #[.slice a2 r.coef.length c2, .int .i64 r.kind, .bool r.rhs.s, .slice r.rhs.a r.rhs.l r.rhs.c, .slice r.rhs.b r.rhs.m r.rhs.d] 82)) from (show Sl (w2.alloc (.cells #[.slice a2 r.coef.length c2, .int .i64 r.kind, .bool r.rhs.s, .slice r.rhs.a r.rhs.l r.rhs.c, .slice r.rhs.b r.rhs.m r.rhs.d] 82)) 5 _ 1 _ from Sl.lit w2 82 5 1 [.slice a2 r.coef.length c2, .int .i64 r.kind, .bool r.rhs.s, .slice r.rhs.a r.rhs.l r.rhs.c, .slice r.rhs.b r.rhs.m r.rhs.d] (by unfold maxLen; omega) rfl).src (P := Tryz.prog) Tryz.underlying71 (fun u hu => by
              simp only [List.mem_cons, List.not_mem_nil, or_false] at hu
              rcases hu with rfl | rfl | rfl | rfl | rfl <;> rfl))
            have hkb : ∀ y w4, y < w2.heap.size → (y = pb ∨ y = wr.heap.size) → (w2.alloc (.cells #[.slice a2 r.coef.length c2, .int .i64 r.kind, .bool r.rhs.s, .slice r.rhs.a r.rhs.l r.rhs.c, .slice r.rhs.b r.rhs.m r.rhs.d] 82)).grownBy w4 (Value.slice qa pre.length qc).ownBlock → w4.heap[y]? = w2.heap[y]? := fun y w4 hy hye hg => by
              refine (hg.block y (by simp; omega) fun e => ?_).trans ((belowBox w2 (.cells #[.slice a2 r.coef.length c2, .int .i64 r.kind, .bool r.rhs.s, .slice r.rhs.a r.rhs.l r.rhs.c, .slice r.rhs.b r.rhs.m r.rhs.d] 82)).block y hy)
              rcases hye with rfl | rfl
              · exact (hfo _ e.symm).2 rfl
              · have := (HQL.out _ e.symm); omega
            have HK0 := Lib.hid (fun w4 hg => (World.cell?_of_block (a := ⟨pb, 1, none⟩) (hkb pb w4 hsl3 (.inl rfl) hg)).trans d0)
            have HK1 := Lib.hid (fun w4 hg => (World.frozen?_of_block (a := ⟨pb, 1, none⟩) (hkb pb w4 hsl3 (.inl rfl) hg)).trans f0)
            have HKS := Lib.hid (fun w4 hg j v (h : w2.cell? ⟨wr.heap.size, j, none⟩ = some v) => (World.cell?_of_block (a := ⟨wr.heap.size, j, none⟩) (hkb wr.heap.size w4 (by omega) (.inr rfl) hg)).trans h)
            have a0 : (w2.alloc (.cells #[.slice a2 r.coef.length c2, .int .i64 r.kind, .bool r.rhs.s, .slice r.rhs.a r.rhs.l r.rhs.c, .slice r.rhs.b r.rhs.m r.rhs.d] 82)).cell? ⟨pb, 1, none⟩ = some (.slice qa pre.length qc) := (World.cell?_alloc_lt _ _ ⟨pb, 1, none⟩ hsl3).trans d0
            have HA1 := Lib.hid hA1
            have HSB := Lib.hid hbS
            clear hA1 hq3 hs3 hk3 hrm3 hfo hkb hb3 hb2 hm2 hbS
            dsimp only
            refine hK.out _ _ (⟨HSB.out 1 _ hHeld.1, HSB.out 2 _ hHeld.2.1, HSB.out 3 _ hHeld.2.2.1, HSB.out 4 _ hHeld.2.2.2.1, HSB.out 5 _ hHeld.2.2.2.2⟩) (fun hHeld2 => ?_)
            clear hK K hHeld
            rename _ => hHeld
            try simp only [Act.put, stB, stZ, stS]
            refine tk 9 (some 43) (v := ?_) rfl rfl ?_ ?_
            rotate_left
            · (intro w _; go_simp; (try with_reducible rfl))
            simp only [Act.put, stB, stZ, stS]
            refine wpAnyH_ready (rs := [1, 10]) (by kernel_rfl) (by simp) ?_
            refine (AllReadyH.cons (o := { dst := some 35, op := Op.load 71 (Operand.tmp 34), type := 71, pos := "store.go:189", after := #[{ on := 0, ground := Ground.data }], guard := none }) rfl (fun K hK => ?_) (AllReadyH.cons (o := { dst := some 44, op := Op.buildSlice 71 1 #[(0, Operand.tmp 43)], type := 71, pos := "store.go:189", after := #[{ on := 9, ground := Ground.data }], guard := none }) rfl (fun K hK => ?_) AllReadyH.nil))
            · skip
              go_simp
              refine hK.out _ _ (hHeld) (fun hHeld2 => ?_)
              clear hK K hHeld
              rename _ => hHeld
              try simp only [Act.put, stB, stZ, stS]
              refine wpAnyH_ready (rs := [10]) (by kernel_rfl) (by simp) ?_
              refine (AllReadyH.cons (o := { dst := some 44, op := Op.buildSlice 71 1 #[(0, Operand.tmp 43)], type := 71, pos := "store.go:189", after := #[{ on := 9, ground := Ground.data }], guard := none }) rfl (fun K hK => ?_) AllReadyH.nil)
              go_simp
              refine hK.out _ _ (⟨(World.cell?_alloc_lt _ _ ⟨wr.heap.size, 1, none⟩ (World.block_lt_of_cell? _ _ hHeld.1)).trans hHeld.1, (World.cell?_alloc_lt _ _ ⟨wr.heap.size, 2, none⟩ (World.block_lt_of_cell? _ _ hHeld.2.1)).trans hHeld.2.1, (World.cell?_alloc_lt _ _ ⟨wr.heap.size, 3, none⟩ (World.block_lt_of_cell? _ _ hHeld.2.2.1)).trans hHeld.2.2.1, (World.cell?_alloc_lt _ _ ⟨wr.heap.size, 4, none⟩ (World.block_lt_of_cell? _ _ hHeld.2.2.2.1)).trans hHeld.2.2.2.1, (World.cell?_alloc_lt _ _ ⟨wr.heap.size, 5, none⟩ (World.block_lt_of_cell? _ _ hHeld.2.2.2.2)).trans hHeld.2.2.2.2⟩) (fun hHeld2 => ?_)
              clear hK K hHeld
              rename _ => hHeld
              try simp only [Act.put, stB, stZ, stS]
              refine wpAnyH_ready (rs := [11]) (by kernel_rfl) (by simp) ?_
              refine (AllReadyH.cons (o := { dst := some 45, op := Op.call { callee := Callee.builtin Builtin.append, args := #[Operand.tmp 35, Operand.tmp 44], argTypes := #[71, 71] }, type := 71, pos := "store.go:189", after := #[{ on := 1, ground := Ground.data }, { on := 10, ground := Ground.data }, { on := 4, ground := Ground.chain }], guard := none }) rfl (fun K hK => ?_) AllReadyH.nil)
              refine step_append_mid (v := .slice qa pre.length qc) (by rfl) _ _ 71 71 (by rfl) tp (.agg #[.slice none 0 0, .int .i64 0, .bool false, .slice none 0 0, .slice none 0 0]) 88 Tryz.underlying71 hp hp0 hp1 hp2 rfl (by rfl) HM0.out _ (by rfl) 1 _ HS0.out (by unfold maxLen; omega) (by omega) (Nat.zero_le _) ?_
              intro a4 c4 w4 hmo hgo hbo
              have q4 := HK0.out w4 hgo
              have q5 := HK1.out w4 hgo
              have HMO := Lib.hid hmo
              have HGO := Lib.hid hgo
              have HBO := Lib.hid hbo
              clear hmo hgo hbo
              dsimp only
              refine hK.out _ _ (⟨HKS.out w4 HGO.out 1 _ ((World.cell?_alloc_lt _ _ ⟨wr.heap.size, 1, none⟩ (by show wr.heap.size < w2.heap.size; omega)).symm.trans hHeld.1), HKS.out w4 HGO.out 2 _ ((World.cell?_alloc_lt _ _ ⟨wr.heap.size, 2, none⟩ (by show wr.heap.size < w2.heap.size; omega)).symm.trans hHeld.2.1), HKS.out w4 HGO.out 3 _ ((World.cell?_alloc_lt _ _ ⟨wr.heap.size, 3, none⟩ (by show wr.heap.size < w2.heap.size; omega)).symm.trans hHeld.2.2.1), HKS.out w4 HGO.out 4 _ ((World.cell?_alloc_lt _ _ ⟨wr.heap.size, 4, none⟩ (by show wr.heap.size < w2.heap.size; omega)).symm.trans hHeld.2.2.2.1), HKS.out w4 HGO.out 5 _ ((World.cell?_alloc_lt _ _ ⟨wr.heap.size, 5, none⟩ (by show wr.heap.size < w2.heap.size; omega)).symm.trans hHeld.2.2.2.2)⟩) (fun hHeld2 => ?_)
              clear hK K hHeld
              rename _ => hHeld
              try simp only [Act.put, stB, stZ, stS]
              refine tk 12 (some 46) (v := ?_) rfl rfl ?_ ?_
              rotate_left
              · (intro w _; go_simp; (try with_reducible rfl))
              simp only [Act.put, stB, stZ, stS]
              refine wpAnyH_ready (rs := [13]) (by kernel_rfl) (by simp) ?_
              refine (AllReadyH.cons (o := { dst := none, op := Op.store 71 (Operand.tmp 46) (Operand.tmp 45), type := 0, pos := "store.go:189", after := #[{ on := 12, ground := Ground.data }, { on := 11, ground := Ground.data }, { on := 11, ground := Ground.chain }, { on := 0, ground := Ground.phase }, { on := 1, ground := Ground.phase }, { on := 2, ground := Ground.phase }, { on := 3, ground := Ground.phase }, { on := 4, ground := Ground.phase }, { on := 5, ground := Ground.phase }, { on := 6, ground := Ground.phase }, { on := 7, ground := Ground.phase }, { on := 8, ground := Ground.phase }, { on := 9, ground := Ground.phase }, { on := 10, ground := Ground.phase }, { on := 11, ground := Ground.phase }], guard := none }) rfl (fun K hK => ?_) AllReadyH.nil)
              go_simp
              refine hK.out _ _ (⟨(World.cell?_setCell_far _ _ _ _ HPL2.out).trans hHeld.1, (World.cell?_setCell_far _ _ _ _ HPL2.out).trans hHeld.2.1, (World.cell?_setCell_far _ _ _ _ HPL2.out).trans hHeld.2.2.1, (World.cell?_setCell_far _ _ _ _ HPL2.out).trans hHeld.2.2.2.1, (World.cell?_setCell_far _ _ _ _ HPL2.out).trans hHeld.2.2.2.2⟩) (fun hHeld2 => ?_)
              clear hK K hHeld
              rename _ => hHeld
              try simp only [Act.put, stB, stZ, stS]
              refine wpAnyH_done (by kernel_rfl) ?_ _
              (try simp only [Exit.inBlock, Exit.then])
              go_wp2_with fail
              go_roundw
              case rel =>
                have e := prob_push (i := r.id) HA1.out HMO.out HGO.out HBO.out
                refine ⟨k + 1, pre ++ [⟨r.id, r.kind, r.rhs, .slice a2 r.coef.length c2, r.coef⟩], a4, c4, by omega, by go_num, ?_, ?_⟩
                · rw [List.map_append, HPRE.out, List.take_succ_eq_append_getElem hlt, List.map_append, ← HRM.out]; rfl
                · refine BoxN.of HG.out HBW.out ?_
                  rw [List.length_append]
                  exact e
              case measure => simp [intOf]; omega
            · skip
              go_simp
              refine hK.out _ _ (⟨(World.cell?_alloc_lt _ _ ⟨wr.heap.size, 1, none⟩ (World.block_lt_of_cell? _ _ hHeld.1)).trans hHeld.1, (World.cell?_alloc_lt _ _ ⟨wr.heap.size, 2, none⟩ (World.block_lt_of_cell? _ _ hHeld.2.1)).trans hHeld.2.1, (World.cell?_alloc_lt _ _ ⟨wr.heap.size, 3, none⟩ (World.block_lt_of_cell? _ _ hHeld.2.2.1)).trans hHeld.2.2.1, (World.cell?_alloc_lt _ _ ⟨wr.heap.size, 4, none⟩ (World.block_lt_of_cell? _ _ hHeld.2.2.2.1)).trans hHeld.2.2.2.1, (World.cell?_alloc_lt _ _ ⟨wr.heap.size, 5, none⟩ (World.block_lt_of_cell? _ _ hHeld.2.2.2.2)).trans hHeld.2.2.2.2⟩) (fun hHeld2 => ?_)
              clear hK K hHeld
              rename _ => hHeld
              try simp only [Act.put, stB, stZ, stS]
              refine wpAnyH_ready (rs := [1]) (by kernel_rfl) (by simp) ?_
              refine (AllReadyH.cons (o := { dst := some 35, op := Op.load 71 (Operand.tmp 34), type := 71, pos := "store.go:189", after := #[{ on := 0, ground := Ground.data }], guard := none }) rfl (fun K hK => ?_) AllReadyH.nil)
              go_simp
              refine hK.out _ _ (hHeld) (fun hHeld2 => ?_)
              clear hK K hHeld
              rename _ => hHeld
              try simp only [Act.put, stB, stZ, stS]
              refine wpAnyH_ready (rs := [11]) (by kernel_rfl) (by simp) ?_
              refine (AllReadyH.cons (o := { dst := some 45, op := Op.call { callee := Callee.builtin Builtin.append, args := #[Operand.tmp 35, Operand.tmp 44], argTypes := #[71, 71] }, type := 71, pos := "store.go:189", after := #[{ on := 1, ground := Ground.data }, { on := 10, ground := Ground.data }, { on := 4, ground := Ground.chain }], guard := none }) rfl (fun K hK => ?_) AllReadyH.nil)
              refine step_append_mid (v := .slice qa pre.length qc) (by rfl) _ _ 71 71 (by rfl) tp (.agg #[.slice none 0 0, .int .i64 0, .bool false, .slice none 0 0, .slice none 0 0]) 88 Tryz.underlying71 hp hp0 hp1 hp2 rfl (by rfl) HM0.out _ (by rfl) 1 _ HS0.out (by unfold maxLen; omega) (by omega) (Nat.zero_le _) ?_
              intro a4 c4 w4 hmo hgo hbo
              have q4 := HK0.out w4 hgo
              have q5 := HK1.out w4 hgo
              have HMO := Lib.hid hmo
              have HGO := Lib.hid hgo
              have HBO := Lib.hid hbo
              clear hmo hgo hbo
              dsimp only
              refine hK.out _ _ (⟨HKS.out w4 HGO.out 1 _ ((World.cell?_alloc_lt _ _ ⟨wr.heap.size, 1, none⟩ (by show wr.heap.size < w2.heap.size; omega)).symm.trans hHeld.1), HKS.out w4 HGO.out 2 _ ((World.cell?_alloc_lt _ _ ⟨wr.heap.size, 2, none⟩ (by show wr.heap.size < w2.heap.size; omega)).symm.trans hHeld.2.1), HKS.out w4 HGO.out 3 _ ((World.cell?_alloc_lt _ _ ⟨wr.heap.size, 3, none⟩ (by show wr.heap.size < w2.heap.size; omega)).symm.trans hHeld.2.2.1), HKS.out w4 HGO.out 4 _ ((World.cell?_alloc_lt _ _ ⟨wr.heap.size, 4, none⟩ (by show wr.heap.size < w2.heap.size; omega)).symm.trans hHeld.2.2.2.1), HKS.out w4 HGO.out 5 _ ((World.cell?_alloc_lt _ _ ⟨wr.heap.size, 5, none⟩ (by show wr.heap.size < w2.heap.size; omega)).symm.trans hHeld.2.2.2.2)⟩) (fun hHeld2 => ?_)
              clear hK K hHeld
              rename _ => hHeld
              try simp only [Act.put, stB, stZ, stS]
              refine tk 12 (some 46) (v := ?_) rfl rfl ?_ ?_
              rotate_left
              · (intro w _; go_simp; (try with_reducible rfl))
              simp only [Act.put, stB, stZ, stS]
              refine wpAnyH_ready (rs := [13]) (by kernel_rfl) (by simp) ?_
              refine (AllReadyH.cons (o := { dst := none, op := Op.store 71 (Operand.tmp 46) (Operand.tmp 45), type := 0, pos := "store.go:189", after := #[{ on := 12, ground := Ground.data }, { on := 11, ground := Ground.data }, { on := 11, ground := Ground.chain }, { on := 0, ground := Ground.phase }, { on := 1, ground := Ground.phase }, { on := 2, ground := Ground.phase }, { on := 3, ground := Ground.phase }, { on := 4, ground := Ground.phase }, { on := 5, ground := Ground.phase }, { on := 6, ground := Ground.phase }, { on := 7, ground := Ground.phase }, { on := 8, ground := Ground.phase }, { on := 9, ground := Ground.phase }, { on := 10, ground := Ground.phase }, { on := 11, ground := Ground.phase }], guard := none }) rfl (fun K hK => ?_) AllReadyH.nil)
              go_simp
              refine hK.out _ _ (⟨(World.cell?_setCell_far _ _ _ _ HPL2.out).trans hHeld.1, (World.cell?_setCell_far _ _ _ _ HPL2.out).trans hHeld.2.1, (World.cell?_setCell_far _ _ _ _ HPL2.out).trans hHeld.2.2.1, (World.cell?_setCell_far _ _ _ _ HPL2.out).trans hHeld.2.2.2.1, (World.cell?_setCell_far _ _ _ _ HPL2.out).trans hHeld.2.2.2.2⟩) (fun hHeld2 => ?_)
              clear hK K hHeld
              rename _ => hHeld
              try simp only [Act.put, stB, stZ, stS]
              refine wpAnyH_done (by kernel_rfl) ?_ _
              (try simp only [Exit.inBlock, Exit.then])
              go_wp2_with fail
              go_roundw
              case rel =>
                have e := prob_push (i := r.id) HA1.out HMO.out HGO.out HBO.out
                refine ⟨k + 1, pre ++ [⟨r.id, r.kind, r.rhs, .slice a2 r.coef.length c2, r.coef⟩], a4, c4, by omega, by go_num, ?_, ?_⟩
                · rw [List.map_append, HPRE.out, List.take_succ_eq_append_getElem hlt, List.map_append, ← HRM.out]; rfl
                · refine BoxN.of HG.out HBW.out ?_
                  rw [List.length_append]
                  exact e
              case measure => simp [intOf]; omega
        · obtain rfl : k = rows.length := by omega
          rw [List.take_length] at hpre
          have hsz := hbw.size
          have r0 : wr.cell? ⟨w.heap.size, 0, none⟩ = some (.slice none 0 0) := (hbw.cell (p := ⟨w.heap.size, 0, none⟩) (by have := HSZ0.out; have := HPBE.out; show w.heap.size < _; omega)).trans (cell_of_block HRB.out rfl)
          have r1 : wr.cell? ⟨w.heap.size, 1, none⟩ = some (.slice none 0 0) := (hbw.cell (p := ⟨w.heap.size, 1, none⟩) (by have := HSZ0.out; have := HPBE.out; show w.heap.size < _; omega)).trans (cell_of_block HRB.out rfl)
          have s0 : wr.frozen? ⟨w.heap.size, 0, none⟩ = false := (hbw.frozen (p := ⟨w.heap.size, 0, none⟩) (by have := HSZ0.out; have := HPBE.out; show w.heap.size < _; omega)).trans (free_of_block HRB.out)
          have s1 : wr.frozen? ⟨w.heap.size, 1, none⟩ = false := (hbw.frozen (p := ⟨w.heap.size, 1, none⟩) (by have := HSZ0.out; have := HPBE.out; show w.heap.size < _; omega)).trans (free_of_block HRB.out)
          have b0 := hq.cell 0 rfl
          have b1 := hq.cell 1 rfl
          have HQ := Lib.hid hq
          have HG := Lib.hid hg
          have HBW := Lib.hid hbw
          have HPRE := Lib.hid hpre
          have hrw : w.heap.size < wr.heap.size := by have := HSZ0.out; have := HPBE.out; omega
          clear hq hg hbw hpre hpl hrr
          go_wp2_with fail
          have hk2 : Keeps wr ((wr.setCell ⟨w.heap.size, 0, none⟩ (.slice ca9 CS.length cc9)).setCell ⟨w.heap.size, 1, none⟩ (.slice qa pre.length qc)) (fun k => k = w.heap.size) :=
            (Keeps.setCell _ _ _ (S := fun k => k = w.heap.size) rfl).trans (Keeps.setCell _ _ _ (S := fun k => k = w.heap.size) rfl) fun _ _ h => h
          have hbz : Below w.heap.size w wr := HB0.out.trans (HBW.out.mono (by have := HSZ0.out; have := HPBE.out; omega))
          have hbf : Below w.heap.size w ((wr.setCell ⟨w.heap.size, 0, none⟩ (.slice ca9 CS.length cc9)).setCell ⟨w.heap.size, 1, none⟩ (.slice qa pre.length qc)) := (hbz.setCell (Nat.le_refl _) _).setCell (Nat.le_refl _) _
          have hg2 := HG.out
          have h3 := HSZ0.out
          have h4 := HPBE.out
          refine bodyPost_ret (v := .agg #[.slice ca9 CS.length cc9, .slice qa pre.length qc]) (by simp [results, Tryz.results30, go_sem, r0, r1]) rfl ?_
          refine ⟨G1, ca9, qa, cc9, qc, pre, ?_, HPRE.out, ⟨?_, ?_, ?_⟩, fun k hk => by have := hg2 k hk; omega, hbf⟩
          · rw [← HCS.out]
          · rw [← HCS.out]
            exact HQ.out.2.1.keeps hk2 fun k hf e => by have := hg2 k (HQ.out.2.2.2.1 k hf).1; omega
          · rw [← HCS.out]
            exact fun k hf => (HQ.out.2.2.2.1 k hf).1
          · intro k hk
            have := HQ.out.lt k hk
            simpa using this
end Go.Proofs.YtaehklhbokocbaaGreatDoor
