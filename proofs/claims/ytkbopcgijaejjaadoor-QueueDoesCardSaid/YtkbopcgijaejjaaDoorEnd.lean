/-
  End of a queue by contract, where a worker has a job; the conditions: the queue's cells, and how many jobs a row has.
  Printed by a program of this repository (wip/qu7.py).
-/
import Derived.Test.YtkbopcgijaejjaaDoorEnd1
namespace Go.Proofs.YtkbopcgijaejjaaDoor
open Go.RowKit Go.Extern.Stop Go.Stop Go.Extern
def keyOf (r : Rw) : Int × Int := (r.t, r.s)
theorem atS_key (rows : List Rw) (t s : Int) : atS rows t s = (rows.map keyOf).findIdx fun k => decide (k.1 = t ∧ k.2 = s) := by
  unfold atS
  rw [List.findIdx_map]; rfl
theorem atS_keys {rows rows' : List Rw} (t s : Int) (h : rows.map keyOf = rows'.map keyOf) : atS rows t s = atS rows' t s := by
  rw [atS_key, atS_key, h]
theorem keys_set (rows : List Rw) (I : Nat) (hI : I < rows.length) (r : Rw) (h1 : r.t = rows[I].t) (h2 : r.s = rows[I].s) : (rows.set I r).map keyOf = rows.map keyOf := by
  rw [List.map_set]
  have : keyOf r = (rows.map keyOf)[I]'(by simpa using hI) := by rw [List.getElem_map]; unfold keyOf; rw [h1, h2]
  rw [this, List.set_getElem_self]
theorem flat_erase {α : Type} (f : α → List Value) (k : Nat) (hk : ∀ x, (f x).length = k) (l : List α) (i : Nat) (hi : i < l.length) : (l.eraseIdx i).flatMap f = (l.flatMap f).take (i * k) ++ (l.flatMap f).drop ((i + 1) * k) := by
  rw [List.eraseIdx_eq_take_drop_succ, List.flatMap_append]
  have h1 : ∀ (l : List α) (i : Nat), i ≤ l.length → (l.take i).flatMap f = (l.flatMap f).take (i * k) ∧ (l.drop i).flatMap f = (l.flatMap f).drop (i * k) := by
    intro l
    induction l with
    | nil => intro i _; simp
    | cons x r ih =>
      intro i hi
      cases i with
      | zero => simp
      | succ i =>
        have := ih i (by simpa using hi)
        simp only [List.take_succ_cons, List.drop_succ_cons, List.flatMap_cons]
        rw [this.1, this.2, Nat.succ_mul, List.take_append, List.drop_append, hk, Nat.add_sub_cancel, List.take_of_length_le (l := f x) (by rw [hk]; omega), (List.drop_eq_nil_of_le (by rw [hk]; omega) : (f x).drop (i * k + k) = [])]
        exact ⟨rfl, by simp⟩
  rw [(h1 l i (by omega)).1, (h1 l (i + 1) (by omega)).2]
def EQ (w : World) (qb m0 m1 : Nat) (F : Nat → Prop) (rows : List Rw) (ws : List (Int × Int)) (bs : List Bool) (t s : Int) (wx : World) : Prop :=
  ∃ F1 RX, rowsOf RX = rows ∧ QS wx qb F1 RX ws bs ∧ (∀ k, F1 k → F k ∨ w.heap.size ≤ k) ∧ Keeps w wx F ∧ (¬ F1 m0 ∧ ¬ F1 m1 ∧ m1 < wx.heap.size) ∧
    wx.heap[m0]? = some (.cells #[.int .i64 0, .int .i64 0] 29 (0, 0)) ∧ wx.heap[m1]? = some (.cells #[.int .i64 t, .int .i64 s] 29 (0, 0))
def tailS (rows : List Rw) (t s : Int) : List Rw :=
  if h : atS rows t s < rows.length then rows.set (atS rows t s) ⟨rows[atS rows t s].t, rows[atS rows t s].s, rows[atS rows t s].jobs.tail, false⟩ else rows
def dropS (rows : List Rw) (t s : Int) : List Rw :=
  if h : atS rows t s < rows.length then (if rows[atS rows t s].jobs = [] then rows.eraseIdx (atS rows t s) else rows) else rows
set_option maxRecDepth 100000 in
set_option maxHeartbeats 8000000 in
theorem end_ok (qb : Nat) (F : Nat → Prop) (RS : List (Rw × Value)) (ws : List (Int × Int)) (bs : List Bool) (n : Int) (t s : Int) (w : World) (h : QS w qb F RS ws bs) (hn : allN RS ≤ 7036874417560) (hl : ws.length = bs.length) (h0 : 0 ≤ n) (h1 : n < ws.length) (hz : busyB bs n = true) (hk : ws[n.toNat]? = some (t, s)) (hhit : atR RS t s < RS.length) (hj : ∀ q ∈ RS, q.1.jobs ≠ []) :
    Calls Tryd.prog 12 #[.pointer (some ⟨qb, 0, none⟩), .int .i64 n] w fun e w' =>
      e = .returned (.tuple #[.agg #[.int .i64 t, .int .i64 s], .int .i64 (headS (rowsOf RS) t s), .nilIface]) ∧
      QB w qb F (dropS (tailS (rowsOf RS) t s) t s) ws (bs.set n.toNat false) w' := by
  obtain ⟨i, rfl⟩ := Int.eq_ofNat_of_zero_le h0
  have hi : i < bs.length := by omega
  have hbz : bs[i] = true := by
    unfold busyB at hz
    simp only [Bool.and_eq_true, Int.toNat_natCast, List.getD_eq_getElem?_getD, List.getElem?_eq_getElem hi] at hz
    exact hz.2
  rw [Int.toNat_natCast] at hk ⊢
  have hwi : i < ws.length := by omega
  rw [List.getElem?_eq_getElem hwi, Option.some.injEq] at hk
  obtain ⟨kkb, kko, kkc, zb, zo, zc, KA, ZA, hkz⟩ := h.worker i hwi hl
  obtain ⟨ra, wa, ba, rc, wc, bc, r⟩ := h.read
  have hlw := r.work.lenI.1
  have hlb := r.busy.lenI.1
  have hlr := r.rows.lenI.1
  have q1 : qb < w.heap.size := World.block_lt_of_cell? _ _ r.c1
  have c1 := KA.c1
  have c2 := ZA.c2
  have k0 := KA.k0 hwi
  have k1 := KA.k1 hwi
  rw [hk] at k0 k1
  have z0 := ZA.k hi
  rw [hbz] at z0
  have hkl := KA.lt
  have hzl := ZA.lt
  have hjl := bounds_jobs _ hhit
  have hjh := hj _ (List.getElem_mem hhit)
  have HV := Lib.hid (show atV RS t s = (atR RS t s : Int) by unfold atV; rw [if_pos hhit])
  have hts : tailS (rowsOf RS) t s = (rowsOf RS).set (atR RS t s) ⟨RS[atR RS t s].1.t, RS[atR RS t s].1.s, RS[atR RS t s].1.jobs.tail, false⟩ := by
    unfold tailS
    rw [dif_pos (by rw [atS_of]; simpa [rowsOf] using hhit)]
    have e := atS_of RS t s
    unfold rowsOf at e ⊢
    simp only [List.getElem_map, e]
  have hats : atS (tailS (rowsOf RS) t s) t s = atR RS t s := by
    rw [hts]
    exact (atS_keys t s (keys_set (rowsOf RS) (atR RS t s) (by simpa [rowsOf] using hhit) _ (by simp [rowsOf]) (by simp [rowsOf]))).trans (atS_of RS t s)
  have HHD := Lib.hid (show headS (rowsOf RS) t s = RS[atR RS t s].1.jobs.headD 0 by
    unfold headS
    rw [dif_pos (by rw [atS_of]; simpa [rowsOf] using hhit)]
    have e := atS_of RS t s
    unfold rowsOf at e ⊢
    simp only [List.getElem_map, e])
  have HTS := Lib.hid hts
  have HATS := Lib.hid hats
  have HH := Lib.hid h
  have HFl := Lib.hid (show ∀ k, F k → k < w.heap.size by obtain ⟨_, _, _, _, _, _, _, _, _, _, h5⟩ := h; exact h5)
  have hb0 : Below w.heap.size w ((w.alloc (.cells #[.int .i64 0, .int .i64 0] 29)).alloc (.cells #[.int .i64 t, .int .i64 s] 29)) := ((Below.refl _ _).alloc (Nat.le_refl _) _).alloc (by simp) _
  have HA := Lib.hid (at_any qb F RS ws bs t s _ (h.below hb0))
  have HB0 := Lib.hid hb0
  have HKA := Lib.hid KA
  have HZA := Lib.hid ZA
  have HR := Lib.hid r
  clear hb0 hats hts h r KA ZA hz hbz hk hj
  generalize hIe : atR RS t s = I at *
  clear hIe
  obtain ⟨j0, jr, hj0⟩ : ∃ j0 jr, RS[I].1.jobs = j0 :: jr := by
    cases hx : RS[I].1.jobs with
    | nil => exact absurd hx hjh
    | cons a l => exact ⟨a, l, rfl⟩
  clear hjh
  have HJ0 := Lib.hid hj0
  rw [hj0] at hjl
  simp only [List.length_cons] at hjl
  clear hj0
  have HZK := Lib.hid hkz
  clear hkz
  go_enter Tryd.func12, Tryd.ntmps12
  go_wp2_with fail
  refine HA.out.mono ?_
  rintro e w2 ⟨rfl, hb2⟩
  rw [HV.out]
  have hq2 := (HH.out.below HB0.out).below hb2
  have hbb : Below w.heap.size w w2 := HB0.out.trans (hb2.mono HB0.out.size)
  have p0 : w2.heap[w.heap.size]? = some (.cells #[.int .i64 0, .int .i64 0] 29 (0, 0)) := (hb2.block w.heap.size (by simp only [World.size_alloc]; omega)).trans (heap_alloc2_old w _ _)
  have p1 : w2.heap[w.heap.size + 1]? = some (.cells #[.int .i64 t, .int .i64 s] 29 (0, 0)) := (hb2.block (w.heap.size + 1) (by simp only [World.size_alloc]; omega)).trans (heap_alloc2_new w _ _)
  have hsz := lt_of_block p1
  obtain ⟨rb, ro, rrc, ja, jc, R⟩ := hq2.row I hhit
  have hrbF : F rb := by
    obtain ⟨ra', wa', ba', rc', wc', bc', h1, ho, _, h4, _⟩ := id hq2
    have e := (cell_of_block (j := 0) h1 rfl).symm.trans R.c0
    cases e
    exact (h4 rb ⟨⟨.slice (some ⟨rb, ro, none⟩) RS.length rrc, 67, 4, RS.length, RS.flatMap rowCells⟩, List.mem_of_getElem? (i := 0) rfl, rfl⟩).1
  have hrl := HFl.out rb hrbF
  have x0 := R.c0
  have x2 := R.k2
  have x3 := R.k3
  have f2 := R.frozen (ro + I * 4 + 2)
  have f3 := R.frozen (ro + I * 4 + 3)
  have hm := R.mid
  have hv := R.val hhit
  rw [HJ0.out] at x2 hm hv
  simp only [List.length_cons] at x2 hm hv
  obtain ⟨jb, jo, jcc, e, hjn, hjm, hjl2, hjc⟩ := (Sl.ofMid hm).plain (by omega)
  obtain ⟨rfl, rfl⟩ : ja = some ⟨jb, jo, none⟩ ∧ jc = jcc := by cases e; exact ⟨rfl, rfl⟩
  have y0 := hjc 0 (.int .i64 j0) rfl
  rw [Nat.add_zero] at y0
  obtain ⟨B, hB, hSl⟩ : ∃ B : Addr, (if jc = 1 then some (⟨jb, jo, none⟩ : Addr) else some ⟨jb, jo + 1, none⟩) = some B ∧ Sl w2 1 (.slice (some B) jr.length (jc - 1)) jr.length (jr.map IV) := by
    by_cases hc : jc = 1
    · have h0 : jr = [] := List.eq_nil_of_length_eq_zero (by omega)
      subst h0
      exact ⟨⟨jb, jo, none⟩, by simp [hc], rfl, .inr ⟨jb, jo, jc - 1, rfl, by simp, by unfold maxLen at hjm ⊢; omega, hjl2, fun j u hu => by simp at hu⟩⟩
    · refine ⟨⟨jb, jo + 1, none⟩, by simp [hc], by simp, .inr ⟨jb, jo + 1, jc - 1, rfl, by omega, by unfold maxLen at hjm ⊢; omega, hjl2, fun j u hu => ?_⟩⟩
      have := hjc (j + 1) u (by simpa using hu)
      rw [Nat.add_right_comm, Nat.add_assoc]
      exact this
  have HCL := Lib.hid (cloneI _ _ _ w2.drew (show Sl w2.drew 1 (.slice (some B) jr.length (jc - 1)) jr.length (jr.map IV) from hSl) (fun u hu => by obtain ⟨x, _, rfl⟩ := List.mem_map.1 hu; rfl) (by omega))
  have HSL := Lib.hid hSl
  have HM := Lib.hid hm
  have HVV := Lib.hid hv
  have HQ2 := Lib.hid hq2
  have HBB := Lib.hid hbb
  have HR2 := Lib.hid R
  have hqlt := R.lt.1
  have hrlt := R.lt.2.1
  have hqr := R.lt.2.2
  have i0 : (0 : Int) ≤ (I : Int) := by omega
  have i1 : (I : Int) < (RS.length : Int) := by omega
  have i2 : (0 : Int) < ((jr.length + 1 : Nat) : Int) := by omega
  have i3 : (1 : Int) ≤ (jr.length : Int) + 1 := by omega
  have HP0 := Lib.hid p0
  have HP1 := Lib.hid p1
  unfold maxLen at hjm
  clear e hjc hSl hm hv hq2 hbb R hb2 p0 p1
  go_upto_region 8 with fail
  go_cut [] (fun wx => EQ w qb w.heap.size (w.heap.size + 1) F (tailS (rowsOf RS) t s) ws bs t s wx)
  case first =>


    refine wp_region_held_drew (S := fun W => W.cell? ⟨qb, 0, none⟩ = some (.slice (some ⟨rb, ro, none⟩) RS.length rrc)) (by kernel_rfl) (x0) (fun hHeld => ?_)
    refine takeH (i := 0) (d := (some 57)) (v := ?_) rfl rfl (by kernel_rfl) (by kernel_rfl) (by kernel_rfl) (fun _ _ _ h => h) (Or.inl ⟨by rfl, ?_⟩) (by assumption) ?_
    rotate_left
    · (intro w hSw; (try dsimp only at hSw); go_simp; (try with_reducible rfl))
    simp only [Act.put, List.setIfInBounds_toArray, List.set_cons_zero, List.set_cons_succ]
    refine takeH (i := 1) (d := (some 58)) (v := ?_) rfl rfl (by kernel_rfl) (by kernel_rfl) (by kernel_rfl) (fun _ _ _ h => h) (Or.inl ⟨by rfl, ?_⟩) (by assumption) ?_
    rotate_left
    · (intro w hSw; (try dsimp only at hSw); go_simp; (try with_reducible rfl))
    simp only [Act.put, List.setIfInBounds_toArray, List.set_cons_zero, List.set_cons_succ]
    refine takeH (i := 2) (d := (some 59)) (v := ?_) rfl rfl (by kernel_rfl) (by kernel_rfl) (by kernel_rfl) (fun _ _ _ h => h) (Or.inl ⟨by rfl, ?_⟩) (by assumption) ?_
    rotate_left
    · (intro w hSw; (try dsimp only at hSw); go_simp; (try with_reducible rfl))
    simp only [Act.put, List.setIfInBounds_toArray, List.set_cons_zero, List.set_cons_succ]
    refine takeH (i := 3) (d := (some 60)) (v := ?_) rfl rfl (by kernel_rfl) (by kernel_rfl) (by kernel_rfl) (fun _ _ _ h => h) (Or.inl ⟨by rfl, ?_⟩) (by assumption) ?_
    rotate_left
    · (intro w hSw; (try dsimp only at hSw); go_simp; (try with_reducible rfl))
    simp only [Act.put, List.setIfInBounds_toArray, List.set_cons_zero, List.set_cons_succ]
    refine takeH (i := 4) (d := (some 61)) (v := ?_) rfl rfl (by kernel_rfl) (by kernel_rfl) (by kernel_rfl) (fun _ _ _ h => h) (Or.inl ⟨by rfl, ?_⟩) (by assumption) ?_
    rotate_left
    · (intro w hSw; (try dsimp only at hSw); go_simp; (try with_reducible rfl))
    simp only [Act.put, List.setIfInBounds_toArray, List.set_cons_zero, List.set_cons_succ]
    refine takeH (i := 5) (d := (some 62)) (v := ?_) rfl rfl (by kernel_rfl) (by kernel_rfl) (by kernel_rfl) (fun _ _ _ h => h) (Or.inl ⟨by rfl, ?_⟩) (by assumption) ?_
    rotate_left
    · (intro w hSw; (try dsimp only at hSw); go_simp; (try with_reducible rfl))
    simp only [Act.put, List.setIfInBounds_toArray, List.set_cons_zero, List.set_cons_succ]
    refine takeH (i := 6) (d := (some 63)) (v := ?_) rfl rfl (by kernel_rfl) (by kernel_rfl) (by kernel_rfl) (fun _ _ _ h => h) (Or.inl ⟨by rfl, ?_⟩) (by assumption) ?_
    rotate_left
    · (intro w hSw; (try dsimp only at hSw); go_simp; (try with_reducible rfl))
    simp only [Act.put, List.setIfInBounds_toArray, List.set_cons_zero, List.set_cons_succ]
    refine takeH (i := 7) (d := (some 64)) (v := ?_) rfl rfl (by kernel_rfl) (by kernel_rfl) (by kernel_rfl) (fun _ _ _ h => h) (Or.inl ⟨by rfl, ?_⟩) (by assumption) ?_
    rotate_left
    · (intro w hSw; (try dsimp only at hSw); go_simp; (try with_reducible rfl))
    simp only [Act.put, List.setIfInBounds_toArray, List.set_cons_zero, List.set_cons_succ]
    refine takeH (i := 8) (d := (some 65)) (v := ?_) rfl rfl (by kernel_rfl) (by kernel_rfl) (by kernel_rfl) (fun _ _ _ h => h) (Or.inl ⟨by rfl, ?_⟩) (by assumption) ?_
    rotate_left
    · (intro w hSw; (try dsimp only at hSw); go_simp; (try with_reducible rfl))
    simp only [Act.put, List.setIfInBounds_toArray, List.set_cons_zero, List.set_cons_succ]
    refine takeH (i := 9) (d := (some 66)) (v := ?_) rfl rfl (by kernel_rfl) (by kernel_rfl) (by kernel_rfl) (fun _ _ _ h => h) (Or.inl ⟨by rfl, ?_⟩) (by assumption) ?_
    rotate_left
    · (intro w hSw; (try dsimp only at hSw); go_simp; (try with_reducible rfl))
    simp only [Act.put, List.setIfInBounds_toArray, List.set_cons_zero, List.set_cons_succ]
    refine takeH (i := 10) (d := (some 67)) (v := ?_) rfl rfl (by kernel_rfl) (by kernel_rfl) (by kernel_rfl) (fun _ _ _ h => h) (Or.inl ⟨by rfl, ?_⟩) (by assumption) ?_
    rotate_left
    · (intro w hSw; (try dsimp only at hSw); go_simp; (try with_reducible rfl))
    simp only [Act.put, List.setIfInBounds_toArray, List.set_cons_zero, List.set_cons_succ]
    refine takeH (i := 11) (d := (some 68)) (v := ?_) rfl rfl (by kernel_rfl) (by kernel_rfl) (by kernel_rfl) (fun _ _ _ h => h) (Or.inl ⟨by rfl, ?_⟩) (by assumption) ?_
    rotate_left
    · (intro w hSw; (try dsimp only at hSw); go_simp; (try with_reducible rfl))
    simp only [Act.put, List.setIfInBounds_toArray, List.set_cons_zero, List.set_cons_succ]
    refine takeH (i := 12) (d := (some 69)) (v := ?_) rfl rfl (by kernel_rfl) (by kernel_rfl) (by kernel_rfl) (fun _ _ _ h => h) (Or.inl ⟨by rfl, ?_⟩) (by assumption) ?_
    rotate_left
    · (intro w hSw; (try dsimp only at hSw); go_simp; (try with_reducible rfl))
    simp only [Act.put, List.setIfInBounds_toArray, List.set_cons_zero, List.set_cons_succ]
    refine takeH (i := 13) (d := (some 70)) (v := ?_) rfl rfl (by kernel_rfl) (by kernel_rfl) (by kernel_rfl) (fun _ _ _ h => h) (Or.inl ⟨by rfl, ?_⟩) (by assumption) ?_
    rotate_left
    · (intro w hSw; (try dsimp only at hSw); go_simp; (try with_reducible rfl))
    simp only [Act.put, List.setIfInBounds_toArray, List.set_cons_zero, List.set_cons_succ]
    refine takeH (i := 14) (d := (some 71)) (v := ?_) rfl rfl (by kernel_rfl) (by kernel_rfl) (by kernel_rfl) (fun _ _ _ h => h) (Or.inl ⟨by rfl, ?_⟩) (by assumption) ?_
    rotate_left
    · (intro w hSw; (try dsimp only at hSw); go_simp; (try with_reducible rfl))
    simp only [Act.put, List.setIfInBounds_toArray, List.set_cons_zero, List.set_cons_succ]
    refine takeH (i := 15) (d := (some 72)) (v := ?_) rfl rfl (by kernel_rfl) (by kernel_rfl) (by kernel_rfl) (fun _ _ _ h => h) (Or.inl ⟨by rfl, ?_⟩) (by assumption) ?_
    rotate_left
    · (intro w hSw; (try dsimp only at hSw); go_simp; (try with_reducible rfl))
    simp only [Act.put, List.setIfInBounds_toArray, List.set_cons_zero, List.set_cons_succ]
    refine takeH (i := 16) (d := (some 73)) (v := ?_) rfl rfl (by kernel_rfl) (by kernel_rfl) (by kernel_rfl) (fun _ _ _ h => h) (Or.inl ⟨by rfl, ?_⟩) (by assumption) ?_
    rotate_left
    · (intro w hSw; (try dsimp only at hSw); go_simp; (try with_reducible rfl))
    simp only [Act.put, List.setIfInBounds_toArray, List.set_cons_zero, List.set_cons_succ]
    refine wpAnyH_ready (rs := [17]) (by kernel_rfl) (by simp) ?_
    refine AllReadyH.cons rfl (fun K hK => ?_) AllReadyH.nil
    go_simp
    refine hK.out _ _ (hHeld) (fun hHeld2 => ?_)
    clear hK K hHeld
    rename _ => hHeld
    refine takeH (i := 18) (d := (some 75)) (v := ?_) rfl rfl (by kernel_rfl) (by kernel_rfl) (by kernel_rfl) (fun _ _ _ h => h) (Or.inl ⟨by rfl, ?_⟩) (by assumption) ?_
    rotate_left
    · (intro w hSw; (try dsimp only at hSw); go_simp; (try with_reducible rfl))
    simp only [Act.put, List.setIfInBounds_toArray, List.set_cons_zero, List.set_cons_succ]
    refine wpAnyH_ready (rs := [19]) (by kernel_rfl) (by simp) ?_
    refine AllReadyH.cons rfl (fun K hK => ?_) AllReadyH.nil
    go_simp
    refine HCL.out.mono ?_
    rintro e w3 ⟨a3, c3, rfl, hm3, hb3⟩
    have HM3 := Lib.hid hm3
    have HB3 := Lib.hid hb3
    have u0 := (hb3.cell (p := ⟨qb, 0, none⟩) hqlt).trans x0
    have u2 := (hb3.cell (p := ⟨rb, ro + I * 4 + 2, none⟩) hrlt).trans x2
    have u3 := (hb3.cell (p := ⟨rb, ro + I * 4 + 3, none⟩) hrlt).trans x3
    have g2 := (World.frozen?_of_block (a := ⟨rb, ro + I * 4 + 2, none⟩) (hb3.block rb hrlt)).trans f2
    have g3 := (World.frozen?_of_block (a := ⟨rb, ro + I * 4 + 3, none⟩) (hb3.block rb hrlt)).trans f3
    have hl3 := hb3.size
    clear hm3 hb3
    dsimp only
    refine hK.out _ _ (u0) (fun hHeld2 => ?_)
    clear hK K hHeld
    rename _ => hHeld
    refine takeH (i := 20) (d := (some 77)) (v := ?_) rfl rfl (by kernel_rfl) (by kernel_rfl) (by kernel_rfl) (fun _ _ _ h => h) (Or.inl ⟨by rfl, ?_⟩) (by assumption) ?_
    rotate_left
    · (intro w hSw; (try dsimp only at hSw); go_simp; (try with_reducible rfl))
    simp only [Act.put, List.setIfInBounds_toArray, List.set_cons_zero, List.set_cons_succ]
    refine takeH (i := 21) (d := (some 78)) (v := ?_) rfl rfl (by kernel_rfl) (by kernel_rfl) (by kernel_rfl) (fun _ _ _ h => h) (Or.inl ⟨by rfl, ?_⟩) (by assumption) ?_
    rotate_left
    · (intro w hSw; (try dsimp only at hSw); go_simp; (try with_reducible rfl))
    simp only [Act.put, List.setIfInBounds_toArray, List.set_cons_zero, List.set_cons_succ]
    refine wpAnyH_ready (rs := [22]) (by kernel_rfl) (by simp) ?_
    refine AllReadyH.cons rfl (fun K hK => ?_) AllReadyH.nil
    go_simp
    refine hK.out _ _ (((Keeps.setCell w3 ⟨rb, ro + I * 4 + 2, none⟩ _ (S := fun k => k = rb) rfl).cell (a := ⟨qb, 0, none⟩) (by have := hl3; show qb < w3.heap.size; exact Nat.lt_of_lt_of_le hqlt hl3) hqr).trans u0) (fun hHeld2 => ?_)
    clear hK K hHeld
    rename _ => hHeld
    refine takeH (i := 23) (d := (some 79)) (v := ?_) rfl rfl (by kernel_rfl) (by kernel_rfl) (by kernel_rfl) (fun _ _ _ h => h) (Or.inl ⟨by rfl, ?_⟩) (by assumption) ?_
    rotate_left
    · (intro w hSw; (try dsimp only at hSw); go_simp; (try with_reducible rfl))
    simp only [Act.put, List.setIfInBounds_toArray, List.set_cons_zero, List.set_cons_succ]
    refine takeH (i := 24) (d := (some 80)) (v := ?_) rfl rfl (by kernel_rfl) (by kernel_rfl) (by kernel_rfl) (fun _ _ _ h => h) (Or.inl ⟨by rfl, ?_⟩) (by assumption) ?_
    rotate_left
    · (intro w hSw; (try dsimp only at hSw); go_simp; (try with_reducible rfl))
    simp only [Act.put, List.setIfInBounds_toArray, List.set_cons_zero, List.set_cons_succ]
    refine wpAnyH_ready (rs := [25]) (by kernel_rfl) (by simp) ?_
    refine AllReadyH.cons rfl (fun K hK => ?_) AllReadyH.nil
    go_simp
    refine hK.out _ _ (((Keeps.setCell _ ⟨rb, ro + I * 4 + 3, none⟩ (.bool false) (S := fun k => k = rb) rfl).cell (a := ⟨qb, 0, none⟩) (World.block_lt_of_cell? _ _ hHeld) hqr).trans hHeld) (fun hHeld2 => ?_)
    clear hK K hHeld
    rename _ => hHeld
    refine wpAnyH_done (by kernel_rfl) ?_ _
    go_wp2_with fail
    go_meet
    have hk3 : Keeps w2 w3 (fun k => RS[I].2.ownBlock = some k) := (Keeps.drew w2 (fun k => RS[I].2.ownBlock = some k)).trans (Keeps.of_below HB3.out (S := fun k => w2.heap.size ≤ k) fun b h _ => h) fun b h1 h2 => absurd h2 (by omega)
    have q1 := HQ2.out.jobs I hhit jr (.slice a3 jr.length c3) x0 hk3 (HM3.out.mono (Nat.zero_le _)) (fun k hk => .inr (HM3.out.lt k hk).1)
    have y0 : (w3.setCell ⟨rb, ro + I * 4 + 2, none⟩ (.slice a3 jr.length c3)).cell? ⟨qb, 0, none⟩ = some (.slice (some ⟨rb, ro, none⟩) RS.length rrc) := ((Keeps.setCell w3 ⟨rb, ro + I * 4 + 2, none⟩ (.slice a3 jr.length c3) (S := fun k => k = rb) rfl).cell (a := ⟨qb, 0, none⟩) (Nat.lt_of_lt_of_le hqlt hl3) hqr).trans u0
    have q2 := q1.trans fun F1 hq => hq.mark I (by rw [List.length_set]; exact hhit) false (by rw [List.length_set]; exact y0)
    obtain ⟨F1, g1, g2, g3⟩ := q2
    have hw02 := HBB.out.size
    have hFm : ∀ k, F1 k → k ≠ w.heap.size ∧ k ≠ w.heap.size + 1 := fun k hk => by
      rcases g2 k hk with h | h
      · have := HFl.out k h; omega
      · omega
    have g4 := (Keeps.of_below HBB.out (S := F) fun b h1 h2 => absurd h1 (by omega)).trans g3 fun _ _ h => h
    refine ⟨F1, _, ?_, g1, fun k hk => ?_, g4, ⟨fun h => (hFm _ h).1 rfl, fun h => (hFm _ h).2 rfl, by have := g3.size; omega⟩, ?_, ?_⟩
    · rw [HTS.out, List.set_set]
      simp only [rowsOf, List.map_set, List.getElem_set_self, HJ0.out, List.tail_cons]
    · rcases g2 k hk with h | h
      · exact .inl h
      · right; omega
    · exact (g3.block w.heap.size (by omega) fun h => by have := HFl.out _ h; omega).trans HP0.out
    · exact (g3.block (w.heap.size + 1) hsz fun h => by have := HFl.out _ h; omega).trans HP1.out
  case rest =>
    obtain ⟨w4, rfl⟩ : ∃ w4 : World, w4 = wc := ⟨_, rfl⟩
    obtain ⟨F1, RX, hRX, hq4, hF1, hk4, ⟨n0, n1, hm1⟩, p0, p1⟩ := hcut
    obtain ⟨kkb4, kko4, kkc4, zb4, zo4, zc4, KA4, ZA4, _⟩ := hq4.worker i hwi hl
    have v1 := ZA4.c2
    have v2 := ZA4.frozen (zo4 + i)
    have v3 := ZA4.k hi
    have hF1l : ∀ k, F1 k → k < w4.heap.size := by obtain ⟨_, _, _, _, _, _, _, _, _, _, h5⟩ := hq4; exact h5
    have v4 := hF1l zb4 ZA4.inF
    have HQ4 := Lib.hid hq4
    have HF1 := Lib.hid hF1
    have HK4 := Lib.hid hk4
    have HP4 := Lib.hid p0
    have HP5 := Lib.hid p1
    have HN0 := Lib.hid n0
    have HN1 := Lib.hid n1
    have HM1 := Lib.hid hm1
    have HRX := Lib.hid hRX
    have HZ4 := Lib.hid ZA4
    have HF1L := Lib.hid hF1l
    have i4 : (0 : Int) ≤ (i : Int) := by omega
    have i5 : (i : Int) < (bs.length : Int) := by omega
    clear hq4 hF1 hk4 p0 p1 n0 n1 hm1 hRX KA4 ZA4 hF1l HM HSL HVV HR2 HCL x0 x2 x3 f2 f3 y0 i2 i3
    go_upto_region 9 with fail
    go_cut [] (fun wx => EQ w qb w.heap.size (w.heap.size + 1) F (tailS (rowsOf RS) t s) ws (bs.set i false) t s wx)
    case first =>
      go_wp2_with fail
      go_meet
      obtain ⟨F2, g1, g2, g3⟩ := HQ4.out.bz i false v1
      have hm := HM1.out
      exact ⟨F2, RX, HRX.out, g1, fun k hk => (g2 k hk).elim (fun h => HF1.out k h) (fun h => .inr (by have := HK4.out.size; omega)), HK4.out.trans g3 (fun b hb h => (HF1.out b h).resolve_right (by omega)),
        ⟨fun h => (g2 _ h).elim HN0.out (fun h => by omega), fun h => (g2 _ h).elim HN1.out (fun h => by omega), by have := g3.size; omega⟩,
        (g3.block _ (by omega) HN0.out).trans HP4.out, (g3.block _ hm HN1.out).trans HP5.out⟩
    case rest =>
      obtain ⟨w5, rfl⟩ : ∃ w5 : World, w5 = wc := ⟨_, rfl⟩
      clear HQ4 HF1 HK4 HP4 HP5 HN0 HN1 HM1 HRX HZ4 HF1L v1 v2 v3 v4
      obtain ⟨F2, RY, hRY, hq5, hF2, hk5, ⟨n0, n1, hm1⟩, p0, p1⟩ := hcut
      have hYl : RY.length = RS.length := by
        have := congrArg List.length (hRY.trans HTS.out)
        simpa [rowsOf] using this
      have hYI : I < RY.length := by omega
      have hYr : RY[I].1 = ⟨RS[I].1.t, RS[I].1.s, jr, false⟩ := by
        have h1 : (rowsOf RY)[I]? = some RY[I].1 := by simp [rowsOf, List.getElem?_eq_getElem hYI]
        rw [hRY, HTS.out, List.getElem?_set_self (by simpa [rowsOf] using hhit), HJ0.out] at h1
        simpa using h1.symm
      obtain ⟨b5, o5, rc5, ja5, jc5, R5⟩ := hq5.row I hYI
      have x0 := R5.c0
      have x2 := R5.k2
      rw [hYr] at x2
      simp only at x2
      have HR5 := Lib.hid R5
      have HQ5 := Lib.hid hq5
      have HF2 := Lib.hid hF2
      have HK5 := Lib.hid hk5
      have HP4 := Lib.hid p0
      have HP5 := Lib.hid p1
      have HN0 := Lib.hid n0
      have HN1 := Lib.hid n1
      have HM1 := Lib.hid hm1
      have HRY := Lib.hid hRY
      have HYR := Lib.hid hYr
      have i6 : (I : Int) < (RY.length : Int) := by omega
      have hlY : RY.length ≤ 9223372036854775807 := by omega
      have HYL := Lib.hid hYl
      clear hq5 hF2 hk5 p0 p1 n0 n1 hm1 hRY R5 hYr hYl
      by_cases hjr : jr = []
      · have HJR := Lib.hid hjr
        have hdr : dropS (tailS (rowsOf RS) t s) t s = rowsOf (RY.eraseIdx I) := by
          have hy := HRY.out
          unfold dropS
          rw [dif_pos (by rw [HATS.out, ← hy]; simpa [rowsOf] using hYI), if_pos (by
            have e : (tailS (rowsOf RS) t s)[atS (tailS (rowsOf RS) t s) t s]? = some ⟨RS[I].1.t, RS[I].1.s, jr, false⟩ := by
              rw [HATS.out, ← hy]
              simp only [rowsOf, List.getElem?_map, List.getElem?_eq_getElem hYI, Option.map_some, HYR.out]
            obtain ⟨h1, h2⟩ := List.getElem?_eq_some_iff.1 e
            rw [h2]; exact hjr), HATS.out, ← hy]
          simp only [rowsOf, List.eraseIdx_eq_take_drop_succ, List.map_append, List.map_take, List.map_drop]
        have HDR := Lib.hid hdr
        have hjl0 : jr.length = 0 := by rw [hjr]; rfl
        rw [hjl0] at x2
        clear hdr hjr
        obtain ⟨ra6, wa6, ba6, rc6, wc6, bc6, h1, ho, h3, h4, h5⟩ := id HQ5.out
        have e := (cell_of_block (j := 0) h1 rfl).symm.trans x0
        obtain ⟨rfl, rfl⟩ : ra6 = some ⟨b5, o5, none⟩ ∧ rc6 = rc5 := by cases e; exact ⟨rfl, rfl⟩
        have hm0 : Mid w5 0 67 4 (.slice (some ⟨b5, o5, none⟩) RY.length rc6) RY.length (RY.flatMap rowCells) := ho.1 ⟨.slice (some ⟨b5, o5, none⟩) RY.length rc6, 67, 4, RY.length, RY.flatMap rowCells⟩ (List.mem_of_getElem? (i := 0) rfl)
        have hfo := h4 b5 ⟨⟨.slice (some ⟨b5, o5, none⟩) RY.length rc6, 67, 4, RY.length, RY.flatMap rowCells⟩, List.mem_of_getElem? (i := 0) rfl, rfl⟩
        have hpw := ho.2
        have hone : ∀ u ∈ RY.flatMap rowCells, u.oneCell' = true := fun u hu => by
          obtain ⟨p, hp, hu⟩ := List.mem_flatMap.1 hu
          have hj := ho.1 (jp p) (by simp only [qPs, List.mem_cons, List.mem_map]; exact .inr (.inr (.inr ⟨p, hp, rfl⟩)))
          obtain ⟨a, c, e⟩ := Mid.slice (show Mid w5 0 3 1 p.2 p.1.jobs.length (p.1.jobs.map IV) from hj)
          simp only [rowCells, List.mem_cons, List.not_mem_nil, or_false] at hu
          rcases hu with rfl | rfl | rfl | rfl
          · rfl
          · rfl
          · rw [e]; rfl
          · rfl
        have hD0 := delete_row b5 o5 RY.length rc6 I (I + 1) (RY.flatMap rowCells) w5 hm0 hone hYI rfl
        rw [show (((I + 1 : Nat)) : Int) = (I : Int) + 1 by omega] at hD0
        have HD := Lib.hid hD0
        clear hD0
        have HB6 := Lib.hid (show ∀ w6, Keeps w5 w6 (fun k => k = b5) → w6.cell? ⟨qb, 0, none⟩ = some (.slice (some ⟨b5, o5, none⟩) RY.length rc6) ∧ w6.frozen? ⟨qb, 0, none⟩ = false from fun w6 hk => ⟨(hk.cell (a := ⟨qb, 0, none⟩) (lt_of_block h1) hfo.2.symm).trans x0, (hk.frozen (a := ⟨qb, 0, none⟩) (lt_of_block h1) hfo.2.symm).trans (free_of_block h1)⟩)
        have HPW := Lib.hid hpw
        have HXC := Lib.hid x0
        have hqb5 := lt_of_block h1
        have i8 : (I : Int) + 1 ≤ 9223372036854775807 := by omega
        have i9 : wrap64 ((I : Int) + 1) = (I : Int) + 1 := by unfold wrap64; omega
        clear h1 ho h3 h4 h5 e hm0 hpw hone hfo
        go_upto_region 11 with fail
        go_cut [] (fun wx => EQ w qb w.heap.size (w.heap.size + 1) F (dropS (tailS (rowsOf RS) t s) t s) ws (bs.set i false) t s wx)
        case first =>
          go_wp2_with fail
          refine HD.out.mono ?_
          rintro e w6 ⟨rfl, hm6, hk6⟩
          have HM6 := Lib.hid hm6
          have HK6 := Lib.hid hk6
          obtain ⟨z1, z2⟩ := HB6.out w6 hk6
          clear hm6 hk6 x0 x2
          go_wp2_with fail
          go_meet
          have hlE : (RY.eraseIdx I).length = RY.length - 1 := by rw [List.length_eraseIdx, if_pos hYI]
          have hfe : (RY.eraseIdx I).flatMap rowCells = (RY.flatMap rowCells).take (I * 4) ++ (RY.flatMap rowCells).drop ((I + 1) * 4) := flat_erase rowCells 4 (fun _ => rfl) RY I hYI
          have hpw : (RY.eraseIdx I).Pairwise fun p q => ∀ k, p.2.ownBlock = some k → q.2.ownBlock ≠ some k := by
            have hp := HPW.out
            simp only [qPs, List.pairwise_cons] at hp
            exact (List.pairwise_map.1 hp.2.2.2).sublist (List.eraseIdx_sublist _ _)
          have g := QS.rows (w4 := w6) (RS' := RY.eraseIdx I) (a' := some ⟨b5, o5, none⟩) (c' := rc6) HQ5.out HXC.out (fun p hp => .inl (List.mem_of_mem_eraseIdx hp)) hpw (HK6.out.mono fun b _ h => by rw [h]; rfl) (by rw [hlE, hfe]; exact HM6.out) (fun k hk => .inl hk)
          rw [hlE] at g
          obtain ⟨F3, e1, e2, e3⟩ := g
          have hm := HM1.out
          exact ⟨F3, RY.eraseIdx I, HDR.out.symm, e1, fun k hk => (e2 k hk).elim (fun h => HF2.out k h) (fun h => .inr (by have := HK5.out.size; omega)), HK5.out.trans e3 (fun b hb h => (HF2.out b h).resolve_right (by omega)),
            ⟨fun h => (e2 _ h).elim HN0.out (fun h => by omega), fun h => (e2 _ h).elim HN1.out (fun h => by omega), by have := e3.size; omega⟩,
            (e3.block _ (by omega) HN0.out).trans HP4.out, (e3.block _ hm HN1.out).trans HP5.out⟩
        case rest =>
          obtain ⟨w8, rfl⟩ : ∃ w8 : World, w8 = wc := ⟨_, rfl⟩
          clear HQ5 HF2 HK5 HP4 HP5 HN0 HN1 HM1 HRY HD HB6 HPW HXC x0 x2
          obtain ⟨F8, RZ, hRZ, hq8, hF8, hk8, ⟨n8, n9, hm8⟩, p8, p9⟩ := hcut
          have y0 : w8.cell? ⟨w.heap.size + 1, 0, none⟩ = some (.int .i64 t) := cell_of_block p9 rfl
          have y1 : w8.cell? ⟨w.heap.size + 1, 1, none⟩ = some (.int .i64 s) := cell_of_block p9 rfl
          have z0 : w8.cell? ⟨w.heap.size, 0, none⟩ = some (.int .i64 0) := cell_of_block p8 rfl
          have z1 : w8.cell? ⟨w.heap.size, 1, none⟩ = some (.int .i64 0) := cell_of_block p8 rfl
          have f0 : w8.frozen? ⟨w.heap.size, 0, none⟩ = false := free_of_block p8
          have f1 : w8.frozen? ⟨w.heap.size, 1, none⟩ = false := free_of_block p8
          have HQ8 := Lib.hid hq8
          have HF8 := Lib.hid hF8
          have HK8 := Lib.hid hk8
          have HN8 := Lib.hid n8
          have HRZ := Lib.hid hRZ
          clear hq8 hF8 hk8 n8 n9 p8 p9 hRZ
          go_wp2
          (try simp only [Exit.inBlock, Exit.then])
          refine bodyPost_ret (v := .tuple #[.agg #[.int .i64 t, .int .i64 s], .int .i64 j0, .nilIface]) ?_ rfl ⟨?_, ?_⟩
          · rw [results_cell_tmp2 rfl]
            go_simp
          · rw [HHD.out, HJ0.out]; rfl
          · have hkm : Keeps w8 ((w8.setCell ⟨w.heap.size, 0, none⟩ (.int .i64 t)).setCell ⟨w.heap.size, 1, none⟩ (.int .i64 s)) (fun k => k = w.heap.size) := (Keeps.setCell w8 ⟨w.heap.size, 0, none⟩ (.int .i64 t) (S := fun k => k = w.heap.size) rfl).trans (Keeps.setCell _ ⟨w.heap.size, 1, none⟩ (.int .i64 s) (S := fun k => k = w.heap.size) rfl) fun _ _ h => h
            exact ⟨RZ, HRZ.out, F8, HQ8.out.keeps hkm (fun k hk e => HN8.out (e ▸ hk)), HF8.out, HK8.out.trans hkm fun b hb e => by omega⟩
      · have hdr : dropS (tailS (rowsOf RS) t s) t s = rowsOf RY := by
          have hy := HRY.out
          unfold dropS
          rw [dif_pos (by rw [HATS.out, ← hy]; simpa [rowsOf] using hYI), if_neg (by
            have e : (tailS (rowsOf RS) t s)[atS (tailS (rowsOf RS) t s) t s]? = some ⟨RS[I].1.t, RS[I].1.s, jr, false⟩ := by
              rw [HATS.out, ← hy]
              simp only [rowsOf, List.getElem?_map, List.getElem?_eq_getElem hYI, Option.map_some, HYR.out]
            obtain ⟨h1, h2⟩ := List.getElem?_eq_some_iff.1 e
            rw [h2]; exact hjr), ← hy]
        obtain ⟨w8, rfl⟩ : ∃ w8 : World, w8 = w5 := ⟨_, rfl⟩
        have hcut : EQ w qb w.heap.size (w.heap.size + 1) F (dropS (tailS (rowsOf RS) t s) t s) ws (bs.set i false) t s w8 := ⟨F2, RY, hdr.symm, HQ5.out, HF2.out, HK5.out, ⟨HN0.out, HN1.out, HM1.out⟩, HP4.out, HP5.out⟩
        have HCUT := Lib.hid hcut
        have hjn : jr.length ≠ 0 := fun h => hjr (List.eq_nil_of_length_eq_zero h)
        have hjb : ((jr.length : Int) == 0) = false := beq_eq_false_iff_ne.2 (by omega)
        have hji : (jr.length : Int) ≠ 0 := by omega
        clear HQ5 HF2 HK5 HP4 HP5 HN0 HN1 HM1 HRY hdr hcut hjr
        go_upto_region 12 with fail
        have hcut := HCUT.out
        obtain ⟨F8, RZ, hRZ, hq8, hF8, hk8, ⟨n8, n9, hm8⟩, p8, p9⟩ := hcut
        have y0 : w8.cell? ⟨w.heap.size + 1, 0, none⟩ = some (.int .i64 t) := cell_of_block p9 rfl
        have y1 : w8.cell? ⟨w.heap.size + 1, 1, none⟩ = some (.int .i64 s) := cell_of_block p9 rfl
        have z0 : w8.cell? ⟨w.heap.size, 0, none⟩ = some (.int .i64 0) := cell_of_block p8 rfl
        have z1 : w8.cell? ⟨w.heap.size, 1, none⟩ = some (.int .i64 0) := cell_of_block p8 rfl
        have f0 : w8.frozen? ⟨w.heap.size, 0, none⟩ = false := free_of_block p8
        have f1 : w8.frozen? ⟨w.heap.size, 1, none⟩ = false := free_of_block p8
        have HQ8 := Lib.hid hq8
        have HF8 := Lib.hid hF8
        have HK8 := Lib.hid hk8
        have HN8 := Lib.hid n8
        have HRZ := Lib.hid hRZ
        clear hq8 hF8 hk8 n8 n9 p8 p9 hRZ
        go_wp2
        (try simp only [Exit.inBlock, Exit.then])
        refine bodyPost_ret (v := .tuple #[.agg #[.int .i64 t, .int .i64 s], .int .i64 j0, .nilIface]) ?_ rfl ⟨?_, ?_⟩
        · rw [results_cell_tmp2 rfl]
          go_simp
        · rw [HHD.out, HJ0.out]; rfl
        · have hkm : Keeps w8 ((w8.setCell ⟨w.heap.size, 0, none⟩ (.int .i64 t)).setCell ⟨w.heap.size, 1, none⟩ (.int .i64 s)) (fun k => k = w.heap.size) := (Keeps.setCell w8 ⟨w.heap.size, 0, none⟩ (.int .i64 t) (S := fun k => k = w.heap.size) rfl).trans (Keeps.setCell _ ⟨w.heap.size, 1, none⟩ (.int .i64 s) (S := fun k => k = w.heap.size) rfl) fun _ _ h => h
          exact ⟨RZ, HRZ.out, F8, HQ8.out.keeps hkm (fun k hk e => HN8.out (e ▸ hk)), HF8.out, HK8.out.trans hkm fun b hb e => by omega⟩
end Go.Proofs.YtkbopcgijaejjaaDoor
