/-
  Begin of a queue by contract; the conditions: the queue's cells, and how many jobs there are.
  Printed by a program of this repository (wip/qu5.py).
-/
import Derived.Test.YtkbopcgijaejjaaDoorPut
namespace Go.Proofs.YtkbopcgijaejjaaDoor
open Go.RowKit Go.Extern.Stop Go.Stop Go.Extern

abbrev sWorker : ByteArray := ⟨#[119, 111, 114, 107, 101, 114]⟩
/-- A fault that is answered behind some other result. -/
def FaultAt (w : World) (s : ByteArray) (k n : Int) (r : Value → Ending) (e : Ending) (w' : World) : Prop := ∃ pb, e = r (eF pb) ∧ IsF w' pb s k n ∧ Below w.heap.size w w' ∧ w.heap.size ≤ pb
set_option maxRecDepth 100000 in
set_option maxHeartbeats 2000000 in
theorem begin_arg (qb : Nat) (F : Nat → Prop) (RS : List (Rw × Value)) (ws : List (Int × Int)) (bs : List Bool) (n p : Int) (w : World) (h : QS w qb F RS ws bs) (hn : RS.length ≤ 4398046511104) (hw : n < 0 ∨ ws.length ≤ n) :
    Calls Tryd.prog 11 #[.pointer (some ⟨qb, 0, none⟩), .int .i64 n, .int .i64 p] w fun e w' => e = .returned (.tuple #[.int .i64 0, eE 1]) ∧ Below w.heap.size w w' := by
  unfold eE
  obtain ⟨ra, wa, ba, rc, wc, bc, r⟩ := h.read
  have HR := Lib.hid r
  have hlw := r.work.lenI
  have hlb := r.busy.lenI
  have hlr := r.rows.lenI
  have HRD := Lib.hid (ready_any qb F RS ws bs w h hn)
  have HH := Lib.hid h
  clear r h
  by_cases h0 : n < 0
  · clear hw
    go_enter Tryd.func11, Tryd.ntmps11
    go_wp2_with fail
    refine HRD.out.mono ?_
    rintro e w1 ⟨oa, oc, rfl, hmr, hb1⟩
    have HMR := Lib.hid hmr
    have HB1 := Lib.hid hb1
    have c1 := (hb1.cell (p := ⟨qb, 1, none⟩) (World.block_lt_of_cell? _ _ HR.out.c1)).trans HR.out.c1
    have c2 := (hb1.cell (p := ⟨qb, 2, none⟩) (World.block_lt_of_cell? _ _ HR.out.c2)).trans HR.out.c2
    clear hmr hb1
    go_wp2
    go_ret2
    exact ⟨rfl, HB1.out⟩
  · have h1 : (ws.length : Int) ≤ n := by omega
    clear hw
    go_enter Tryd.func11, Tryd.ntmps11
    go_wp2_with fail
    refine HRD.out.mono ?_
    rintro e w1 ⟨oa, oc, rfl, hmr, hb1⟩
    have HMR := Lib.hid hmr
    have HB1 := Lib.hid hb1
    have c1 := (hb1.cell (p := ⟨qb, 1, none⟩) (World.block_lt_of_cell? _ _ HR.out.c1)).trans HR.out.c1
    have c2 := (hb1.cell (p := ⟨qb, 2, none⟩) (World.block_lt_of_cell? _ _ HR.out.c2)).trans HR.out.c2
    clear hmr hb1
    go_wp2
    go_ret2
    exact ⟨rfl, HB1.out⟩
set_option maxRecDepth 100000 in
set_option maxHeartbeats 2000000 in
theorem begin_busy (qb : Nat) (F : Nat → Prop) (RS : List (Rw × Value)) (ws : List (Int × Int)) (bs : List Bool) (n p : Int) (w : World) (h : QS w qb F RS ws bs) (hn : RS.length ≤ 4398046511104) (hl : ws.length = bs.length) (h0 : 0 ≤ n) (h1 : n < ws.length) (hz : busyB bs n = true) :
    Calls Tryd.prog 11 #[.pointer (some ⟨qb, 0, none⟩), .int .i64 n, .int .i64 p] w (FaultAt w sWorker n 302 fun v => .returned (.tuple #[.int .i64 0, v])) := by
  obtain ⟨ra, wa, ba, rc, wc, bc, r⟩ := h.read
  have HR := Lib.hid r
  have hlw := r.work.lenI
  have hlb := r.busy.lenI
  have hlr := r.rows.lenI
  have HRD := Lib.hid (ready_any qb F RS ws bs w h hn)
  have HH := Lib.hid h
  clear r h
  obtain ⟨i, rfl⟩ := Int.eq_ofNat_of_zero_le h0
  have hi : i < bs.length := by omega
  obtain ⟨b, of, c', e, _, _, hbl, h4⟩ := HR.out.busy.plain (by omega)
  obtain ⟨rfl, rfl⟩ : ba = some ⟨b, of, none⟩ ∧ bc = c' := by cases e; exact ⟨rfl, rfl⟩
  have hc := h4 i (.bool bs[i]) (by rw [List.getElem?_map, List.getElem?_eq_getElem hi]; rfl)
  have HC := Lib.hid hc
  have HBL := Lib.hid hbl
  clear e h4 hc hbl
  have hbz : bs[i] = true := by
    unfold busyB at hz
    simp only [Bool.and_eq_true, Int.toNat_natCast, List.getD_eq_getElem?_getD, List.getElem?_eq_getElem hi] at hz
    exact hz.2
  have HZ := Lib.hid hbz
  clear hz hbz
  go_enter Tryd.func11, Tryd.ntmps11
  go_wp2_with fail
  refine HRD.out.mono ?_
  rintro e w1 ⟨oa, oc, rfl, hmr, hb1⟩
  have HMR := Lib.hid hmr
  have HB1 := Lib.hid hb1
  have c1 := (hb1.cell (p := ⟨qb, 1, none⟩) (World.block_lt_of_cell? _ _ HR.out.c1)).trans HR.out.c1
  have c2 := (hb1.cell (p := ⟨qb, 2, none⟩) (World.block_lt_of_cell? _ _ HR.out.c2)).trans HR.out.c2
  clear hmr hb1
  have hc := (HB1.out.cell (p := ⟨b, of + i, none⟩) HBL.out).trans HC.out
  rw [HZ.out] at hc
  go_wp2_with fail
  refine (wrap_E 302 _ _ _).mono ?_
  rintro e w2 ⟨rfl, hf, rfl⟩
  have HI := Lib.hid hf
  clear hf
  go_wp2
  go_ret2
  exact ⟨_, rfl, HI.out, HB1.out.alloc HB1.out.size _, HB1.out.size⟩
set_option maxRecDepth 100000 in
set_option maxHeartbeats 2000000 in
theorem begin_idle (qb : Nat) (F : Nat → Prop) (RS : List (Rw × Value)) (ws : List (Int × Int)) (bs : List Bool) (n p : Int) (w : World) (h : QS w qb F RS ws bs) (hn : RS.length ≤ 4398046511104) (hl : ws.length = bs.length) (h0 : 0 ≤ n) (h1 : n < ws.length) (hz : busyB bs n = false) (hr : readyK RS = []) :
    Calls Tryd.prog 11 #[.pointer (some ⟨qb, 0, none⟩), .int .i64 n, .int .i64 p] w (FaultAt w sWorker n 301 fun v => .returned (.tuple #[.int .i64 0, v])) := by
  obtain ⟨ra, wa, ba, rc, wc, bc, r⟩ := h.read
  have HR := Lib.hid r
  have hlw := r.work.lenI
  have hlb := r.busy.lenI
  have hlr := r.rows.lenI
  have HRD := Lib.hid (ready_any qb F RS ws bs w h hn)
  have HH := Lib.hid h
  clear r h
  obtain ⟨i, rfl⟩ := Int.eq_ofNat_of_zero_le h0
  have hi : i < bs.length := by omega
  obtain ⟨b, of, c', e, _, _, hbl, h4⟩ := HR.out.busy.plain (by omega)
  obtain ⟨rfl, rfl⟩ : ba = some ⟨b, of, none⟩ ∧ bc = c' := by cases e; exact ⟨rfl, rfl⟩
  have hc := h4 i (.bool bs[i]) (by rw [List.getElem?_map, List.getElem?_eq_getElem hi]; rfl)
  have HC := Lib.hid hc
  have HBL := Lib.hid hbl
  clear e h4 hc hbl
  have hbz : bs[i] = false := by
    unfold busyB at hz
    simp only [Int.toNat_natCast, List.getD_eq_getElem?_getD, List.getElem?_eq_getElem hi, Option.getD_some, Bool.and_eq_false_iff, decide_eq_false_iff_not] at hz
    rcases hz with h | h
    · exact absurd ⟨h0, by omega⟩ h
    · exact h
  have HZ := Lib.hid hbz
  rw [hr] at HRD
  clear hz hbz hr
  go_enter Tryd.func11, Tryd.ntmps11
  go_wp2_with fail
  refine HRD.out.mono ?_
  rintro e w1 ⟨oa, oc, rfl, hmr, hb1⟩
  have HMR := Lib.hid hmr
  have HB1 := Lib.hid hb1
  have c1 := (hb1.cell (p := ⟨qb, 1, none⟩) (World.block_lt_of_cell? _ _ HR.out.c1)).trans HR.out.c1
  have c2 := (hb1.cell (p := ⟨qb, 2, none⟩) (World.block_lt_of_cell? _ _ HR.out.c2)).trans HR.out.c2
  clear hmr hb1
  have hc := (HB1.out.cell (p := ⟨b, of + i, none⟩) HBL.out).trans HC.out
  rw [HZ.out] at hc
  go_wp2_with fail
  refine (wrap_E 301 _ _ _).mono ?_
  rintro e w2 ⟨rfl, hf, rfl⟩
  have HI := Lib.hid hf
  clear hf
  go_wp2
  go_ret2
  exact ⟨_, rfl, HI.out, HB1.out.alloc HB1.out.size _, HB1.out.size⟩

theorem key_get {w : World} {a : Option Addr} {c : Nat} {ks : List (Int × Int)} (h : Sl w 2 (.slice a ks.length c) ks.length (ks.flatMap kyCells)) (k : Nat) (hk : k < ks.length) :
    ∃ b o, a = some ⟨b, o, none⟩ ∧ b < w.heap.size ∧ w.cell? ⟨b, o + k * 2, none⟩ = some (.int .i64 ks[k].1) ∧ w.cell? ⟨b, o + k * 2 + 1, none⟩ = some (.int .i64 ks[k].2) := by
  obtain ⟨b, o, c', e, h1, h2, h3, h4⟩ := h.plain (by omega)
  cases e
  have hc := fun j u hj => h4 _ u (flat_at kyCells 2 (fun _ => rfl) ks k hk j u hj)
  have c0 := hc 0 _ rfl
  have c1 := hc 1 _ rfl
  simp only [← Nat.add_assoc, Nat.add_zero] at c0 c1
  exact ⟨b, o, rfl, h3, c0, c1⟩
theorem pick_idx (p : Int) (n : Nat) (h : 0 < n) (hn : n ≤ 4398046511104) : ∃ k : Nat, k < n ∧ wrap64 ((IntKind.u64.wrap p).tmod n) = (k : Int) := by
  have h0 : 0 ≤ IntKind.u64.wrap p := by simp [IntKind.wrap, IntKind.bits, IntKind.signed]; omega
  have h1 := Int.tmod_nonneg (n : Int) h0
  have h2 := Int.tmod_lt_of_pos (IntKind.u64.wrap p) (show (0 : Int) < n by omega)
  obtain ⟨k, hk⟩ := Int.eq_ofNat_of_zero_le h1
  refine ⟨k, by omega, ?_⟩
  rw [hk]
  unfold wrap64
  omega
/-- The number of the row that a pick picks among so many. -/
noncomputable def pickK (p : Int) (n : Nat) : Nat := (wrap64 ((IntKind.u64.wrap p).tmod n)).toNat
theorem pickK_lt (p : Int) (n : Nat) (h : 0 < n) (hn : n ≤ 4398046511104) : pickK p n < n ∧ wrap64 ((IntKind.u64.wrap p).tmod n) = (pickK p n : Int) := by
  obtain ⟨k, h1, h2⟩ := pick_idx p n h hn
  unfold pickK
  rw [h2]
  exact ⟨by omega, by omega⟩

structure KeyAt (w : World) (qb : Nat) (F : Nat → Prop) (ws : List (Int × Int)) (n b of c : Nat) : Prop where
  c1 : w.cell? ⟨qb, 1, none⟩ = some (.slice (some ⟨b, of, none⟩) ws.length c)
  inF : F b
  lt : b < w.heap.size
  ne : b ≠ qb
  frozen : ∀ j, w.frozen? ⟨b, j, none⟩ = false
  k0 : ∀ (h : n < ws.length), w.cell? ⟨b, of + n * 2, none⟩ = some (.int .i64 ws[n].1)
  k1 : ∀ (h : n < ws.length), w.cell? ⟨b, of + n * 2 + 1, none⟩ = some (.int .i64 ws[n].2)
structure BusyAt (w : World) (qb : Nat) (F : Nat → Prop) (bs : List Bool) (n b of c : Nat) : Prop where
  c2 : w.cell? ⟨qb, 2, none⟩ = some (.slice (some ⟨b, of, none⟩) bs.length c)
  inF : F b
  lt : b < w.heap.size
  ne : b ≠ qb
  frozen : ∀ j, w.frozen? ⟨b, j, none⟩ = false
  k : ∀ (h : n < bs.length), w.cell? ⟨b, of + n, none⟩ = some (.bool bs[n])
theorem QS.worker {w : World} {qb : Nat} {F : Nat → Prop} {RS : List (Rw × Value)} {ws : List (Int × Int)} {bs : List Bool} (h : QS w qb F RS ws bs) (n : Nat) (hn : n < ws.length) (hl : ws.length = bs.length) :
    ∃ b of c b' of' c', KeyAt w qb F ws n b of c ∧ BusyAt w qb F bs n b' of' c' ∧ b ≠ b' := by
  obtain ⟨ra, wa, ba, rc, wc, bc, r⟩ := h.read
  obtain ⟨ra', wa', ba', rc', wc', bc', h1, ho, _, h4, _⟩ := h
  have e1 := (cell_of_block (j := 1) h1 rfl).symm.trans r.c1
  have e2 := (cell_of_block (j := 2) h1 rfl).symm.trans r.c2
  obtain ⟨rfl, rfl⟩ : wa' = wa ∧ wc' = wc := by cases e1; exact ⟨rfl, rfl⟩
  obtain ⟨rfl, rfl⟩ : ba' = ba ∧ bc' = bc := by cases e2; exact ⟨rfl, rfl⟩
  obtain ⟨b, of, rfl, hb, k0, k1⟩ := key_get r.work n hn
  obtain ⟨b', of', c', e, _, _, hbl, h4'⟩ := r.busy.plain (by omega)
  obtain ⟨rfl, rfl⟩ : ba' = some ⟨b', of', none⟩ ∧ bc' = c' := by cases e; exact ⟨rfl, rfl⟩
  have hm1 : Mid w 0 29 2 (.slice (some ⟨b, of, none⟩) ws.length wc') ws.length (ws.flatMap kyCells) := ho.1 ⟨.slice (some ⟨b, of, none⟩) ws.length wc', 29, 2, ws.length, ws.flatMap kyCells⟩ (List.mem_of_getElem? (i := 1) rfl)
  have hm2 : Mid w 0 4 1 (.slice (some ⟨b', of', none⟩) bs.length bc') bs.length (bs.map Value.bool) := ho.1 ⟨.slice (some ⟨b', of', none⟩) bs.length bc', 4, 1, bs.length, bs.map Value.bool⟩ (List.mem_of_getElem? (i := 2) rfl)
  have f1 := h4 b ⟨⟨.slice (some ⟨b, of, none⟩) ws.length wc', 29, 2, ws.length, ws.flatMap kyCells⟩, List.mem_of_getElem? (i := 1) rfl, rfl⟩
  have f2 := h4 b' ⟨⟨.slice (some ⟨b', of', none⟩) bs.length bc', 4, 1, bs.length, bs.map Value.bool⟩, List.mem_of_getElem? (i := 2) rfl, rfl⟩
  refine ⟨b, of, wc', b', of', bc', ⟨r.c1, f1.1, hb, f1.2, hm1.frozen, fun _ => k0, fun _ => k1⟩, ⟨r.c2, f2.1, hbl, f2.2, hm2.frozen, fun hi => h4' n _ (by rw [List.getElem?_map, List.getElem?_eq_getElem hi]; rfl)⟩, fun e => ?_⟩
  have hp := ho.2
  simp only [qPs] at hp
  exact (List.pairwise_cons.1 (List.pairwise_cons.1 hp).2).1 ⟨.slice (some ⟨b', of', none⟩) bs.length bc', 4, 1, bs.length, bs.map Value.bool⟩ (by simp) b rfl (by rw [e]; rfl)

/-- Behind the store that marks a row: the queue, and a key that lies in a block of its own. -/
def BQ (w : World) (qb kb : Nat) (F : Nat → Prop) (RS : List (Rw × Value)) (ws : List (Int × Int)) (bs : List Bool) (t s : Int) (wx : World) : Prop :=
  ∃ F1, QS wx qb F1 RS ws bs ∧ (∀ k, F1 k → F k ∨ w.heap.size ≤ k) ∧ Keeps w wx F ∧ ¬ F1 kb ∧ kb ≠ qb ∧ kb < wx.heap.size ∧ wx.cell? ⟨kb, 0, none⟩ = some (.int .i64 t) ∧ wx.cell? ⟨kb, 1, none⟩ = some (.int .i64 s)
def markS (rows : List Rw) (t s : Int) (z : Bool) : List Rw :=
  if h : atS rows t s < rows.length then rows.set (atS rows t s) ⟨rows[atS rows t s].t, rows[atS rows t s].s, rows[atS rows t s].jobs, z⟩ else rows
def headS (rows : List Rw) (t s : Int) : Int :=
  if h : atS rows t s < rows.length then rows[atS rows t s].jobs.headD 0 else 0
set_option maxRecDepth 100000 in
set_option maxHeartbeats 8000000 in
theorem begin_ok (qb : Nat) (F : Nat → Prop) (RS : List (Rw × Value)) (ws : List (Int × Int)) (bs : List Bool) (n p : Int) (w : World) (h : QS w qb F RS ws bs) (hn : RS.length ≤ 4398046511104) (hl : ws.length = bs.length) (h0 : 0 ≤ n) (h1 : n < ws.length) (hz : busyB bs n = false) (hr : pickK p (readyK RS).length < (readyK RS).length) (hj : ∀ q ∈ RS, q.1.jobs ≠ []) :
    Calls Tryd.prog 11 #[.pointer (some ⟨qb, 0, none⟩), .int .i64 n, .int .i64 p] w fun e w' =>
      e = .returned (.tuple #[.int .i64 (headS (rowsOf RS) (readyK RS)[pickK p (readyK RS).length].1 (readyK RS)[pickK p (readyK RS).length].2), .nilIface]) ∧
      QB w qb F (markS (rowsOf RS) (readyK RS)[pickK p (readyK RS).length].1 (readyK RS)[pickK p (readyK RS).length].2 true) (ws.set n.toNat (readyK RS)[pickK p (readyK RS).length]) (bs.set n.toNat true) w' := by
  obtain ⟨ra, wa, ba, rc, wc, bc, r⟩ := h.read
  have HR := Lib.hid r
  have hlw := r.work.lenI
  have hlb := r.busy.lenI
  have hlr := r.rows.lenI
  have HRD := Lib.hid (ready_any qb F RS ws bs w h hn)
  have HH := Lib.hid h
  clear r h
  obtain ⟨i, rfl⟩ := Int.eq_ofNat_of_zero_le h0
  have hi : i < bs.length := by omega
  obtain ⟨b, of, c', e, _, _, hbl, h4⟩ := HR.out.busy.plain (by omega)
  obtain ⟨rfl, rfl⟩ : ba = some ⟨b, of, none⟩ ∧ bc = c' := by cases e; exact ⟨rfl, rfl⟩
  have hc := h4 i (.bool bs[i]) (by rw [List.getElem?_map, List.getElem?_eq_getElem hi]; rfl)
  have HC := Lib.hid hc
  have HBL := Lib.hid hbl
  clear e h4 hc hbl
  have hbz : bs[i] = false := by
    unfold busyB at hz
    simp only [Int.toNat_natCast, List.getD_eq_getElem?_getD, List.getElem?_eq_getElem hi, Option.getD_some, Bool.and_eq_false_iff, decide_eq_false_iff_not] at hz
    rcases hz with h | h
    · exact absurd ⟨h0, by omega⟩ h
    · exact h
  have HZ := Lib.hid hbz
  have hrl := readyK_le RS
  have HPK := Lib.hid (pickK_lt p (readyK RS).length (by omega) (by omega)).2
  obtain ⟨k, hke⟩ : ∃ k, k = pickK p (readyK RS).length := ⟨_, rfl⟩
  simp only [← hke] at hr HPK ⊢
  obtain ⟨ky, hky⟩ : ∃ ky, ky = (readyK RS)[k] := ⟨_, rfl⟩
  simp only [← hky]
  obtain ⟨t, s⟩ := ky
  have hhit : atR RS t s < RS.length := by
    have hm := List.getElem_mem hr
    rw [← hky] at hm
    unfold readyK at hm
    obtain ⟨q, hq, e⟩ := List.mem_map.1 hm
    unfold atR
    rw [List.findIdx_lt_length]
    refine ⟨q, (List.mem_filter.1 hq).1, ?_⟩
    cases e
    simp [keyIs]
  have HKY := Lib.hid hky
  clear hz hbz hke hky
  generalize hK : readyK RS = K at *
  clear hK
  have HV := Lib.hid (show atV RS t s = (atR RS t s : Int) by unfold atV; rw [if_pos hhit])
  have HJH := Lib.hid (hj _ (List.getElem_mem hhit))
  have HMS := Lib.hid (show markS (rowsOf RS) t s true = rowsOf (RS.set (atR RS t s) (⟨RS[atR RS t s].1.t, RS[atR RS t s].1.s, RS[atR RS t s].1.jobs, true⟩, RS[atR RS t s].2)) by
    unfold markS
    rw [dif_pos (by rw [atS_of]; simpa [rowsOf] using hhit)]
    have e := atS_of RS t s
    unfold rowsOf at e ⊢
    simp only [List.map_set, List.getElem_map, e])
  have HHD := Lib.hid (show headS (rowsOf RS) t s = RS[atR RS t s].1.jobs.headD 0 by
    unfold headS
    rw [dif_pos (by rw [atS_of]; simpa [rowsOf] using hhit)]
    have e := atS_of RS t s
    unfold rowsOf at e ⊢
    simp only [List.getElem_map, e])
  clear hj
  generalize hIe : atR RS t s = I at *
  clear hIe
  have HFl := Lib.hid (show ∀ k, F k → k < w.heap.size by obtain ⟨_, _, _, _, _, _, _, _, _, _, h5⟩ := HH.out; exact h5)
  go_enter Tryd.func11, Tryd.ntmps11
  go_wp2_with fail
  refine HRD.out.mono ?_
  rintro e w1 ⟨oa, oc, rfl, hmr, hb1⟩
  have HMR := Lib.hid hmr
  have HB1 := Lib.hid hb1
  have c1 := (hb1.cell (p := ⟨qb, 1, none⟩) (World.block_lt_of_cell? _ _ HR.out.c1)).trans HR.out.c1
  have c2 := (hb1.cell (p := ⟨qb, 2, none⟩) (World.block_lt_of_cell? _ _ HR.out.c2)).trans HR.out.c2
  clear hmr hb1
  have hc := (HB1.out.cell (p := ⟨b, of + i, none⟩) HBL.out).trans HC.out
  rw [HZ.out] at hc
  have hnl : ((K.length : Int) == 0) = false := beq_eq_false_iff_ne.2 (by omega)
  have hn0 : (K.length : Int) ≠ 0 := by omega
  obtain ⟨kb, ko, rfl, hkl, hk0, hk1⟩ := key_get (Sl.ofMid HMR.out) k hr
  rw [← HKY.out] at hk0 hk1
  have i0 : (0 : Int) ≤ (k : Int) := by omega
  have i1 : (k : Int) < (K.length : Int) := by omega
  have hpk := HPK.out
  have hb0 : Below w.heap.size w (w1.alloc (.cells #[.int .i64 t, .int .i64 s] 29)) := HB1.out.alloc HB1.out.size _
  have HA := Lib.hid (at_any qb F RS ws bs t s _ (HH.out.below hb0))
  have HB0 := Lib.hid hb0
  have hws := HB1.out.size
  clear hb0 hpk
  go_upto_region 9 with (rw [HPK.out])
  clear hk0 hk1 hkl hc c1 c2 i0 i1
  obtain ⟨m1, hm1⟩ : ∃ m, m = w1.heap.size := ⟨_, rfl⟩
  rw [← hm1]
  go_wp2_with fail
  refine HA.out.mono ?_
  rintro e w2 ⟨rfl, hb2⟩
  rw [HV.out]
  have hq2 := (HH.out.below HB0.out).below hb2
  have b0 : w2.cell? ⟨m1, 0, none⟩ = some (.int .i64 t) := by rw [hm1]; exact (hb2.cell (p := ⟨w1.heap.size, 0, none⟩) (by simp)).trans (by simp)
  have b1 : w2.cell? ⟨m1, 1, none⟩ = some (.int .i64 s) := by rw [hm1]; exact (hb2.cell (p := ⟨w1.heap.size, 1, none⟩) (by simp)).trans (by simp)
  have hml : m1 < w2.heap.size := by rw [hm1]; have := hb2.size; simp at this; omega
  have HQA0 := Lib.hid (QA.of_below HH.out (HB0.out.trans (hb2.mono HB0.out.size)))
  obtain ⟨rb, ro, rrc, ja, jc, R⟩ := hq2.row I hhit
  have hrbF : F rb := by
    obtain ⟨ra', wa', ba', rc', wc', bc', h1, ho, _, h4, _⟩ := id hq2
    have e := (cell_of_block (j := 0) h1 rfl).symm.trans R.c0
    cases e
    exact (h4 rb ⟨⟨.slice (some ⟨rb, ro, none⟩) RS.length rrc, 67, 4, RS.length, RS.flatMap rowCells⟩, List.mem_of_getElem? (i := 0) rfl, rfl⟩).1
  have HF := Lib.hid (HFl.out rb hrbF)
  have hqlt := R.lt.1
  have hqw : qb < w.heap.size := by obtain ⟨_, _, _, _, _, _, h1, _⟩ := HH.out; exact lt_of_block h1
  have HQ2 := Lib.hid hq2
  have HR2 := Lib.hid R
  have c0 := R.c0
  have k3 := R.k3
  have f3 := R.frozen (ro + I * 4 + 3)
  have hln := hlr.1
  have i0 : (0 : Int) ≤ (I : Int) := by omega
  have i1 : (I : Int) < (RS.length : Int) := by omega
  have HB2 := Lib.hid hb2
  clear hb2 hq2 R
  go_upto_region 10 with fail
  go_cut [] (fun wx => BQ w qb w1.heap.size F (RS.set I (⟨RS[I].1.t, RS[I].1.s, RS[I].1.jobs, true⟩, RS[I].2)) ws bs t s wx)
  case first =>
    go_wp2_with fail
    go_meet
    rw [hm1] at b0 b1 hml
    have hw2 : w1.heap.size < w2.heap.size := hml
    have hne : w1.heap.size ≠ rb := by have := HF.out; omega
    obtain ⟨F1, g1, g2, g3⟩ := HQ2.out.mark I hhit true c0
    have hkk : Keeps w2 (w2.setCell ⟨rb, ro + I * 4 + 3, none⟩ (.bool true)) (fun k => k = rb) := Keeps.setCell w2 ⟨rb, ro + I * 4 + 3, none⟩ (.bool true) (S := fun k => k = rb) rfl
    obtain ⟨F2, g4, g5, g6⟩ := HQA0.out.trans fun F1' hq => QS.mark hq I hhit true c0
    have hFm : ∀ k, F k → k ≠ w1.heap.size := fun k hk => by have := HFl.out k hk; omega
    refine ⟨F1, g1, fun x hx => ?_, g6, fun hx => ?_, by omega, by have := g3.size; omega, ?_, ?_⟩
    · rcases g2 x hx with h | h
      · exact .inl h
      · right; have := (HB0.out.trans (HB2.out.mono HB0.out.size)).size; omega
    · rcases g2 _ hx with h | h
      · exact hFm _ h rfl
      · omega
    · exact (hkk.cell (a := ⟨w1.heap.size, 0, none⟩) hw2 hne).trans b0
    · exact (hkk.cell (a := ⟨w1.heap.size, 1, none⟩) hw2 hne).trans b1
  case rest =>
    obtain ⟨RX, hRX⟩ : ∃ RX, RX = RS.set I (⟨RS[I].1.t, RS[I].1.s, RS[I].1.jobs, true⟩, RS[I].2) := ⟨_, rfl⟩
    rw [← hRX] at hcut
    have HRX := Lib.hid hRX
    have hXl : RX.length = RS.length := by rw [hRX, List.length_set]
    clear hRX
    obtain ⟨w3, rfl⟩ : ∃ w3 : World, w3 = wc := ⟨_, rfl⟩
    obtain ⟨F1, hq3, g2, g3, g4, hne, hlt3, a0, a1⟩ := hcut
    obtain ⟨kkb, kko, kkc, zb, zo, zc, KA, ZA, hkz⟩ := hq3.worker i (by omega) hl
    have x1 := KA.c1
    have x2 := ZA.c2
    have x3 := KA.frozen (kko + i * 2)
    have x4 := KA.frozen (kko + i * 2 + 1)
    have x5 := ZA.frozen (zo + i)
    have x6 := KA.k0 (by omega)
    have x7 := KA.k1 (by omega)
    have x8 := ZA.k hi
    have x9 : kkb ≠ w1.heap.size := fun e => g4 (e ▸ KA.inF)
    have x10 : zb ≠ w1.heap.size := fun e => g4 (e ▸ ZA.inF)
    have x11 : kkb ≠ qb := KA.ne
    have x12 : zb ≠ qb := ZA.ne
    have hlw0 := hlw.1
    have HQA3 := Lib.hid (show QA w qb F RX ws bs w3 from ⟨F1, hq3, g2, g3⟩)
    have HQ3 := Lib.hid hq3
    have i2 : (0 : Int) ≤ (i : Int) := by omega
    have i3 : (i : Int) < (bs.length : Int) := by omega
    clear b0 b1 c0 k3 f3 KA ZA hq3 g2 g3 g4 hm1 hml hrbF
    go_upto_region 11 with fail
    go_cut [] (fun wx => QA w qb F RX (ws.set i (t, s)) (bs.set i true) wx)
    case first =>
      go_region
      all_goals
        go_wp2_with fail
        go_meet
        have hqw3 : qb < w3.heap.size := by obtain ⟨_, _, _, _, _, _, h1, _⟩ := HQ3.out; exact lt_of_block h1
        have hkk : Keeps w3 ((w3.setCell ⟨kkb, kko + i * 2, none⟩ (.int .i64 t)).setCell ⟨kkb, kko + i * 2 + 1, none⟩ (.int .i64 s)) (fun k => k = kkb) := (Keeps.setCell w3 ⟨kkb, kko + i * 2, none⟩ (.int .i64 t) (S := fun k => k = kkb) rfl).trans (Keeps.setCell _ ⟨kkb, kko + i * 2 + 1, none⟩ (.int .i64 s) (S := fun k => k = kkb) rfl) fun _ _ h => h
        have y2 := (hkk.cell (a := ⟨qb, 2, none⟩) hqw3 (fun e => x11 e.symm)).trans x2
        exact ((HQA3.out.trans fun F1 hq => hq.work i (by omega) t s x1).trans fun F2 hq => hq.bz i true y2).below (Below.refl _ _).drew
    case rest =>
      obtain ⟨w4, rfl⟩ : ∃ w4 : World, w4 = wc := ⟨_, rfl⟩
      have HQ4 := Lib.hid hcut
      obtain ⟨F2, hq4, _, _⟩ := hcut
      have hIX : I < RX.length := by omega
      obtain ⟨b4, o4, rc4, ja4, jc4, R⟩ := hq4.row I hIX
      have hRI : RX[I].1.jobs = RS[I].1.jobs := by
        have := HRX.out
        subst this
        simp
      obtain ⟨j0, jr, hj0⟩ : ∃ j0 jr, RS[I].1.jobs = j0 :: jr := by
        cases hx : RS[I].1.jobs with
        | nil => exact absurd hx HJH.out
        | cons a l => exact ⟨a, l, rfl⟩
      have hlen : RX[I].1.jobs.length = jr.length + 1 := by rw [hRI, hj0]; rfl
      have y0 := R.c0
      have y2 := R.k2
      have hm := R.mid
      rw [hlen] at y2
      rw [hlen, hRI, hj0] at hm
      obtain ⟨jb, jo, jcc, e, hjn, hjm, hjl, hjc⟩ := (Sl.ofMid hm).plain (by omega)
      obtain ⟨rfl, rfl⟩ : ja4 = some ⟨jb, jo, none⟩ ∧ jc4 = jcc := by cases e; exact ⟨rfl, rfl⟩
      have z0 := hjc 0 (.int .i64 j0) rfl
      rw [Nat.add_zero] at z0
      have hlnX : RX.length ≤ 9223372036854775807 := by omega
      have i4 : (I : Int) < (RX.length : Int) := by omega
      have i5 : (0 : Int) < ((jr.length + 1 : Nat) : Int) := by omega
      clear x1 x2 x3 x4 x5 x6 x7 x8 hm hjc e R hq4 a0 a1
      go_wp2
      go_ret2
      refine ⟨by rw [HHD.out, hj0]; rfl, RX, ?_, HQ4.out⟩
      rw [HMS.out, HRX.out]
end Go.Proofs.YtkbopcgijaejjaaDoor
