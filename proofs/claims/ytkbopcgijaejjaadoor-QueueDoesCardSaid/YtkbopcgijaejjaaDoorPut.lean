/-
  Put of a queue by contract; the conditions: the queue's cells, and how many jobs there are.
  Printed by a program of this repository (wip/qu4.py).
-/
import Derived.Test.YtkbopcgijaejjaaDoorUpd
import Derived.Deep.RegionLaw
import Derived.Deep.DeepCutAuto
namespace Go.Proofs.YtkbopcgijaejjaaDoor
open Go.RowKit Go.Extern.Stop Go.Stop Go.Extern

theorem Tryd.infoR : (Tryd.prog.info? 67).map (fun i => (i.zero, i.size, i.bytes)) = some (some (.agg #[.int .i64 0, .int .i64 0, .slice none 0 0, .bool false]), 4, 48) := by kernel_rfl
def rowsOf (RS : List (Rw × Value)) : List Rw := RS.map fun p => p.1
def isK (t s : Int) (r : Rw) : Prop := r.t = t ∧ r.s = s
instance (t s : Int) (r : Rw) : Decidable (isK t s r) := inferInstanceAs (Decidable (_ ∧ _))
def atS (rows : List Rw) (t s : Int) : Nat := rows.findIdx fun r => decide (isK t s r)
theorem atS_of (RS : List (Rw × Value)) (t s : Int) : atS (rowsOf RS) t s = atR RS t s := by
  unfold atS atR rowsOf
  rw [List.findIdx_map]; rfl
/-- What a job makes of the rows. -/
def putS (rows : List Rw) (t s job : Int) : List Rw :=
  if h : atS rows t s < rows.length then rows.set (atS rows t s) ⟨t, s, rows[atS rows t s].jobs ++ [job], rows[atS rows t s].busy⟩ else rows ++ [⟨t, s, [job], false⟩]
/-- A queue of these rows. -/
def QB (w : World) (qb : Nat) (F : Nat → Prop) (rows : List Rw) (ws : List (Int × Int)) (bs : List Bool) (w' : World) : Prop := ∃ RS', rowsOf RS' = rows ∧ QA w qb F RS' ws bs w'
theorem le_sum : ∀ (l : List Nat) (n : Nat), n ∈ l → n ≤ l.sum
  | x :: r, n, h => by
    rcases List.mem_cons.1 h with rfl | h
    · simp
    · have := le_sum r n h; simp; omega
theorem bounds_jobs {RS : List (Rw × Value)} (I : Nat) (hI : I < RS.length) : RS[I].1.jobs.length ≤ allN RS := by
  unfold allN
  have : RS[I].1.jobs.length ∈ RS.map fun p => p.1.jobs.length := List.mem_map.2 ⟨_, List.getElem_mem hI, rfl⟩
  exact le_sum _ _ this


/-- What lies around a row. -/
structure RowAt (w : World) (qb : Nat) (RS : List (Rw × Value)) (I b of rc : Nat) (ja : Option Addr) (jc : Nat) (r : Rw) : Prop where
  c0 : w.cell? ⟨qb, 0, none⟩ = some (.slice (some ⟨b, of, none⟩) RS.length rc)
  val : ∀ (hI : I < RS.length), RS[I] = (r, .slice ja r.jobs.length jc)
  mid : Mid w 0 3 1 (.slice ja r.jobs.length jc) r.jobs.length (r.jobs.map IV)
  apart : ∀ k, (Value.slice ja r.jobs.length jc).ownBlock = some k → k ≠ qb ∧ k ≠ b
  frozen : ∀ j, w.frozen? ⟨b, j, none⟩ = false
  qfrozen : ∀ j, w.frozen? ⟨qb, j, none⟩ = false
  lt : qb < w.heap.size ∧ b < w.heap.size ∧ qb ≠ b
  k0 : w.cell? ⟨b, of + I * 4, none⟩ = some (.int .i64 r.t)
  k1 : w.cell? ⟨b, of + I * 4 + 1, none⟩ = some (.int .i64 r.s)
  k2 : w.cell? ⟨b, of + I * 4 + 2, none⟩ = some (.slice ja r.jobs.length jc)
  k3 : w.cell? ⟨b, of + I * 4 + 3, none⟩ = some (.bool r.busy)
theorem QS.row {w : World} {qb : Nat} {F : Nat → Prop} {RS : List (Rw × Value)} {ws : List (Int × Int)} {bs : List Bool} (h : QS w qb F RS ws bs) (I : Nat) (hI : I < RS.length) : ∃ b of rc ja jc, RowAt w qb RS I b of rc ja jc RS[I].1 := by
  obtain ⟨ra, wa, ba, rc, wc, bc, r⟩ := h.read
  obtain ⟨b, of, rfl, hbl, k0, k1, k2, k3⟩ := row_get r.rows (Below.refl _ _) I hI
  obtain ⟨ja, jc, hv, _⟩ := (r.jobs RS[I] (List.getElem_mem hI)).len
  have c0 := r.c0
  obtain ⟨ra', wa', ba', rc', wc', bc', h1, ho, _, h4, _⟩ := h
  have e := (cell_of_block (j := 0) h1 rfl).symm.trans c0
  obtain ⟨rfl, rfl⟩ : ra' = some ⟨b, of, none⟩ ∧ rc' = rc := by cases e; exact ⟨rfl, rfl⟩
  have hmem : jp RS[I] ∈ qPs (.slice (some ⟨b, of, none⟩) RS.length rc') (.slice wa' ws.length wc') (.slice ba' bs.length bc') RS ws bs := by simp only [qPs, List.mem_cons, List.mem_map]; exact .inr (.inr (.inr ⟨_, List.getElem_mem hI, rfl⟩))
  have hm := ho.1 _ hmem
  unfold jp Pc.mid at hm
  simp only [hv] at hm
  have hrm : Mid w 0 67 4 (.slice (some ⟨b, of, none⟩) RS.length rc') RS.length (RS.flatMap rowCells) := ho.1 ⟨.slice (some ⟨b, of, none⟩) RS.length rc', 67, 4, RS.length, RS.flatMap rowCells⟩ (List.mem_of_getElem? (i := 0) rfl)
  have hfb := h4 b ⟨⟨.slice (some ⟨b, of, none⟩) RS.length rc', 67, 4, RS.length, RS.flatMap rowCells⟩, List.mem_of_getElem? (i := 0) rfl, rfl⟩
  refine ⟨b, of, rc', ja, jc, ⟨c0, fun _ => by rw [← hv], hm, fun k hk => ⟨(h4 k ⟨_, hmem, by simp only [jp]; rw [hv]; exact hk⟩).2, fun e => ?_⟩, hrm.frozen, fun j => free_of_block h1, ⟨lt_of_block h1, hbl, hfb.2.symm⟩, k0, k1, by rw [← hv]; exact k2, k3⟩⟩
  have hp := ho.2
  simp only [qPs] at hp
  have := (List.pairwise_cons.1 hp).1 (jp RS[I]) (by simp only [List.mem_cons, List.mem_map]; exact .inr (.inr ⟨_, List.getElem_mem hI, rfl⟩)) b rfl
  exact this (by simp only [jp]; rw [hv, ← e]; exact hk)
/-- The last statement of Put: a job goes behind those of a row. -/
theorem put_tail_world {w2 w4 : World} {qb : Nat} {F : Nat → Prop} {RS : List (Rw × Value)} {ws : List (Int × Int)} {bs : List Bool} (h : QS w2 qb F RS ws bs) (I : Nat) (hI : I < RS.length) (job : Int) {b of c : Nat} {ja : Option Addr} {jl jc : Nat} {a' : Option Addr} {c' : Nat} (hl : jl = RS[I].1.jobs.length) (hv : RS[I].2 = .slice ja jl jc) (hc : w2.cell? ⟨qb, 0, none⟩ = some (.slice (some ⟨b, of, none⟩) RS.length c))
    {ob : Obj} (hmo : Mid w4 0 3 1 (.slice a' (jl + 1) c') (jl + 1) (RS[I].1.jobs.map IV ++ [.int .i64 job])) (hgo : ((w2.alloc ob).drew).grownBy w4 (Value.slice ja jl jc).ownBlock) (hbo : (Value.slice a' (jl + 1) c').ownBlock = (Value.slice ja jl jc).ownBlock ∨ (Value.slice a' (jl + 1) c').ownBlock = some (w2.heap.size + 1)) :
    QA w2 qb F (RS.set I (⟨RS[I].1.t, RS[I].1.s, RS[I].1.jobs ++ [job], RS[I].1.busy⟩, .slice a' (jl + 1) c')) ws bs (w4.setCell ⟨b, of + I * 4 + 2, none⟩ (.slice a' (jl + 1) c')) := by
  refine QS.jobs h I hI _ _ hc ?_ ?_ ?_
  · rw [hv]
    exact (((Keeps.alloc w2 ob (fun k => (Value.slice ja jl jc).ownBlock = some k)).trans (Keeps.drew _ (fun _ => False)) fun _ _ h => h.elim).trans (Keeps.of_grown hgo (S := fun k => (Value.slice ja jl jc).ownBlock = some k) fun b h => h) fun _ _ h => h)
  · rw [List.length_append, List.map_append, ← hl]; exact hmo
  · intro k hk
    rw [hv]
    rcases hbo with e | e
    · rw [e] at hk; exact .inl hk
    · rw [e] at hk; cases hk; right; omega


set_option maxRecDepth 100000 in
set_option maxHeartbeats 8000000 in
theorem put_hit (qb : Nat) (F : Nat → Prop) (RX : List (Rw × Value)) (ws : List (Int × Int)) (bs : List Bool) (t s job : Int) (w : World) (h : QS w qb F RX ws bs) (hh : atR RX t s < RX.length) (hn : allN RX ≤ 7036874417560) :
    Calls Tryd.prog 10 #[.pointer (some ⟨qb, 0, none⟩), .agg #[.int .i64 t, .int .i64 s], .int .i64 job] w fun e w' => (∃ v, e = .returned v) ∧ QB w qb F (putS (rowsOf RX) t s job) ws bs w' := by
  have hb0 : Below w.heap.size w (w.alloc (.cells #[.int .i64 t, .int .i64 s] 29)) := (Below.refl _ _).alloc (Nat.le_refl _) _
  have HA := Lib.hid (at_any qb F RX ws bs t s _ (h.below hb0))
  have HQ := Lib.hid (h.below hb0)
  have HV := Lib.hid (show atV RX t s = (atR RX t s : Int) by unfold atV; rw [if_pos hh])
  have HH := Lib.hid h
  have HB0 := Lib.hid hb0
  have hjl := bounds_jobs _ hh
  obtain ⟨ti, hi, hz0, hz1, hz2⟩ := info_parts Tryd.infoI
  have hput : putS (rowsOf RX) t s job = rowsOf (RX.set (atR RX t s) (⟨RX[atR RX t s].1.t, RX[atR RX t s].1.s, RX[atR RX t s].1.jobs ++ [job], RX[atR RX t s].1.busy⟩, .slice none 0 0)) := by
    unfold putS
    rw [dif_pos (by rw [atS_of]; simpa [rowsOf] using hh)]
    have hk := (atR_hit hh).1
    simp only [rowsOf, List.map_set, List.getElem_map]
    have e := atS_of RX t s
    unfold rowsOf at e
    simp only [e, hk.1, hk.2]
  have HPUT := Lib.hid hput
  clear h hb0 hput
  generalize hIe : atR RX t s = I at *
  clear hIe
  go_enter Tryd.func10, Tryd.ntmps10
  go_wp2_with fail
  refine HA.out.mono ?_
  rintro e w2 ⟨rfl, hb2⟩
  rw [HV.out]
  have hq2 := HQ.out.below hb2
  have HQA := Lib.hid (QA.of_below HH.out (HB0.out.trans (hb2.mono HB0.out.size)))
  clear hb2
  obtain ⟨b, of, rc, ja, jc, R⟩ := hq2.row I hh
  have HQ2 := Lib.hid hq2
  have HR := Lib.hid R
  have hln : RX.length ≤ 9223372036854775807 := by
    obtain ⟨ra, wa, ba, rc, wc, bc, r⟩ := hq2.read
    exact r.rows.lenI.1
  have c0 := R.c0
  have k2 := R.k2
  obtain ⟨jl, hjle⟩ : ∃ jl, jl = RX[I].1.jobs.length := ⟨_, rfl⟩
  obtain ⟨js, hjse⟩ : ∃ js, js = RX[I].1.jobs := ⟨_, rfl⟩
  have HJL := Lib.hid hjle
  have HJS := Lib.hid hjse
  rw [← hjle] at k2 hjl
  have HJM := Lib.hid (show Mid w2 0 3 1 (.slice ja jl jc) jl (js.map IV) by rw [hjle, hjse]; exact R.mid)
  have hbo : Below w2.heap.size w2 ((w2.alloc (.cells #[.int .i64 job] 3)).drew) := ((Below.refl _ _).alloc (Nat.le_refl _) _).drew
  have hkb : ∀ w4, ((w2.alloc (.cells #[.int .i64 job] 3)).drew).grownBy w4 (Value.slice ja jl jc).ownBlock → ∀ x, x < w2.heap.size → (x = qb ∨ x = b) → w4.heap[x]? = w2.heap[x]? := fun w4 hg x hx hxe => by
    refine (hg.block x (by simp; omega) fun e => ?_).trans (hbo.block x hx)
    have := R.apart x (by rw [← hjle]; exact e.symm)
    omega
  have HK0 := Lib.hid (fun w4 hg => (World.cell?_of_block (a := ⟨qb, 0, none⟩) (hkb w4 hg qb R.lt.1 (.inl rfl))).trans R.c0)
  have HK1 := Lib.hid (fun w4 hg => (World.cell?_of_block (a := ⟨b, of + I * 4 + 2, none⟩) (hkb w4 hg b R.lt.2.1 (.inr rfl))).trans k2)
  have HK2 := Lib.hid (fun w4 hg => (World.frozen?_of_block (a := ⟨b, of + I * 4 + 2, none⟩) (hkb w4 hg b R.lt.2.1 (.inr rfl))).trans (R.frozen _))
  have i0 : (0 : Int) ≤ (I : Int) := by omega
  have i1 : (I : Int) < (RX.length : Int) := by omega
  have a0 : (w2.alloc (.cells #[.int .i64 job] 3)).cell? ⟨qb, 0, none⟩ = some (.slice (some ⟨b, of, none⟩) RX.length rc) := (World.cell?_alloc_lt _ _ ⟨qb, 0, none⟩ R.lt.1).trans c0
  have a2 : (w2.alloc (.cells #[.int .i64 job] 3)).cell? ⟨b, of + I * 4 + 2, none⟩ = some (.slice ja jl jc) := (World.cell?_alloc_lt _ _ ⟨b, of + I * 4 + 2, none⟩ R.lt.2.1).trans k2
  have f2 := R.frozen (of + I * 4 + 2)
  clear hq2 R hjle hjse hbo hkb
  have HMJ := Lib.hid (show Mid ((w2.alloc (.cells #[.int .i64 job] 3)).drew) 0 3 1 (.slice ja jl jc) jl (js.map IV) from (HJM.out.alloc _).drew)
  have HSJ := Lib.hid (show Src Tryd.prog 1 50 (.slice (some ⟨w2.heap.size, 0, none⟩) 1 1) 1 [.int .i64 job] ((w2.alloc (.cells #[.int .i64 job] 3)).drew) from (show Sl ((w2.alloc (.cells #[.int .i64 job] 3)).drew) 1 _ 1 _ from Sl.lit w2 3 1 1 [.int .i64 job] (by unfold maxLen; omega) rfl).src (P := Tryd.prog) Tryd.underlying50 (fun u hu => by rw [List.mem_singleton.1 hu]; rfl))
  go_wp2_with fail
  go_region_law ((refine step_append_mid (v := .slice ja jl jc) (by rfl) _ _ 50 50 (by rfl) ti (.int .i64 0) 8 Tryd.underlying50 hi hz0 hz1 hz2 rfl (by rfl) HMJ.out _ (by rfl) 1 _ HSJ.out (by unfold maxLen; omega) (by omega) (Nat.zero_le _) ?_; intro a4 c4 w4 hmo hgo hbo; have q4 := HK0.out w4 hgo; have q5 := HK1.out w4 hgo; have q6 := HK2.out w4 hgo; have HMO := Lib.hid hmo; have HGO := Lib.hid hgo; have HBO := Lib.hid hbo; clear hmo hgo hbo))
  all_goals
    go_end0
    refine ⟨⟨_, rfl⟩, RX.set I (⟨RX[I].1.t, RX[I].1.s, RX[I].1.jobs ++ [job], RX[I].1.busy⟩, .slice a4 (jl + 1) c4), ?_, HQA.out.trans fun F1 hq => put_tail_world hq I hh job HJL.out (by rw [HR.out.val hh, HJL.out]) HR.out.c0 (by rw [← HJS.out]; exact HMO.out) HGO.out (by simpa using HBO.out)⟩
    rw [HPUT.out]
    simp only [rowsOf, List.map_set]

set_option maxRecDepth 100000 in
set_option maxHeartbeats 8000000 in
theorem put_none (qb : Nat) (F : Nat → Prop) (RS : List (Rw × Value)) (ws : List (Int × Int)) (bs : List Bool) (t s job : Int) (w : World) (h : QS w qb F RS ws bs) (hh0 : ¬ atR RS t s < RS.length) (hn : RS.length ≤ 4398046511104) :
    Calls Tryd.prog 10 #[.pointer (some ⟨qb, 0, none⟩), .agg #[.int .i64 t, .int .i64 s], .int .i64 job] w fun e w' => (∃ v, e = .returned v) ∧ QB w qb F (putS (rowsOf RS) t s job) ws bs w' := by
  have hb0 : Below w.heap.size w (w.alloc (.cells #[.int .i64 t, .int .i64 s] 29)) := (Below.refl _ _).alloc (Nat.le_refl _) _
  have HA := Lib.hid (at_any qb F RS ws bs t s _ (h.below hb0))
  have HQ := Lib.hid (h.below hb0)
  have HV := Lib.hid (show atV RS t s = -1 by unfold atV; rw [if_neg hh0])
  have HH := Lib.hid h
  have HB0 := Lib.hid hb0
  obtain ⟨ti, hi, hz0, hz1, hz2⟩ := info_parts Tryd.infoI
  obtain ⟨tj, hi', hy0, hy1, hy2⟩ := info_parts Tryd.infoR
  have HPUT0 := Lib.hid (show putS (rowsOf RS) t s job = rowsOf RS ++ [⟨t, s, [job], false⟩] by unfold putS; rw [dif_neg (by rw [atS_of]; simpa [rowsOf] using hh0)])
  clear h hb0 hh0
  go_enter Tryd.func10, Tryd.ntmps10
  go_wp2_with fail
  refine HA.out.mono ?_
  rintro e w2 ⟨rfl, hb2⟩
  rw [HV.out]
  have hq2 := HQ.out.below hb2
  have HQA0 := Lib.hid (QA.of_below HH.out (HB0.out.trans (hb2.mono HB0.out.size)))
  have b0 : w2.cell? ⟨w.heap.size, 0, none⟩ = some (.int .i64 t) := (hb2.cell (p := ⟨w.heap.size, 0, none⟩) (by simp)).trans (by simp)
  have b1 : w2.cell? ⟨w.heap.size, 1, none⟩ = some (.int .i64 s) := (hb2.cell (p := ⟨w.heap.size, 1, none⟩) (by simp)).trans (by simp)
  have hwlt : w.heap.size < w2.heap.size := by have := hb2.size; simp at this; omega
  clear hb2
  obtain ⟨ra, wa, ba, rc, wc, bc, hq, ho, h3, h4, h5⟩ := id hq2
  have c0 := cell_of_block (j := 0) hq rfl
  have f0 := free_of_block (j := 0) hq
  have hqlt := lt_of_block hq
  have hm0 : Mid w2 0 67 4 (.slice ra RS.length rc) RS.length (RS.flatMap rowCells) := ho.1 ⟨.slice ra RS.length rc, 67, 4, RS.length, RS.flatMap rowCells⟩ (List.mem_of_getElem? (i := 0) rfl)
  have hfo : ∀ k, (Value.slice ra RS.length rc).ownBlock = some k → F k ∧ k ≠ qb := fun k hk => h4 k ⟨⟨.slice ra RS.length rc, 67, 4, RS.length, RS.flatMap rowCells⟩, List.mem_of_getElem? (i := 0) rfl, hk⟩
  have hxF : ∀ k, F k → k ≠ w.heap.size := by
    obtain ⟨_, _, _, _, _, _, _, _, _, _, h5'⟩ := HH.out
    intro k hk e
    have := h5' k hk; omega
  have HM0 := Lib.hid (show Mid ((w2.alloc (.cells #[.int .i64 t, .int .i64 s, .slice none 0 0, .bool false] 67)).drew) 0 67 4 (.slice ra RS.length rc) RS.length (RS.flatMap rowCells) from (hm0.alloc _).drew)
  have HS0 := Lib.hid (show Src Tryd.prog 4 63 (.slice (some ⟨w2.heap.size, 0, none⟩) 1 1) 1 [.int .i64 t, .int .i64 s, .slice none 0 0, .bool false] ((w2.alloc (.cells #[.int .i64 t, .int .i64 s, .slice none 0 0, .bool false] 67)).drew) from (show Sl ((w2.alloc (.cells #[.int .i64 t, .int .i64 s, .slice none 0 0, .bool false] 67)).drew) 4 _ 1 _ from Sl.lit w2 67 4 1 [.int .i64 t, .int .i64 s, .slice none 0 0, .bool false] (by unfold maxLen; omega) rfl).src (P := Tryd.prog) Tryd.underlying63 (fun u hu => by
    simp only [List.mem_cons, List.not_mem_nil, or_false] at hu
    rcases hu with rfl | rfl | rfl | rfl <;> rfl))
  have hbo : Below w2.heap.size w2 ((w2.alloc (.cells #[.int .i64 t, .int .i64 s, .slice none 0 0, .bool false] 67)).drew) := ((Below.refl _ _).alloc (Nat.le_refl _) _).drew
  have hkb : ∀ w4, ((w2.alloc (.cells #[.int .i64 t, .int .i64 s, .slice none 0 0, .bool false] 67)).drew).grownBy w4 (Value.slice ra RS.length rc).ownBlock → ∀ x, x < w2.heap.size → (x = qb ∨ x = w.heap.size) → w4.heap[x]? = w2.heap[x]? := fun w4 hg x hx hxe => by
    refine (hg.block x (by simp; omega) fun e => ?_).trans (hbo.block x hx)
    have k1 := hfo x e.symm
    have k2 := hxF x k1.1
    omega
  have HK0 := Lib.hid (fun w4 hg => (World.cell?_of_block (a := ⟨qb, 0, none⟩) (hkb w4 hg qb hqlt (.inl rfl))).trans c0)
  have HK1 := Lib.hid (fun w4 hg => (World.frozen?_of_block (a := ⟨qb, 0, none⟩) (hkb w4 hg qb hqlt (.inl rfl))).trans f0)
  have HK2 := Lib.hid (fun w4 hg => (World.cell?_of_block (a := ⟨w.heap.size, 0, none⟩) (hkb w4 hg w.heap.size hwlt (.inr rfl))).trans b0)
  have HK3 := Lib.hid (fun w4 hg => (World.cell?_of_block (a := ⟨w.heap.size, 1, none⟩) (hkb w4 hg w.heap.size hwlt (.inr rfl))).trans b1)
  have a0 : (w2.alloc (.cells #[.int .i64 t, .int .i64 s, .slice none 0 0, .bool false] 67)).cell? ⟨qb, 0, none⟩ = some (.slice ra RS.length rc) := (World.cell?_alloc_lt _ _ ⟨qb, 0, none⟩ hqlt).trans c0
  have a1 : (w2.alloc (.cells #[.int .i64 t, .int .i64 s, .slice none 0 0, .bool false] 67)).cell? ⟨w.heap.size, 0, none⟩ = some (.int .i64 t) := (World.cell?_alloc_lt _ _ ⟨w.heap.size, 0, none⟩ hwlt).trans b0
  have a2 : (w2.alloc (.cells #[.int .i64 t, .int .i64 s, .slice none 0 0, .bool false] 67)).cell? ⟨w.heap.size, 1, none⟩ = some (.int .i64 s) := (World.cell?_alloc_lt _ _ ⟨w.heap.size, 1, none⟩ hwlt).trans b1
  have HQ2 := Lib.hid hq2
  have HC0 := Lib.hid c0
  clear hq ho h3 h4 h5 hm0 hfo hxF hbo hkb hq2
  go_upto_region 3 with fail
  go_cut [] (fun wx => QA w qb F (RS ++ [(⟨t, s, [], false⟩, .slice none 0 0)]) ws bs wx)
  case first =>
    go_region_law ((refine step_append_mid (v := .slice ra RS.length rc) (by rfl) _ _ 63 63 (by rfl) tj (.agg #[.int .i64 0, .int .i64 0, .slice none 0 0, .bool false]) 48 Tryd.underlying63 hi' hy0 hy1 hy2 rfl (by rfl) HM0.out _ (by rfl) 1 _ HS0.out (by unfold maxLen; omega) (by omega) (Nat.zero_le _) ?_; intro a4 c4 w4 hmo hgo hbo; have q4 := HK0.out w4 hgo; have q5 := HK1.out w4 hgo; have q6 := HK2.out w4 hgo; have q7 := HK3.out w4 hgo; have HMO := Lib.hid hmo; have HGO := Lib.hid hgo; have HBO := Lib.hid hbo; clear hmo hgo hbo))
    all_goals
      go_wp2_with fail
      go_meet
      refine HQA0.out.trans fun F1 hq => ?_
      have hlen : (RS ++ [((⟨t, s, [], false⟩ : Rw), Value.slice none 0 0)]).length = RS.length + 1 := by simp
      have := QS.rows (w4 := w4) (RS' := RS ++ [(⟨t, s, [], false⟩, .slice none 0 0)]) (a' := a4) (c' := c4) hq HC0.out (fun p hp => ?_) ?_ ?_ ?_ ?_
      · rw [hlen] at this; exact this
      · rcases List.mem_append.1 hp with hp | hp
        · exact .inl hp
        · rw [List.mem_singleton.1 hp]; exact .inr ⟨rfl, rfl⟩
      · obtain ⟨_, _, _, _, _, _, _, ho, _⟩ := hq
        have hp := ho.2
        simp only [qPs, List.pairwise_cons] at hp
        refine List.pairwise_append.2 ⟨List.pairwise_map.1 hp.2.2.2, List.pairwise_singleton _ _, fun x _ y hy k _ h => ?_⟩
        rw [List.mem_singleton.1 hy] at h
        cases h
      · exact (((Keeps.alloc w2 _ (fun k => (Value.slice ra RS.length rc).ownBlock = some k)).trans (Keeps.drew _ (fun _ => False)) fun _ _ h => h.elim).trans (Keeps.of_grown HGO.out (S := fun k => (Value.slice ra RS.length rc).ownBlock = some k) fun b h => h) fun _ _ h => h)
      · rw [hlen, List.flatMap_append]; exact HMO.out
      · intro k hk
        rw [hlen] at hk
        rcases HBO.out with e | e
        · rw [e] at hk; exact .inl hk
        · rw [e] at hk; cases hk; right; simp
  case rest =>
    obtain ⟨w9, rfl⟩ : ∃ w9 : World, w9 = w2 := ⟨_, rfl⟩
    obtain ⟨w2, rfl⟩ : ∃ w2 : World, w2 = wc := ⟨_, rfl⟩
    have HQA := Lib.hid hcut
    obtain ⟨F2, hq2, _, _⟩ := hcut
    obtain ⟨RX, hRX⟩ : ∃ RX, RX = RS ++ [((⟨t, s, [], false⟩ : Rw), Value.slice none 0 0)] := ⟨_, rfl⟩
    obtain ⟨I, hI⟩ : ∃ I, I = RS.length := ⟨_, rfl⟩
    have hXl : RX.length = RS.length + 1 := by rw [hRX]; simp
    have hh : I < RX.length := by omega
    have hXI : RX[I] = (⟨t, s, [], false⟩, .slice none 0 0) := by subst hRX hI; simp
    have hjl : RX[I].1.jobs.length ≤ 0 := by rw [hXI]; simp
    have hput : putS (rowsOf RS) t s job = rowsOf (RX.set I (⟨RX[I].1.t, RX[I].1.s, RX[I].1.jobs ++ [job], RX[I].1.busy⟩, .slice none 0 0)) := by
      rw [HPUT0.out, hXI]
      subst hRX hI
      simp [rowsOf]
    have HPUT := Lib.hid hput
    rw [← hRX] at hq2 HQA
    have HXL := Lib.hid hXl
    have hIb : I ≤ 4398046511104 := by omega
    have HIE := Lib.hid hI
    clear hput hXI hRX a0 a1 a2 b0 b1 c0 f0 HK0 HK1 HK2 HK3 hI hXl
    obtain ⟨b, of, rc, ja, jc, R⟩ := hq2.row I hh
    have HQ2 := Lib.hid hq2
    have HR := Lib.hid R
    have hln : RX.length ≤ 9223372036854775807 := by
      obtain ⟨ra, wa, ba, rc, wc, bc, r⟩ := hq2.read
      exact r.rows.lenI.1
    have c0 := R.c0
    have k2 := R.k2
    obtain ⟨jl, hjle⟩ : ∃ jl, jl = RX[I].1.jobs.length := ⟨_, rfl⟩
    obtain ⟨js, hjse⟩ : ∃ js, js = RX[I].1.jobs := ⟨_, rfl⟩
    have HJL := Lib.hid hjle
    have HJS := Lib.hid hjse
    rw [← hjle] at k2 hjl
    have HJM := Lib.hid (show Mid w2 0 3 1 (.slice ja jl jc) jl (js.map IV) by rw [hjle, hjse]; exact R.mid)
    have hbo : Below w2.heap.size w2 ((w2.alloc (.cells #[.int .i64 job] 3)).drew) := ((Below.refl _ _).alloc (Nat.le_refl _) _).drew
    have hkb : ∀ w4, ((w2.alloc (.cells #[.int .i64 job] 3)).drew).grownBy w4 (Value.slice ja jl jc).ownBlock → ∀ x, x < w2.heap.size → (x = qb ∨ x = b) → w4.heap[x]? = w2.heap[x]? := fun w4 hg x hx hxe => by
      refine (hg.block x (by simp; omega) fun e => ?_).trans (hbo.block x hx)
      have := R.apart x (by rw [← hjle]; exact e.symm)
      omega
    have HK0 := Lib.hid (fun w4 hg => (World.cell?_of_block (a := ⟨qb, 0, none⟩) (hkb w4 hg qb R.lt.1 (.inl rfl))).trans R.c0)
    have HK1 := Lib.hid (fun w4 hg => (World.cell?_of_block (a := ⟨b, of + I * 4 + 2, none⟩) (hkb w4 hg b R.lt.2.1 (.inr rfl))).trans k2)
    have HK2 := Lib.hid (fun w4 hg => (World.frozen?_of_block (a := ⟨b, of + I * 4 + 2, none⟩) (hkb w4 hg b R.lt.2.1 (.inr rfl))).trans (R.frozen _))
    have i0 : (0 : Int) ≤ (I : Int) := by omega
    have i1 : (I : Int) < (RX.length : Int) := by omega
    have a0 : (w2.alloc (.cells #[.int .i64 job] 3)).cell? ⟨qb, 0, none⟩ = some (.slice (some ⟨b, of, none⟩) RX.length rc) := (World.cell?_alloc_lt _ _ ⟨qb, 0, none⟩ R.lt.1).trans c0
    have a2 : (w2.alloc (.cells #[.int .i64 job] 3)).cell? ⟨b, of + I * 4 + 2, none⟩ = some (.slice ja jl jc) := (World.cell?_alloc_lt _ _ ⟨b, of + I * 4 + 2, none⟩ R.lt.2.1).trans k2
    have f2 := R.frozen (of + I * 4 + 2)
    clear hq2 R hjle hjse hbo hkb
    have HMJ := Lib.hid (show Mid ((w2.alloc (.cells #[.int .i64 job] 3)).drew) 0 3 1 (.slice ja jl jc) jl (js.map IV) from (HJM.out.alloc _).drew)
    have HSJ := Lib.hid (show Src Tryd.prog 1 50 (.slice (some ⟨w2.heap.size, 0, none⟩) 1 1) 1 [.int .i64 job] ((w2.alloc (.cells #[.int .i64 job] 3)).drew) from (show Sl ((w2.alloc (.cells #[.int .i64 job] 3)).drew) 1 _ 1 _ from Sl.lit w2 3 1 1 [.int .i64 job] (by unfold maxLen; omega) rfl).src (P := Tryd.prog) Tryd.underlying50 (fun u hu => by rw [List.mem_singleton.1 hu]; rfl))
    go_upto_region 5 with fail
    rw [show ((RX.length : Int) - 1) = (I : Int) by have := HXL.out; have := HIE.out; omega]
    go_region_law ((refine step_append_mid (v := .slice ja jl jc) (by rfl) _ _ 50 50 (by rfl) ti (.int .i64 0) 8 Tryd.underlying50 hi hz0 hz1 hz2 rfl (by rfl) HMJ.out _ (by rfl) 1 _ HSJ.out (by unfold maxLen; omega) (by omega) (Nat.zero_le _) ?_; intro a4 c4 w4 hmo hgo hbo; have q4 := HK0.out w4 hgo; have q5 := HK1.out w4 hgo; have q6 := HK2.out w4 hgo; have HMO := Lib.hid hmo; have HGO := Lib.hid hgo; have HBO := Lib.hid hbo; clear hmo hgo hbo))
    all_goals
      go_end0
      refine ⟨⟨_, rfl⟩, RX.set I (⟨RX[I].1.t, RX[I].1.s, RX[I].1.jobs ++ [job], RX[I].1.busy⟩, .slice a4 (jl + 1) c4), ?_, HQA.out.trans fun F1 hq => put_tail_world hq I hh job HJL.out (by rw [HR.out.val hh, HJL.out]) HR.out.c0 (by rw [← HJS.out]; exact HMO.out) HGO.out (by simpa using HBO.out)⟩
      rw [HPUT.out]
      simp only [rowsOf, List.map_set]

theorem put_any (qb : Nat) (F : Nat → Prop) (RS : List (Rw × Value)) (ws : List (Int × Int)) (bs : List Bool) (t s job : Int) (w : World) (h : QS w qb F RS ws bs) (hn : allN RS ≤ 7036874417560) (hl : RS.length ≤ 4398046511104) :
    Calls Tryd.prog 10 #[.pointer (some ⟨qb, 0, none⟩), .agg #[.int .i64 t, .int .i64 s], .int .i64 job] w fun e w' => (∃ v, e = .returned v) ∧ QB w qb F (putS (rowsOf RS) t s job) ws bs w' := by
  by_cases hh : atR RS t s < RS.length
  · exact put_hit qb F RS ws bs t s job w h hh hn
  · exact put_none qb F RS ws bs t s job w h hh hl
end Go.Proofs.YtkbopcgijaejjaaDoor
