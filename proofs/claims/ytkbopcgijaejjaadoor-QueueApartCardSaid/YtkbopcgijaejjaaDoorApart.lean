/-
  in of actuarylaw30 by contract, and the walk of QueueApart: it answers true; the conditions: what errors.errorType holds; how long the script is.
  Printed by a program of this repository (wip/qu22.py).
-/
import Derived.Test.YtkbopcgijaejjaaDoorQDo
import Derived.Test.YtkbopcgijaejjaaDoorEnds
import Derived.Test.YtkbopcgijaejjaaDoorJobs
import Derived.Deep.RegionHeld3
namespace Go.Proofs.YtkbopcgijaejjaaDoor
open Go.RowKit Go.Extern.Stop Go.Stop Go.Extern
set_option maxRecDepth 100000 in
set_option maxHeartbeats 4000000 in
theorem in_any (a : Option Addr) (c : Nat) (l : List (Int × Int)) (t s : Int) (w : World) (hl : Sl w 2 (.slice a l.length c) l.length (l.flatMap kyCells)) :
    Calls Tryd.prog 16 #[.slice a l.length c, .agg #[.int .i64 t, .int .i64 s]] w fun e w' => e = .returned (.bool (decide ((t, s) ∈ l))) ∧ Below w.heap.size w w' := by
  have hln := hl.lenI
  have HL := Lib.hid hl
  have HB0 := Lib.hid (show Below w.heap.size w (w.alloc (.cells #[.int .i64 t, .int .i64 s] 29)) from (Below.refl _ _).alloc (Nat.le_refl _) _)
  obtain ⟨R, hR⟩ : ∃ R, R = decide ((t, s) ∈ l) := ⟨_, rfl⟩
  rw [← hR]
  have HR := Lib.hid hR
  clear hl hR
  go_enter Tryd.func16, Tryd.ntmps16
  go_wp2
  go_loopw [5] (fun iv wr => ∃ k : Nat, k ≤ l.length ∧ iv = .int .i64 k ∧ (∀ (j : Nat) (hj : j < l.length), j < k → l[j] ≠ (t, s)) ∧ Below (w.alloc (.cells #[.int .i64 t, .int .i64 s] 29)).heap.size (w.alloc (.cells #[.int .i64 t, .int .i64 s] 29)) wr) (fun iv _ => l.length - (intOf iv).toNat)
  case atStart => exact ⟨0, Nat.zero_le _, rfl, fun j _ h => by omega, Below.refl _ _⟩
  case round =>
    obtain ⟨k, hk, rfl, hno, hb⟩ := hrel
    have x0 : wr.cell? ⟨w.heap.size, 0, none⟩ = some (.int .i64 t) := (hb.cell (p := ⟨w.heap.size, 0, none⟩) (by simp)).trans (by simp)
    have x1 : wr.cell? ⟨w.heap.size, 1, none⟩ = some (.int .i64 s) := (hb.cell (p := ⟨w.heap.size, 1, none⟩) (by simp)).trans (by simp)
    have HB := Lib.hid hb
    have HNO := Lib.hid hno
    by_cases hlt : k < l.length
    · obtain ⟨b, o, rfl, _, k0, k1⟩ := key_get (HL.out.below (HB0.out.trans (hb.mono HB0.out.size))) k hlt
      have i0 : (0 : Int) ≤ (k : Int) := by omega
      have i1 : (k : Int) < (l.length : Int) := by omega
      clear hb hno
      by_cases hkey : l[k] = (t, s)
      · have hv : R = true := by rw [HR.out]; exact decide_eq_true (hkey ▸ List.getElem_mem hlt)
        rw [hkey] at k0 k1
        simp only at k0 k1
        have HV := Lib.hid hv
        have b1 : (t == t) = true := by simp
        have b2 : (s == s) = true := by simp
        clear hkey hv
        go_wp2_with fail
        go_quiet (fail)
        go_wp2
        go_ret
        exact ⟨by rw [HV.out]; rfl, HB0.out.trans ((Below.dr HB.out).mono HB0.out.size)⟩
      · have HNO2 := Lib.hid (show ∀ (j : Nat) (hj : j < l.length), j < k + 1 → l[j] ≠ (t, s) from fun j hj hjk => by
          rcases Nat.lt_or_ge j k with h | h
          · exact HNO.out j hj h
          · have : j = k := by omega
            subst this; exact hkey)
        have hkey' : l[k].1 ≠ t ∨ (l[k].1 = t ∧ l[k].2 ≠ s) := by
          by_cases h1 : l[k].1 = t
          · exact .inr ⟨h1, fun h2 => hkey (Prod.ext h1 h2)⟩
          · exact .inl h1
        clear hkey
        generalize l[k].1 = t' at *
        generalize l[k].2 = s' at *
        rcases hkey' with ht | ⟨ht, hs⟩
        · have b1 : (t' == t) = false := beq_eq_false_iff_ne.2 ht
          clear ht
          go_wp2_with fail
          go_quiet (fail)
          go_wp2
          go_roundw
          case rel => exact ⟨k + 1, by omega, by go_num, HNO2.out, Below.dr HB.out⟩
          case measure => simp [intOf]; omega
        · have b1 : (s' == s) = false := beq_eq_false_iff_ne.2 hs
          have b2 : (t' == t) = true := by rw [ht]; simp
          clear ht hs
          go_wp2_with fail
          go_quiet (fail)
          go_wp2
          go_roundw
          case rel => exact ⟨k + 1, by omega, by go_num, HNO2.out, Below.dr HB.out⟩
          case measure => simp [intOf]; omega
    · have hv : R = false := by
        rw [HR.out]
        refine decide_eq_false fun h => ?_
        obtain ⟨j, hj, e⟩ := List.mem_iff_getElem.1 h
        exact hno j hj (by omega) e
      have HV := Lib.hid hv
      have hge : (l.length : Int) ≤ (k : Int) := by omega
      clear hb hno hv
      go_wp2
      go_ret
      exact ⟨by rw [HV.out]; rfl, HB0.out.trans (HB.out.mono HB0.out.size)⟩
def ApRel (w : World) (qb mb : Nat) (X : List (Nat × Obj)) (n : Nat) (iv : Value) (wr : World) : Prop :=
  ∃ (k : Nat) (rows : List Rw) (ws : List (Int × Int)) (bs : List Bool), k ≤ n ∧ iv = .int .i64 k ∧ StC w qb mb X rows ws bs rows ws bs wr ∧ allR rows ≤ k
theorem lenS_jobs (rows : List Rw) (t s : Int) : lenS rows t s = (jobsK rows (t, s)).length := by
  unfold lenS jobsK
  by_cases h : atS rows t s < rows.length
  · rw [dif_pos h, dif_pos h]
  · rw [dif_neg h, dif_neg h]; rfl
theorem ready_mem {rows : List Rw} {k : Int × Int} : k ∈ readyS rows ↔ ∃ r ∈ rows, keyOf r = k ∧ r.busy = false := by
  unfold readyS
  rw [List.mem_map]
  constructor
  · rintro ⟨r, hr, e⟩
    obtain ⟨h1, h2⟩ := List.mem_filter.1 hr
    exact ⟨r, h1, e, by simpa using h2⟩
  · rintro ⟨r, h1, e, h2⟩
    exact ⟨r, List.mem_filter.2 ⟨h1, by simpa using h2⟩, e⟩
theorem put_other {rows : List Rw} {ws : List (Int × Int)} {bs : List Bool} (h : Inv rows ws bs) (t s job : Int) (k : Int × Int) (hk : k ≠ (t, s)) (r : Rw) (hr : keyOf r = k) : r ∈ putS rows t s job ↔ r ∈ rows := by
  unfold putS
  by_cases hh : atS rows t s < rows.length
  · rw [dif_pos hh, mem_setR h.keys hh]
    constructor
    · rintro (rfl | h2)
      · exact absurd hr.symm hk
      · exact h2.1
    · exact fun h2 => .inr ⟨h2, by rw [hr, atS_hit hh]; exact hk⟩
  · rw [dif_neg hh, List.mem_append, List.mem_singleton]
    constructor
    · rintro (h2 | rfl)
      · exact h2
      · exact absurd hr.symm hk
    · exact .inl
theorem put_apart {rows : List Rw} {ws : List (Int × Int)} {bs : List Bool} (h : Inv rows ws bs) (t s job t2 s2 : Int) (hk : (t2, s2) ≠ (t, s)) : decide ((t2, s2) ∈ readyS (putS rows t s job)) = decide ((t2, s2) ∈ readyS rows) ∧ lenS (putS rows t s job) t2 s2 = lenS rows t2 s2 ∧ lenS (putS rows t s job) t s = lenS rows t s + 1 := by
  refine ⟨?_, ?_, ?_⟩
  · have : (t2, s2) ∈ readyS (putS rows t s job) ↔ (t2, s2) ∈ readyS rows := by
      rw [ready_mem, ready_mem]
      constructor
      · rintro ⟨r, h1, e, h2⟩; exact ⟨r, (put_other h t s job _ hk r e).1 h1, e, h2⟩
      · rintro ⟨r, h1, e, h2⟩; exact ⟨r, (put_other h t s job _ hk r e).2 h1, e, h2⟩
    exact decide_eq_decide.2 this
  · rw [lenS_jobs, lenS_jobs, jobs_put h, if_neg hk]
  · rw [lenS_jobs, lenS_jobs, jobs_put h, if_pos rfl, List.length_append]; rfl
theorem lenS_le {rows : List Rw} (t s : Int) : lenS rows t s ≤ allR rows := by
  unfold lenS
  split
  · rename_i h
    exact le_sum _ _ (List.mem_map.2 ⟨_, List.getElem_mem h, rfl⟩)
  · omega
section
variable {w0 w : World} {qb : Nat} {X : List (Nat × Obj)} {rows : List Rw} {ws : List (Int × Int)} {bs : List Bool}
theorem ready_sl (h : StQ w0 qb X rows ws bs w) (hl : allR rows ≤ 4398046511104) :
    Calls Tryd.prog 17 #[.pointer (some ⟨qb, 0, none⟩)] w fun e w' => ∃ a c, e = .returned (.slice a (readyS rows).length c) ∧ (∀ W, Below w'.heap.size w' W → Sl W 2 (.slice a (readyS rows).length c) (readyS rows).length ((readyS rows).flatMap kyCells)) ∧ StQ w0 qb X rows ws bs w' := by
  refine (ready_st h hl).mono ?_
  rintro e w' ⟨⟨a, c, rfl, hm, _⟩, hs⟩
  exact ⟨a, c, rfl, fun W hb => (Sl.ofMid hm).below hb, hs⟩
theorem len_bl (h : StQ w0 qb X rows ws bs w) (t s : Int) :
    Calls Tryd.prog 18 #[.pointer (some ⟨qb, 0, none⟩), .agg #[.int .i64 t, .int .i64 s]] w fun e w' => e = .returned (.int .i64 (lenS rows t s)) ∧ Below w.heap.size w w' ∧ StQ w0 qb X rows ws bs w' := by
  obtain ⟨F, h1, h2, _⟩ := id h
  exact (len_q h1 t s).mono fun e w' ⟨he, hb⟩ => ⟨he, hb, h.below hb⟩
end


set_option maxRecDepth 100000 in
set_option maxHeartbeats 8000000 in
theorem queueApart_slices (n : Int) (a1 : Option Addr) (c1 : Nat) (xs : List Ac) (t1 s1 t2 s2 job : Int) (w : World) (hg : Hg w) (h0 : 0 ≤ n) (h1 : n ≤ 255) (hx : Acts w (.slice a1 xs.length c1) xs) (hsz : xs.length * 48 ≤ 140737488351232) :
    Calls Tryd.prog 4 #[.int .u8 n, .slice a1 xs.length c1, .agg #[.int .i64 t1, .int .i64 s1], .agg #[.int .i64 t2, .int .i64 s2], .int .i64 job] w (Yes w) := by
  obtain ⟨WW, hWW⟩ : ∃ WW, WW = (w.alloc (.cells #[.int .i64 t1, .int .i64 s1] 29)).alloc (.cells #[.int .i64 t2, .int .i64 s2] 29) := ⟨_, rfl⟩
  have hbw : Below w.heap.size w WW := by rw [hWW]; exact ((Below.refl _ _).alloc (Nat.le_refl _) _).alloc (by simp) _
  have hgw : Hg WW := hg.below hbw hg.lt
  have y1 : WW.heap[w.heap.size]? = some (.cells #[.int .i64 t1, .int .i64 s1] 29) := by rw [hWW]; exact heap_alloc2_old w _ _
  have y2 : WW.heap[w.heap.size + 1]? = some (.cells #[.int .i64 t2, .int .i64 s2] 29) := by rw [hWW]; exact heap_alloc2_new w _ _
  have hWl : w.heap.size + 1 < WW.heap.size := lt_of_block y2
  have HAW := Lib.hid (awake_any WW hgw)
  have HX := Lib.hid hx
  have HG := Lib.hid hgw
  have HBW := Lib.hid hbw
  have HN0 := Lib.hid h0
  have HN1 := Lib.hid h1
  have HWW := Lib.hid hWW
  have hlen := hx.1.lenI
  have Y1 := Lib.hid y1
  have Y2 := Lib.hid y2
  clear hx hg hgw hbw h0 h1 y1 y2
  go_enter Tryd.func4, Tryd.ntmps4
  go_wp2_with fail
  rw [← HWW.out]
  refine HAW.out.mono ?_
  rintro e w1 ⟨rfl, hb1⟩
  have HB1 := Lib.hid hb1
  clear hb1 hWW
  go_wp2_with fail
  refine (both_any n w1 HN0.out HN1.out).mono ?_
  rintro e w2 ⟨qb, mb, F, G, rfl, hq, hm, hF, hG, hb2⟩
  have hs0 := StC.new (w0 := WW) HB1.out hq hm hF hG hb2
  have hb12 := HB1.out.trans (hb2.mono HB1.out.size)
  have hs1 : StC WW qb mb [(w.heap.size + 1, .cells #[.int .i64 t2, .int .i64 s2] 29), (w.heap.size, .cells #[.int .i64 t1, .int .i64 s1] 29)] [] (List.replicate (nW n) (0, 0)) (List.replicate (nW n) false) [] (List.replicate (nW n) (0, 0)) (List.replicate (nW n) false) w2 := by
    obtain ⟨F', G', g1, g2, g3, g4, g5, g6, g7, _⟩ := hs0
    refine ⟨F', G', g1, g2, g3, g4, g5, g6, g7, fun x hx => ?_⟩
    simp only [List.mem_cons, List.not_mem_nil, or_false] at hx
    rcases hx with rfl | rfl
    · exact ⟨fun h => by have := g5 _ h; simp only at this; omega, fun h => by have := (g6 _ h).1; simp only at this; omega, (g7.block _ hWl).trans Y2.out⟩
    · exact ⟨fun h => by have := g5 _ h; simp only at this; omega, fun h => by have := (g6 _ h).1; simp only at this; omega, (g7.block _ (by omega)).trans Y1.out⟩
  have HS0 := Lib.hid hs1
  have z0 : w2.cell? ⟨w.heap.size, 0, none⟩ = some (.int .i64 t1) := cell_of_block (hs1.at (b := w.heap.size) (List.mem_of_getElem? (i := 1) rfl)) rfl
  have z1 : w2.cell? ⟨w.heap.size, 1, none⟩ = some (.int .i64 s1) := cell_of_block (hs1.at (b := w.heap.size) (List.mem_of_getElem? (i := 1) rfl)) rfl
  have z2 : w2.cell? ⟨w.heap.size + 1, 0, none⟩ = some (.int .i64 t2) := cell_of_block (hs1.at (b := w.heap.size + 1) (List.mem_of_getElem? (i := 0) rfl)) rfl
  have z3 : w2.cell? ⟨w.heap.size + 1, 1, none⟩ = some (.int .i64 s2) := cell_of_block (hs1.at (b := w.heap.size + 1) (List.mem_of_getElem? (i := 0) rfl)) rfl
  clear hq hm hF hG hb2 hs0 hs1 hb12
  by_cases hkk : t1 = t2 ∧ s1 = s2
  · obtain ⟨rfl, rfl⟩ := hkk
    have b1 : (t1 == t1) = true := by simp
    have b2 : (s1 == s1) = true := by simp
    have HW2 := Lib.hid HS0.out.world
    go_wp2
    go_ret
    exact ⟨rfl, HBW.out.trans (HW2.out.mono HBW.out.size)⟩
  · have HNE := Lib.hid (show (t2, s2) ≠ (t1, s1) from fun e => hkk ⟨(congrArg Prod.fst e).symm, (congrArg Prod.snd e).symm⟩)
    have hcase : (t1 == t2) = false ∨ ((t1 == t2) = true ∧ (s1 == s2) = false) := by
      cases h1 : (t1 == t2) with
      | false => exact .inl rfl
      | true =>
        cases h2 : (s1 == s2) with
        | false => exact .inr ⟨rfl, rfl⟩
        | true => exact absurd ⟨by simpa using h1, by simpa using h2⟩ hkk
    clear hkk
    rcases hcase with b1 | ⟨b1, b2⟩
    · skip
      go_wp2_with fail
      clear z0 z1 z2 z3 b1
      go_loopw [13] (fun iv wr => ApRel WW qb mb [(w.heap.size + 1, .cells #[.int .i64 t2, .int .i64 s2] 29), (w.heap.size, .cells #[.int .i64 t1, .int .i64 s1] 29)] xs.length iv wr) (fun iv _ => xs.length - (intOf iv).toNat)
      case atStart => exact ⟨0, [], _, _, Nat.zero_le _, rfl, HS0.out, Nat.le_refl _⟩
      case round =>
        obtain ⟨k, rows, ws, bs, hk, rfl, hst, hal⟩ := hrel
        by_cases hlt : k < xs.length
        · obtain ⟨⟨b, o, rfl, k0, k1, k2, k3, k4, k5⟩, hok⟩ := HX.out.get (HBW.out.trans (hst.world.mono HBW.out.size)) k hlt
          have i0 : (0 : Int) ≤ (k : Int) := by omega
          have i1 : (k : Int) < (xs.length : Int) := by omega
          clear hok
          generalize xs[k] = X at *
          obtain ⟨d, t, s, j, u, p⟩ := X
          simp only at k0 k1 k2 k3 k4 k5
          have HDO := Lib.hid (does_any WW qb mb [(w.heap.size + 1, .cells #[.int .i64 t2, .int .i64 s2] 29), (w.heap.size, .cells #[.int .i64 t1, .int .i64 s1] 29)] rows ws bs d t s j u p wr HG.out hst (by omega))
          clear hst
          go_wp2_with fail
          refine HDO.out.mono ?_
          rintro e w3 ⟨rfl, rows', ws', bs', hs3, ha3, _⟩
          have HS3 := Lib.hid hs3
          clear hs3
          go_wp2
          go_roundw
          case rel => exact ⟨k + 1, rows', ws', bs', by omega, by go_num, HS3.out, by omega⟩
          case measure => simp [intOf]; omega
        · have hsq := hst.queue
          have hge : ¬ (k : Int) < (xs.length : Int) := by omega
          have HPA := Lib.hid (put_apart hst.inv.1 t1 s1 job t2 s2 HNE.out)
          have HSQ := Lib.hid hsq
          have hall : allR rows ≤ 4398046511104 := by omega
          have hle1 := lenS_le (rows := rows) t1 s1
          have hle2 := lenS_le (rows := rows) t2 s2
          obtain ⟨z, hz⟩ : ∃ z, z = decide ((t2, s2) ∈ readyS rows) := ⟨_, rfl⟩
          have HZ := Lib.hid hz
          have HKS := Lib.hid (show ∀ W, StQ WW qb [(w.heap.size + 1, .cells #[.int .i64 t2, .int .i64 s2] 29), (w.heap.size, .cells #[.int .i64 t1, .int .i64 s1] 29)] rows ws bs W → (W.cell? ⟨w.heap.size, 0, none⟩ = some (.int .i64 t1) ∧ W.cell? ⟨w.heap.size, 1, none⟩ = some (.int .i64 s1) ∧ W.cell? ⟨w.heap.size + 1, 0, none⟩ = some (.int .i64 t2) ∧ W.cell? ⟨w.heap.size + 1, 1, none⟩ = some (.int .i64 s2) ∧ StQ WW qb [(w.heap.size + 1, .cells #[.int .i64 t2, .int .i64 s2] 29), (w.heap.size, .cells #[.int .i64 t1, .int .i64 s1] 29)] rows ws bs W) from fun W hs =>
            ⟨cell_of_block (hs.at (b := w.heap.size) (List.mem_of_getElem? (i := 1) rfl)) rfl, cell_of_block (hs.at (b := w.heap.size) (List.mem_of_getElem? (i := 1) rfl)) rfl, cell_of_block (hs.at (b := w.heap.size + 1) (List.mem_of_getElem? (i := 0) rfl)) rfl, cell_of_block (hs.at (b := w.heap.size + 1) (List.mem_of_getElem? (i := 0) rfl)) rfl, hs⟩)
          have HRD := Lib.hid (show ∀ W, StQ WW qb [(w.heap.size + 1, .cells #[.int .i64 t2, .int .i64 s2] 29), (w.heap.size, .cells #[.int .i64 t1, .int .i64 s1] 29)] rows ws bs W → Calls Tryd.prog 17 #[.pointer (some ⟨qb, 0, none⟩)] W fun e w' => ∃ a c, e = .returned (.slice a (readyS rows).length c) ∧ (∀ W', Below w'.heap.size w' W' → Sl W' 2 (.slice a (readyS rows).length c) (readyS rows).length ((readyS rows).flatMap kyCells)) ∧ StQ WW qb [(w.heap.size + 1, .cells #[.int .i64 t2, .int .i64 s2] 29), (w.heap.size, .cells #[.int .i64 t1, .int .i64 s1] 29)] rows ws bs w' from fun W hs => ready_sl hs (by omega))
          have HIN := Lib.hid (show ∀ (a : Option Addr) (c : Nat) (W : World), Sl W 2 (.slice a (readyS rows).length c) (readyS rows).length ((readyS rows).flatMap kyCells) → StQ WW qb [(w.heap.size + 1, .cells #[.int .i64 t2, .int .i64 s2] 29), (w.heap.size, .cells #[.int .i64 t1, .int .i64 s1] 29)] rows ws bs W → Calls Tryd.prog 16 #[.slice a (readyS rows).length c, .agg #[.int .i64 t2, .int .i64 s2]] W fun e w' => e = .returned (.bool z) ∧ Below W.heap.size W w' ∧ StQ WW qb [(w.heap.size + 1, .cells #[.int .i64 t2, .int .i64 s2] 29), (w.heap.size, .cells #[.int .i64 t1, .int .i64 s1] 29)] rows ws bs w' from fun a c W hsl hs => (in_any a c _ t2 s2 W hsl).mono fun e w' ⟨he, hb⟩ => ⟨by rw [he, HZ.out], hb, hs.below hb⟩)
          have HLN := Lib.hid (show ∀ (W : World) (t s : Int), StQ WW qb [(w.heap.size + 1, .cells #[.int .i64 t2, .int .i64 s2] 29), (w.heap.size, .cells #[.int .i64 t1, .int .i64 s1] 29)] rows ws bs W → Calls Tryd.prog 18 #[.pointer (some ⟨qb, 0, none⟩), .agg #[.int .i64 t, .int .i64 s]] W fun e w' => e = .returned (.int .i64 (lenS rows t s)) ∧ Below W.heap.size W w' ∧ StQ WW qb [(w.heap.size + 1, .cells #[.int .i64 t2, .int .i64 s2] 29), (w.heap.size, .cells #[.int .i64 t1, .int .i64 s1] 29)] rows ws bs w' from fun W t s hs => len_bl hs t s)
          clear hst hz
          go_upto_region 10 with fail
          have hqd := hsq.below (Below.refl _ _).drew
          clear hsq
          go_cut [14, 15] (fun v14 v15 wx => v14 = .bool z ∧ v15 = .int .i64 (lenS rows t2 s2) ∧ StQ WW qb [(w.heap.size + 1, .cells #[.int .i64 t2, .int .i64 s2] 29), (w.heap.size, .cells #[.int .i64 t1, .int .i64 s1] 29)] rows ws bs wx)
          case first =>
            go_region_held3 (fun W => W.cell? ⟨w.heap.size, 0, none⟩ = some (.int .i64 t1) ∧ W.cell? ⟨w.heap.size, 1, none⟩ = some (.int .i64 s1) ∧ W.cell? ⟨w.heap.size + 1, 0, none⟩ = some (.int .i64 t2) ∧ W.cell? ⟨w.heap.size + 1, 1, none⟩ = some (.int .i64 s2) ∧ StQ WW qb [(w.heap.size + 1, .cells #[.int .i64 t2, .int .i64 s2] 29), (w.heap.size, .cells #[.int .i64 t1, .int .i64 s1] 29)] rows ws bs W) (exact HKS.out _ (by assumption)) (first
      | (go_at_call 17; refine (HRD.out _ (by go_split_ands; assumption)).mono ?_; rintro e w14 ⟨ra, rc, rfl, hrs, hs14⟩)
      | (go_at_call 16; refine (HIN.out _ _ _ (by first | exact hrs _ (Below.refl _ _) | (refine hrs _ ?_; assumption)) (by go_split_ands; assumption)).mono ?_; rintro e w15 ⟨rfl, hb15, hs15⟩)
      | (go_at_call 18; refine (HLN.out _ _ _ (by go_split_ands; assumption)).mono ?_; rintro e w16 ⟨rfl, hb16, hs16⟩))
            all_goals
              go_wp2_with fail
              go_meet
              exact ⟨rfl, rfl, by first | assumption | (go_split_ands; assumption)⟩
          case rest =>
            obtain ⟨w9, rfl⟩ : ∃ w9 : World, w9 = wc := ⟨_, rfl⟩
            obtain ⟨rfl, rfl, hs9⟩ := hcut
            obtain ⟨z0, z1, z2, z3, _⟩ := HKS.out w9 hs9
            have HS9 := Lib.hid hs9
            clear hs9
            go_wp2_with fail
            refine (len_bl HS9.out t1 s1).mono ?_
            rintro e w10 ⟨rfl, _, hs10⟩
            obtain ⟨z0, z1, z2, z3, _⟩ := HKS.out w10 hs10
            have HS10 := Lib.hid hs10
            clear hs10
            go_wp2_with fail
            refine (put_st HS10.out hall t1 s1 job).mono ?_
            rintro e w11 ⟨⟨v11, rfl⟩, hs11⟩
            have hall2 : allR (putS rows t1 s1 job) ≤ 4398046511104 := by rw [allR_put]; omega
            obtain ⟨R2, hR2⟩ : ∃ R2, R2 = putS rows t1 s1 job := ⟨_, rfl⟩
            rw [← hR2] at hs11 hall2
            have hpa := HPA.out
            rw [← hR2, ← HZ.out] at hpa
            obtain ⟨L1, hL1⟩ : ∃ L1, L1 = lenS rows t1 s1 := ⟨_, rfl⟩
            obtain ⟨L2, hL2⟩ : ∃ L2, L2 = lenS rows t2 s2 := ⟨_, rfl⟩
            rw [← hL1, ← hL2] at hpa ⊢
            rw [← hL1] at hle1
            rw [← hL2] at hle2
            have HPZ := Lib.hid hpa
            have hw1 : IntKind.i64.wrap ((L1 : Int) + 1) = (L1 : Int) + 1 := by rw [IntKind.wrap_i64]; omega
            have b3 : (z == z) = true := by simp
            have b4 : ((L2 : Int) == (L2 : Int)) = true := by simp
            have b5 : (((L1 : Int) + 1) == ((L1 : Int) + 1)) = true := by simp
            clear HKS HRD HIN HLN hqd hR2 hL1 hL2 hpa
            have HKS := Lib.hid (show ∀ W, StQ WW qb [(w.heap.size + 1, .cells #[.int .i64 t2, .int .i64 s2] 29), (w.heap.size, .cells #[.int .i64 t1, .int .i64 s1] 29)] R2 ws bs W → (W.cell? ⟨w.heap.size, 0, none⟩ = some (.int .i64 t1) ∧ W.cell? ⟨w.heap.size, 1, none⟩ = some (.int .i64 s1) ∧ W.cell? ⟨w.heap.size + 1, 0, none⟩ = some (.int .i64 t2) ∧ W.cell? ⟨w.heap.size + 1, 1, none⟩ = some (.int .i64 s2) ∧ StQ WW qb [(w.heap.size + 1, .cells #[.int .i64 t2, .int .i64 s2] 29), (w.heap.size, .cells #[.int .i64 t1, .int .i64 s1] 29)] R2 ws bs W) from fun W hs =>
              ⟨cell_of_block (hs.at (b := w.heap.size) (List.mem_of_getElem? (i := 1) rfl)) rfl, cell_of_block (hs.at (b := w.heap.size) (List.mem_of_getElem? (i := 1) rfl)) rfl, cell_of_block (hs.at (b := w.heap.size + 1) (List.mem_of_getElem? (i := 0) rfl)) rfl, cell_of_block (hs.at (b := w.heap.size + 1) (List.mem_of_getElem? (i := 0) rfl)) rfl, hs⟩)
            have HRD := Lib.hid (show ∀ W, StQ WW qb [(w.heap.size + 1, .cells #[.int .i64 t2, .int .i64 s2] 29), (w.heap.size, .cells #[.int .i64 t1, .int .i64 s1] 29)] R2 ws bs W → Calls Tryd.prog 17 #[.pointer (some ⟨qb, 0, none⟩)] W fun e w' => ∃ a c, e = .returned (.slice a (readyS R2).length c) ∧ (∀ W', Below w'.heap.size w' W' → Sl W' 2 (.slice a (readyS R2).length c) (readyS R2).length ((readyS R2).flatMap kyCells)) ∧ StQ WW qb [(w.heap.size + 1, .cells #[.int .i64 t2, .int .i64 s2] 29), (w.heap.size, .cells #[.int .i64 t1, .int .i64 s1] 29)] R2 ws bs w' from fun W hs => ready_sl hs (by omega))
            have HIN := Lib.hid (show ∀ (a : Option Addr) (c : Nat) (W : World), Sl W 2 (.slice a (readyS R2).length c) (readyS R2).length ((readyS R2).flatMap kyCells) → StQ WW qb [(w.heap.size + 1, .cells #[.int .i64 t2, .int .i64 s2] 29), (w.heap.size, .cells #[.int .i64 t1, .int .i64 s1] 29)] R2 ws bs W → Calls Tryd.prog 16 #[.slice a (readyS R2).length c, .agg #[.int .i64 t2, .int .i64 s2]] W fun e w' => e = .returned (.bool z) ∧ Below W.heap.size W w' ∧ StQ WW qb [(w.heap.size + 1, .cells #[.int .i64 t2, .int .i64 s2] 29), (w.heap.size, .cells #[.int .i64 t1, .int .i64 s1] 29)] R2 ws bs w' from fun a c W hsl hs => (in_any a c _ t2 s2 W hsl).mono fun e w' ⟨he, hb⟩ => ⟨by rw [he, HPZ.out.1], hb, hs.below hb⟩)
            have HLN := Lib.hid (show ∀ (W : World) (t s : Int), StQ WW qb [(w.heap.size + 1, .cells #[.int .i64 t2, .int .i64 s2] 29), (w.heap.size, .cells #[.int .i64 t1, .int .i64 s1] 29)] R2 ws bs W → Calls Tryd.prog 18 #[.pointer (some ⟨qb, 0, none⟩), .agg #[.int .i64 t, .int .i64 s]] W fun e w' => e = .returned (.int .i64 (lenS R2 t s)) ∧ Below W.heap.size W w' ∧ StQ WW qb [(w.heap.size + 1, .cells #[.int .i64 t2, .int .i64 s2] 29), (w.heap.size, .cells #[.int .i64 t1, .int .i64 s1] 29)] R2 ws bs w' from fun W t s hs => len_bl hs t s)
            have q1 : ((lenS R2 t1 s1 : Nat) : Int) = (L1 : Int) + 1 := by rw [HPZ.out.2.2]; omega
            have q2 : ((lenS R2 t2 s2 : Nat) : Int) = (L2 : Int) := by rw [HPZ.out.2.1]
            go_upto_region 13 with fail
            have hqd := hs11.below (Below.refl _ _).drew
            clear hs11
            go_region_held3 (fun W => W.cell? ⟨w.heap.size, 0, none⟩ = some (.int .i64 t1) ∧ W.cell? ⟨w.heap.size, 1, none⟩ = some (.int .i64 s1) ∧ W.cell? ⟨w.heap.size + 1, 0, none⟩ = some (.int .i64 t2) ∧ W.cell? ⟨w.heap.size + 1, 1, none⟩ = some (.int .i64 s2) ∧ StQ WW qb [(w.heap.size + 1, .cells #[.int .i64 t2, .int .i64 s2] 29), (w.heap.size, .cells #[.int .i64 t1, .int .i64 s1] 29)] R2 ws bs W) (exact HKS.out _ (by assumption)) (first
      | (go_at_call 17; refine (HRD.out _ (by go_split_ands; assumption)).mono ?_; rintro e w14 ⟨ra, rc, rfl, hrs, hs14⟩)
      | (go_at_call 16; refine (HIN.out _ _ _ (by first | exact hrs _ (Below.refl _ _) | (refine hrs _ ?_; assumption)) (by go_split_ands; assumption)).mono ?_; rintro e w15 ⟨rfl, hb15, hs15⟩)
      | (go_at_call 18; refine (HLN.out _ _ _ (by go_split_ands; assumption)).mono ?_; rintro e w16 ⟨rfl, hb16, hs16⟩))
            all_goals
              go_wp2
              go_ret
              exact ⟨rfl, HBW.out.trans ((StQ.world (qb := qb) (X := [(w.heap.size + 1, .cells #[.int .i64 t2, .int .i64 s2] 29), (w.heap.size, .cells #[.int .i64 t1, .int .i64 s1] 29)]) (rows := R2) (ws := ws) (bs := bs) (by first | assumption | (go_split_ands; assumption))).mono HBW.out.size)⟩
    · skip
      go_wp2_with fail
      clear z0 z1 z2 z3 b1 b2
      go_loopw [13] (fun iv wr => ApRel WW qb mb [(w.heap.size + 1, .cells #[.int .i64 t2, .int .i64 s2] 29), (w.heap.size, .cells #[.int .i64 t1, .int .i64 s1] 29)] xs.length iv wr) (fun iv _ => xs.length - (intOf iv).toNat)
      case atStart => exact ⟨0, [], _, _, Nat.zero_le _, rfl, HS0.out, Nat.le_refl _⟩
      case round =>
        obtain ⟨k, rows, ws, bs, hk, rfl, hst, hal⟩ := hrel
        by_cases hlt : k < xs.length
        · obtain ⟨⟨b, o, rfl, k0, k1, k2, k3, k4, k5⟩, hok⟩ := HX.out.get (HBW.out.trans (hst.world.mono HBW.out.size)) k hlt
          have i0 : (0 : Int) ≤ (k : Int) := by omega
          have i1 : (k : Int) < (xs.length : Int) := by omega
          clear hok
          generalize xs[k] = X at *
          obtain ⟨d, t, s, j, u, p⟩ := X
          simp only at k0 k1 k2 k3 k4 k5
          have HDO := Lib.hid (does_any WW qb mb [(w.heap.size + 1, .cells #[.int .i64 t2, .int .i64 s2] 29), (w.heap.size, .cells #[.int .i64 t1, .int .i64 s1] 29)] rows ws bs d t s j u p wr HG.out hst (by omega))
          clear hst
          go_wp2_with fail
          refine HDO.out.mono ?_
          rintro e w3 ⟨rfl, rows', ws', bs', hs3, ha3, _⟩
          have HS3 := Lib.hid hs3
          clear hs3
          go_wp2
          go_roundw
          case rel => exact ⟨k + 1, rows', ws', bs', by omega, by go_num, HS3.out, by omega⟩
          case measure => simp [intOf]; omega
        · have hsq := hst.queue
          have hge : ¬ (k : Int) < (xs.length : Int) := by omega
          have HPA := Lib.hid (put_apart hst.inv.1 t1 s1 job t2 s2 HNE.out)
          have HSQ := Lib.hid hsq
          have hall : allR rows ≤ 4398046511104 := by omega
          have hle1 := lenS_le (rows := rows) t1 s1
          have hle2 := lenS_le (rows := rows) t2 s2
          obtain ⟨z, hz⟩ : ∃ z, z = decide ((t2, s2) ∈ readyS rows) := ⟨_, rfl⟩
          have HZ := Lib.hid hz
          have HKS := Lib.hid (show ∀ W, StQ WW qb [(w.heap.size + 1, .cells #[.int .i64 t2, .int .i64 s2] 29), (w.heap.size, .cells #[.int .i64 t1, .int .i64 s1] 29)] rows ws bs W → (W.cell? ⟨w.heap.size, 0, none⟩ = some (.int .i64 t1) ∧ W.cell? ⟨w.heap.size, 1, none⟩ = some (.int .i64 s1) ∧ W.cell? ⟨w.heap.size + 1, 0, none⟩ = some (.int .i64 t2) ∧ W.cell? ⟨w.heap.size + 1, 1, none⟩ = some (.int .i64 s2) ∧ StQ WW qb [(w.heap.size + 1, .cells #[.int .i64 t2, .int .i64 s2] 29), (w.heap.size, .cells #[.int .i64 t1, .int .i64 s1] 29)] rows ws bs W) from fun W hs =>
            ⟨cell_of_block (hs.at (b := w.heap.size) (List.mem_of_getElem? (i := 1) rfl)) rfl, cell_of_block (hs.at (b := w.heap.size) (List.mem_of_getElem? (i := 1) rfl)) rfl, cell_of_block (hs.at (b := w.heap.size + 1) (List.mem_of_getElem? (i := 0) rfl)) rfl, cell_of_block (hs.at (b := w.heap.size + 1) (List.mem_of_getElem? (i := 0) rfl)) rfl, hs⟩)
          have HRD := Lib.hid (show ∀ W, StQ WW qb [(w.heap.size + 1, .cells #[.int .i64 t2, .int .i64 s2] 29), (w.heap.size, .cells #[.int .i64 t1, .int .i64 s1] 29)] rows ws bs W → Calls Tryd.prog 17 #[.pointer (some ⟨qb, 0, none⟩)] W fun e w' => ∃ a c, e = .returned (.slice a (readyS rows).length c) ∧ (∀ W', Below w'.heap.size w' W' → Sl W' 2 (.slice a (readyS rows).length c) (readyS rows).length ((readyS rows).flatMap kyCells)) ∧ StQ WW qb [(w.heap.size + 1, .cells #[.int .i64 t2, .int .i64 s2] 29), (w.heap.size, .cells #[.int .i64 t1, .int .i64 s1] 29)] rows ws bs w' from fun W hs => ready_sl hs (by omega))
          have HIN := Lib.hid (show ∀ (a : Option Addr) (c : Nat) (W : World), Sl W 2 (.slice a (readyS rows).length c) (readyS rows).length ((readyS rows).flatMap kyCells) → StQ WW qb [(w.heap.size + 1, .cells #[.int .i64 t2, .int .i64 s2] 29), (w.heap.size, .cells #[.int .i64 t1, .int .i64 s1] 29)] rows ws bs W → Calls Tryd.prog 16 #[.slice a (readyS rows).length c, .agg #[.int .i64 t2, .int .i64 s2]] W fun e w' => e = .returned (.bool z) ∧ Below W.heap.size W w' ∧ StQ WW qb [(w.heap.size + 1, .cells #[.int .i64 t2, .int .i64 s2] 29), (w.heap.size, .cells #[.int .i64 t1, .int .i64 s1] 29)] rows ws bs w' from fun a c W hsl hs => (in_any a c _ t2 s2 W hsl).mono fun e w' ⟨he, hb⟩ => ⟨by rw [he, HZ.out], hb, hs.below hb⟩)
          have HLN := Lib.hid (show ∀ (W : World) (t s : Int), StQ WW qb [(w.heap.size + 1, .cells #[.int .i64 t2, .int .i64 s2] 29), (w.heap.size, .cells #[.int .i64 t1, .int .i64 s1] 29)] rows ws bs W → Calls Tryd.prog 18 #[.pointer (some ⟨qb, 0, none⟩), .agg #[.int .i64 t, .int .i64 s]] W fun e w' => e = .returned (.int .i64 (lenS rows t s)) ∧ Below W.heap.size W w' ∧ StQ WW qb [(w.heap.size + 1, .cells #[.int .i64 t2, .int .i64 s2] 29), (w.heap.size, .cells #[.int .i64 t1, .int .i64 s1] 29)] rows ws bs w' from fun W t s hs => len_bl hs t s)
          clear hst hz
          go_upto_region 10 with fail
          have hqd := hsq.below (Below.refl _ _).drew
          clear hsq
          go_cut [14, 15] (fun v14 v15 wx => v14 = .bool z ∧ v15 = .int .i64 (lenS rows t2 s2) ∧ StQ WW qb [(w.heap.size + 1, .cells #[.int .i64 t2, .int .i64 s2] 29), (w.heap.size, .cells #[.int .i64 t1, .int .i64 s1] 29)] rows ws bs wx)
          case first =>
            go_region_held3 (fun W => W.cell? ⟨w.heap.size, 0, none⟩ = some (.int .i64 t1) ∧ W.cell? ⟨w.heap.size, 1, none⟩ = some (.int .i64 s1) ∧ W.cell? ⟨w.heap.size + 1, 0, none⟩ = some (.int .i64 t2) ∧ W.cell? ⟨w.heap.size + 1, 1, none⟩ = some (.int .i64 s2) ∧ StQ WW qb [(w.heap.size + 1, .cells #[.int .i64 t2, .int .i64 s2] 29), (w.heap.size, .cells #[.int .i64 t1, .int .i64 s1] 29)] rows ws bs W) (exact HKS.out _ (by assumption)) (first
      | (go_at_call 17; refine (HRD.out _ (by go_split_ands; assumption)).mono ?_; rintro e w14 ⟨ra, rc, rfl, hrs, hs14⟩)
      | (go_at_call 16; refine (HIN.out _ _ _ (by first | exact hrs _ (Below.refl _ _) | (refine hrs _ ?_; assumption)) (by go_split_ands; assumption)).mono ?_; rintro e w15 ⟨rfl, hb15, hs15⟩)
      | (go_at_call 18; refine (HLN.out _ _ _ (by go_split_ands; assumption)).mono ?_; rintro e w16 ⟨rfl, hb16, hs16⟩))
            all_goals
              go_wp2_with fail
              go_meet
              exact ⟨rfl, rfl, by first | assumption | (go_split_ands; assumption)⟩
          case rest =>
            obtain ⟨w9, rfl⟩ : ∃ w9 : World, w9 = wc := ⟨_, rfl⟩
            obtain ⟨rfl, rfl, hs9⟩ := hcut
            obtain ⟨z0, z1, z2, z3, _⟩ := HKS.out w9 hs9
            have HS9 := Lib.hid hs9
            clear hs9
            go_wp2_with fail
            refine (len_bl HS9.out t1 s1).mono ?_
            rintro e w10 ⟨rfl, _, hs10⟩
            obtain ⟨z0, z1, z2, z3, _⟩ := HKS.out w10 hs10
            have HS10 := Lib.hid hs10
            clear hs10
            go_wp2_with fail
            refine (put_st HS10.out hall t1 s1 job).mono ?_
            rintro e w11 ⟨⟨v11, rfl⟩, hs11⟩
            have hall2 : allR (putS rows t1 s1 job) ≤ 4398046511104 := by rw [allR_put]; omega
            obtain ⟨R2, hR2⟩ : ∃ R2, R2 = putS rows t1 s1 job := ⟨_, rfl⟩
            rw [← hR2] at hs11 hall2
            have hpa := HPA.out
            rw [← hR2, ← HZ.out] at hpa
            obtain ⟨L1, hL1⟩ : ∃ L1, L1 = lenS rows t1 s1 := ⟨_, rfl⟩
            obtain ⟨L2, hL2⟩ : ∃ L2, L2 = lenS rows t2 s2 := ⟨_, rfl⟩
            rw [← hL1, ← hL2] at hpa ⊢
            rw [← hL1] at hle1
            rw [← hL2] at hle2
            have HPZ := Lib.hid hpa
            have hw1 : IntKind.i64.wrap ((L1 : Int) + 1) = (L1 : Int) + 1 := by rw [IntKind.wrap_i64]; omega
            have b3 : (z == z) = true := by simp
            have b4 : ((L2 : Int) == (L2 : Int)) = true := by simp
            have b5 : (((L1 : Int) + 1) == ((L1 : Int) + 1)) = true := by simp
            clear HKS HRD HIN HLN hqd hR2 hL1 hL2 hpa
            have HKS := Lib.hid (show ∀ W, StQ WW qb [(w.heap.size + 1, .cells #[.int .i64 t2, .int .i64 s2] 29), (w.heap.size, .cells #[.int .i64 t1, .int .i64 s1] 29)] R2 ws bs W → (W.cell? ⟨w.heap.size, 0, none⟩ = some (.int .i64 t1) ∧ W.cell? ⟨w.heap.size, 1, none⟩ = some (.int .i64 s1) ∧ W.cell? ⟨w.heap.size + 1, 0, none⟩ = some (.int .i64 t2) ∧ W.cell? ⟨w.heap.size + 1, 1, none⟩ = some (.int .i64 s2) ∧ StQ WW qb [(w.heap.size + 1, .cells #[.int .i64 t2, .int .i64 s2] 29), (w.heap.size, .cells #[.int .i64 t1, .int .i64 s1] 29)] R2 ws bs W) from fun W hs =>
              ⟨cell_of_block (hs.at (b := w.heap.size) (List.mem_of_getElem? (i := 1) rfl)) rfl, cell_of_block (hs.at (b := w.heap.size) (List.mem_of_getElem? (i := 1) rfl)) rfl, cell_of_block (hs.at (b := w.heap.size + 1) (List.mem_of_getElem? (i := 0) rfl)) rfl, cell_of_block (hs.at (b := w.heap.size + 1) (List.mem_of_getElem? (i := 0) rfl)) rfl, hs⟩)
            have HRD := Lib.hid (show ∀ W, StQ WW qb [(w.heap.size + 1, .cells #[.int .i64 t2, .int .i64 s2] 29), (w.heap.size, .cells #[.int .i64 t1, .int .i64 s1] 29)] R2 ws bs W → Calls Tryd.prog 17 #[.pointer (some ⟨qb, 0, none⟩)] W fun e w' => ∃ a c, e = .returned (.slice a (readyS R2).length c) ∧ (∀ W', Below w'.heap.size w' W' → Sl W' 2 (.slice a (readyS R2).length c) (readyS R2).length ((readyS R2).flatMap kyCells)) ∧ StQ WW qb [(w.heap.size + 1, .cells #[.int .i64 t2, .int .i64 s2] 29), (w.heap.size, .cells #[.int .i64 t1, .int .i64 s1] 29)] R2 ws bs w' from fun W hs => ready_sl hs (by omega))
            have HIN := Lib.hid (show ∀ (a : Option Addr) (c : Nat) (W : World), Sl W 2 (.slice a (readyS R2).length c) (readyS R2).length ((readyS R2).flatMap kyCells) → StQ WW qb [(w.heap.size + 1, .cells #[.int .i64 t2, .int .i64 s2] 29), (w.heap.size, .cells #[.int .i64 t1, .int .i64 s1] 29)] R2 ws bs W → Calls Tryd.prog 16 #[.slice a (readyS R2).length c, .agg #[.int .i64 t2, .int .i64 s2]] W fun e w' => e = .returned (.bool z) ∧ Below W.heap.size W w' ∧ StQ WW qb [(w.heap.size + 1, .cells #[.int .i64 t2, .int .i64 s2] 29), (w.heap.size, .cells #[.int .i64 t1, .int .i64 s1] 29)] R2 ws bs w' from fun a c W hsl hs => (in_any a c _ t2 s2 W hsl).mono fun e w' ⟨he, hb⟩ => ⟨by rw [he, HPZ.out.1], hb, hs.below hb⟩)
            have HLN := Lib.hid (show ∀ (W : World) (t s : Int), StQ WW qb [(w.heap.size + 1, .cells #[.int .i64 t2, .int .i64 s2] 29), (w.heap.size, .cells #[.int .i64 t1, .int .i64 s1] 29)] R2 ws bs W → Calls Tryd.prog 18 #[.pointer (some ⟨qb, 0, none⟩), .agg #[.int .i64 t, .int .i64 s]] W fun e w' => e = .returned (.int .i64 (lenS R2 t s)) ∧ Below W.heap.size W w' ∧ StQ WW qb [(w.heap.size + 1, .cells #[.int .i64 t2, .int .i64 s2] 29), (w.heap.size, .cells #[.int .i64 t1, .int .i64 s1] 29)] R2 ws bs w' from fun W t s hs => len_bl hs t s)
            have q1 : ((lenS R2 t1 s1 : Nat) : Int) = (L1 : Int) + 1 := by rw [HPZ.out.2.2]; omega
            have q2 : ((lenS R2 t2 s2 : Nat) : Int) = (L2 : Int) := by rw [HPZ.out.2.1]
            go_upto_region 13 with fail
            have hqd := hs11.below (Below.refl _ _).drew
            clear hs11
            go_region_held3 (fun W => W.cell? ⟨w.heap.size, 0, none⟩ = some (.int .i64 t1) ∧ W.cell? ⟨w.heap.size, 1, none⟩ = some (.int .i64 s1) ∧ W.cell? ⟨w.heap.size + 1, 0, none⟩ = some (.int .i64 t2) ∧ W.cell? ⟨w.heap.size + 1, 1, none⟩ = some (.int .i64 s2) ∧ StQ WW qb [(w.heap.size + 1, .cells #[.int .i64 t2, .int .i64 s2] 29), (w.heap.size, .cells #[.int .i64 t1, .int .i64 s1] 29)] R2 ws bs W) (exact HKS.out _ (by assumption)) (first
      | (go_at_call 17; refine (HRD.out _ (by go_split_ands; assumption)).mono ?_; rintro e w14 ⟨ra, rc, rfl, hrs, hs14⟩)
      | (go_at_call 16; refine (HIN.out _ _ _ (by first | exact hrs _ (Below.refl _ _) | (refine hrs _ ?_; assumption)) (by go_split_ands; assumption)).mono ?_; rintro e w15 ⟨rfl, hb15, hs15⟩)
      | (go_at_call 18; refine (HLN.out _ _ _ (by go_split_ands; assumption)).mono ?_; rintro e w16 ⟨rfl, hb16, hs16⟩))
            all_goals
              go_wp2
              go_ret
              exact ⟨rfl, HBW.out.trans ((StQ.world (qb := qb) (X := [(w.heap.size + 1, .cells #[.int .i64 t2, .int .i64 s2] 29), (w.heap.size, .cells #[.int .i64 t1, .int .i64 s1] 29)]) (rows := R2) (ws := ws) (bs := bs) (by first | assumption | (go_split_ands; assumption))).mono HBW.out.size)⟩
theorem queueApart_any (n : Int) (v : Value) (xs : List Ac) (t1 s1 t2 s2 job : Int) (w : World) (hg : Hg w) (h0 : 0 ≤ n) (h1 : n ≤ 255) (hx : Acts w v xs) (hsz : xs.length * 48 ≤ 140737488351232) : Calls Tryd.prog 4 #[.int .u8 n, v, .agg #[.int .i64 t1, .int .i64 s1], .agg #[.int .i64 t2, .int .i64 s2], .int .i64 job] w (Yes w) := by
  obtain ⟨a1, c1, rfl, _⟩ := Sl.len hx.1
  exact queueApart_slices n a1 c1 xs t1 s1 t2 s2 job w hg h0 h1 hx hsz
end Go.Proofs.YtkbopcgijaejjaaDoor
