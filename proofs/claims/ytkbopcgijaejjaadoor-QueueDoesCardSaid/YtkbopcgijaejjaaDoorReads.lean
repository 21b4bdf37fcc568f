/-
  Len, All, Busy, Ready and New of a queue by contract; the conditions: the queue's cells, and how many jobs there are.
  Printed by a program of this repository (wip/qu2.py).
-/
import Derived.Test.YtkbopcgijaejjaaDoorQueue
import Derived.Test.YtkbopcgijaejjaaDoorErr2
import Derived.Laws.MakeOwn
import Derived.RegionTactic
namespace Go.Proofs.YtkbopcgijaejjaaDoor
open Go.RowKit Go.Extern.Stop Go.Stop Go.Extern

theorem Tryd.infoK : (Tryd.prog.info? 29).map (fun i => (i.zero, i.size, i.bytes)) = some (some (.agg #[.int .i64 0, .int .i64 0]), 2, 16) := by kernel_rfl
theorem Tryd.infoI : (Tryd.prog.info? 3).map (fun i => (i.zero, i.size, i.bytes)) = some (some (.int .i64 0), 1, 8) := by kernel_rfl
theorem Tryd.infoBo : (Tryd.prog.info? 4).map (fun i => (i.zero, i.size, i.bytes)) = some (some (.bool false), 1, 1) := by kernel_rfl
def lenV (RS : List (Rw × Value)) (t s : Int) : Nat := if h : atR RS t s < RS.length then (RS[atR RS t s]'h).1.jobs.length else 0
set_option maxRecDepth 100000 in
set_option maxHeartbeats 1000000 in
theorem len_any (qb : Nat) (F : Nat → Prop) (RS : List (Rw × Value)) (ws : List (Int × Int)) (bs : List Bool) (t s : Int) (w : World) (h : QS w qb F RS ws bs) :
    Calls Tryd.prog 18 #[.pointer (some ⟨qb, 0, none⟩), .agg #[.int .i64 t, .int .i64 s]] w fun e w' => e = .returned (.int .i64 (lenV RS t s)) ∧ Below w.heap.size w w' := by
  have hb0 : Below w.heap.size w (w.alloc (.cells #[.int .i64 t, .int .i64 s] 29)) := (Below.refl _ _).alloc (Nat.le_refl _) _
  have HA := Lib.hid (at_any qb F RS ws bs t s _ (h.below hb0))
  have HQ := Lib.hid (h.below hb0)
  have HB0 := Lib.hid hb0
  clear h hb0
  unfold lenV
  by_cases hh : atR RS t s < RS.length
  · rw [dif_pos hh]
    have HV := Lib.hid (show atV RS t s = (atR RS t s : Int) by unfold atV; rw [if_pos hh])
    generalize hI : atR RS t s = I at *
    clear hI
    go_enter Tryd.func18, Tryd.ntmps18
    go_wp2_with fail
    refine HA.out.mono ?_
    rintro e w1 ⟨rfl, hb1⟩
    rw [HV.out]
    obtain ⟨ra, wa, ba, rc, wc, bc, r⟩ := (HQ.out.below hb1).read
    have c0 := r.c0
    obtain ⟨b, o, rfl, _, k0, k1, k2, k3⟩ := row_get r.rows (Below.refl _ _) I hh
    have hj := r.jobs RS[I] (List.getElem_mem hh)
    have hln := r.rows.lenI
    have HB1 := Lib.hid hb1
    have i0 : (0 : Int) ≤ (I : Int) := by omega
    have i1 : (I : Int) < (RS.length : Int) := by omega
    generalize hG : RS[I] = G at k0 k1 k2 k3 hj
    have HGE := Lib.hid hG
    obtain ⟨⟨t', s', js, z⟩, jv⟩ := G
    simp only at k0 k1 k2 k3 hj
    obtain ⟨ja, jc, rfl, _⟩ := hj.len
    clear hb1 r hj k0 k1 k3 hG
    go_wp2
    go_ret
    exact ⟨by rw [HGE.out]; rfl, HB0.out.trans (HB1.out.mono HB0.out.size)⟩
  · rw [dif_neg hh]
    have HV := Lib.hid (show atV RS t s = -1 by unfold atV; rw [if_neg hh])
    clear hh
    go_enter Tryd.func18, Tryd.ntmps18
    go_wp2_with fail
    refine HA.out.mono ?_
    rintro e w1 ⟨rfl, hb1⟩
    rw [HV.out]
    have HB1 := Lib.hid hb1
    clear hb1
    go_wp2
    go_ret
    exact ⟨rfl, HB0.out.trans (HB1.out.mono HB0.out.size)⟩

def allN (RS : List (Rw × Value)) : Nat := (RS.map fun p => p.1.jobs.length).sum
theorem allN_take (RS : List (Rw × Value)) (k : Nat) (h : k < RS.length) : allN (RS.take (k + 1)) = allN (RS.take k) + RS[k].1.jobs.length := by
  unfold allN; rw [List.take_succ_eq_append_getElem h, List.map_append, List.sum_append]; simp
theorem allN_le (RS : List (Rw × Value)) (k : Nat) : allN (RS.take k) ≤ allN RS := by
  unfold allN
  conv => rhs; rw [← List.take_append_drop k RS]
  rw [List.map_append, List.sum_append]; omega
set_option maxRecDepth 100000 in
set_option maxHeartbeats 1000000 in
theorem all_any (qb : Nat) (F : Nat → Prop) (RS : List (Rw × Value)) (ws : List (Int × Int)) (bs : List Bool) (w : World) (h : QS w qb F RS ws bs) (hn : allN RS ≤ 4611686018427387904) :
    Calls Tryd.prog 14 #[.pointer (some ⟨qb, 0, none⟩)] w fun e w' => e = .returned (.int .i64 (allN RS)) ∧ Below w.heap.size w w' := by
  obtain ⟨ra, wa, ba, rc, wc, bc, r⟩ := h.read
  have c0 := r.c0
  have hln := r.rows.lenI
  have HR := Lib.hid r
  clear h r
  go_enter Tryd.func14, Tryd.ntmps14
  go_wp2
  clear c0
  go_loopw [3, 11] (fun x i wr => ∃ k : Nat, k ≤ RS.length ∧ i = .int .i64 k ∧ x = .int .i64 (allN (RS.take k)) ∧ Below w.heap.size w wr) (fun _ i _ => RS.length - (intOf i).toNat)
  case atStart => exact ⟨0, Nat.zero_le _, rfl, rfl, Below.refl _ _⟩
  case round =>
    obtain ⟨k, hk, rfl, rfl, hb⟩ := hrel
    by_cases hlt : k < RS.length
    · obtain ⟨b, o, rfl, _, k0, k1, k2, k3⟩ := row_get HR.out.rows hb k hlt
      have hj := HR.out.jobs RS[k] (List.getElem_mem hlt)
      have ht := allN_take RS k hlt
      have hle := allN_le RS (k + 1)
      rw [ht] at hle
      have HT := Lib.hid ht
      have HB := Lib.hid hb
      have i0 : (0 : Int) ≤ (k : Int) := by omega
      have i1 : (k : Int) < (RS.length : Int) := by omega
      clear ht hb
      generalize RS[k] = G at *
      obtain ⟨⟨t', s', js, z⟩, jv⟩ := G
      simp only at k0 k1 k2 k3 hj hle HT
      obtain ⟨ja, jc, rfl, _⟩ := hj.len
      clear hj
      generalize allN (RS.take k) = C at *
      go_wp2
      go_roundw
      case rel => exact ⟨k + 1, by omega, by go_num, by rw [HT.out]; go_num, HB.out.alloc HB.out.size _⟩
      case measure => simp [intOf]; omega
    · obtain rfl : k = RS.length := by omega
      rw [List.take_length]
      have HB := Lib.hid hb
      clear hb
      go_wp2
      go_ret
      exact ⟨rfl, HB.out⟩

/-- Has a worker a job? -/
def busyB (bs : List Bool) (n : Int) : Bool := decide (0 ≤ n ∧ n < bs.length) && bs.getD n.toNat false
set_option maxRecDepth 100000 in
set_option maxHeartbeats 1000000 in
theorem busy_any (qb : Nat) (F : Nat → Prop) (RS : List (Rw × Value)) (ws : List (Int × Int)) (bs : List Bool) (n : Int) (w : World) (h : QS w qb F RS ws bs) :
    Calls Tryd.prog 24 #[.pointer (some ⟨qb, 0, none⟩), .int .i64 n] w fun e w' => e = .returned (.bool (busyB bs n)) ∧ w = w' := by
  obtain ⟨ra, wa, ba, rc, wc, bc, r⟩ := h.read
  have c2 := r.c2
  have hln := r.busy.lenI
  have HR := Lib.hid r
  clear h r
  by_cases h0 : 0 ≤ n
  · by_cases h1 : n < bs.length
    · obtain ⟨i, rfl⟩ := Int.eq_ofNat_of_zero_le h0
      have hi : i < bs.length := by omega
      obtain ⟨b, o, c', e, _, _, _, h4⟩ := HR.out.busy.plain (by omega)
      obtain ⟨rfl, rfl⟩ : ba = some ⟨b, o, none⟩ ∧ bc = c' := by cases e; exact ⟨rfl, rfl⟩
      have hc := h4 i (.bool bs[i]) (by rw [List.getElem?_map, List.getElem?_eq_getElem hi]; rfl)
      have hv : busyB bs (i : Int) = bs[i] := by
        unfold busyB
        rw [decide_eq_true ⟨h0, h1⟩, Bool.true_and, Int.toNat_natCast, List.getD_eq_getElem?_getD, List.getElem?_eq_getElem hi]; rfl
      rw [hv]
      clear e h4 hv
      generalize bs[i] = z at *
      go_enter Tryd.func24, Tryd.ntmps24
      go_wp2
      go_ret
      exact ⟨by first | rfl | simp, rfl⟩
    · have hv : busyB bs n = false := by unfold busyB; rw [decide_eq_false (fun h => h1 h.2)]; rfl
      rw [hv]
      clear hv
      have h1' : (bs.length : Int) ≤ n := by omega
      go_enter Tryd.func24, Tryd.ntmps24
      go_wp2
      go_ret
      exact ⟨by first | rfl | simp, rfl⟩
  · have hv : busyB bs n = false := by unfold busyB; rw [decide_eq_false (fun h => h0 h.1)]; rfl
    rw [hv]
    clear hv
    go_enter Tryd.func24, Tryd.ntmps24
    go_wp2
    go_ret
    exact ⟨by first | rfl | simp, rfl⟩

/-- The keys of the rows that are ready. -/
def readyK (RS : List (Rw × Value)) : List (Int × Int) := (RS.filter fun p => !p.1.busy).map fun p => (p.1.t, p.1.s)
theorem readyK_take (RS : List (Rw × Value)) (k : Nat) (h : k < RS.length) : readyK (RS.take (k + 1)) = readyK (RS.take k) ++ if RS[k].1.busy then [] else [(RS[k].1.t, RS[k].1.s)] := by
  unfold readyK
  rw [List.take_succ_eq_append_getElem h, List.filter_append, List.map_append]
  cases hz : RS[k].1.busy <;> simp [hz]
theorem readyK_le (RS : List (Rw × Value)) : (readyK RS).length ≤ RS.length := by unfold readyK; rw [List.length_map]; exact List.length_filter_le _ _
set_option maxRecDepth 100000 in
set_option maxHeartbeats 1000000 in
theorem ready_any (qb : Nat) (F : Nat → Prop) (RS : List (Rw × Value)) (ws : List (Int × Int)) (bs : List Bool) (w : World) (h : QS w qb F RS ws bs) (hn : RS.length ≤ 4398046511104) :
    Calls Tryd.prog 17 #[.pointer (some ⟨qb, 0, none⟩)] w (OwnR w 29 2 (readyK RS).length ((readyK RS).flatMap kyCells)) := by
  obtain ⟨ra, wa, ba, rc, wc, bc, r⟩ := h.read
  have c0 := r.c0
  have hln := r.rows.lenI
  have HR := Lib.hid r
  obtain ⟨ti, hi, hz0, hz1, hz2⟩ := info_parts Tryd.infoK
  clear h r
  go_enter Tryd.func17, Tryd.ntmps17
  go_wp2
  clear c0
  go_loopw [3, 11] (fun x i wr => ∃ (k : Nat) (oa : Option Addr) (oc : Nat), k ≤ RS.length ∧ i = .int .i64 k ∧ x = .slice oa (readyK (RS.take k)).length oc ∧ Mid wr w.heap.size 29 2 (.slice oa (readyK (RS.take k)).length oc) (readyK (RS.take k)).length ((readyK (RS.take k)).flatMap kyCells) ∧ Below w.heap.size w wr) (fun _ i _ => RS.length - (intOf i).toNat)
  case atStart => exact ⟨0, none, 0, Nat.zero_le _, rfl, rfl, Mid.nil _ _ _ _, Below.refl _ _⟩
  case round =>
    obtain ⟨k, oa, oc, hk, rfl, rfl, hm, hb⟩ := hrel
    have hkl := readyK_le (RS.take k)
    rw [List.length_take] at hkl
    by_cases hlt : k < RS.length
    · obtain ⟨b, o, rfl, _, k0, k1, k2, k3⟩ := row_get HR.out.rows hb k hlt
      have ht := readyK_take RS k hlt
      have hj := HR.out.jobs RS[k] (List.getElem_mem hlt)
      have HM := Lib.hid hm
      have HB := Lib.hid hb
      have i0 : (0 : Int) ≤ (k : Int) := by omega
      have i1 : (k : Int) < (RS.length : Int) := by omega
      clear hb hm
      generalize RS[k] = G at *
      obtain ⟨⟨t', s', js, z⟩, jv⟩ := G
      simp only at k0 k1 k2 k3 ht hj
      obtain ⟨ja, jc, rfl, _⟩ := hj.len
      obtain ⟨jl, ejl⟩ : ∃ jl, jl = js.length := ⟨_, rfl⟩
      have HT := Lib.hid ht
      rw [← ejl] at k2
      clear ht hj ejl
      generalize readyK (RS.take k) = L at *
      cases z with
      | true =>
        go_wp2
        go_roundw
        case rel => exact ⟨k + 1, oa, oc, by omega, by go_num, by rw [HT.out]; simp, by rw [HT.out]; simpa using HM.out.alloc _, HB.out.alloc HB.out.size _⟩
        case measure => simp [intOf]; omega
      | false =>
        have HM3 := Lib.hid ((HM.out.alloc (.cells #[.int .i64 t', .int .i64 s', (.slice ja jl jc), .bool false] 67)).alloc (.cells #[.int .i64 t', .int .i64 s'] 29))
        have HS3 := Lib.hid (show Src Tryd.prog 2 44 (.slice (some ⟨wr.heap.size + 1, 0, none⟩) 1 1) 1 ([(t', s')].flatMap kyCells) ((wr.alloc (.cells #[.int .i64 t', .int .i64 s', (.slice ja jl jc), .bool false] 67)).alloc (.cells #[.int .i64 t', .int .i64 s'] 29)) from by
          have := (Sl.lit (wr.alloc (.cells #[.int .i64 t', .int .i64 s', (.slice ja jl jc), .bool false] 67)) 29 2 1 ([(t', s')].flatMap kyCells) (by unfold maxLen; omega) rfl).src (P := Tryd.prog) Tryd.underlying44 (fun u hu => by
            simp only [kyCells, List.flatMap_cons, List.flatMap_nil, List.append_nil, List.mem_cons, List.not_mem_nil, or_false] at hu
            rcases hu with rfl | rfl <;> rfl)
          rw [World.size_alloc] at this
          exact this)
        have HW3 := Lib.hid (show w.heap.size ≤ ((wr.alloc (.cells #[.int .i64 t', .int .i64 s', (.slice ja jl jc), .bool false] 67)).alloc (.cells #[.int .i64 t', .int .i64 s'] 29)).heap.size by have := HB.out.size; simp; omega)
        go_wp2_with (at_builtin; refine wpList_append_mid (v := .slice oa L.length oc) rfl _ _ 44 44 rfl ti (.agg #[.int .i64 0, .int .i64 0]) 16 Tryd.underlying44 hi hz0 hz1 hz2 rfl rfl HM3.out _ rfl 1 _ HS3.out (by unfold maxLen; omega) (by omega) HW3.out ?_; intro a4 c4 w4 hmo hgo hbo; have HMO4 := Lib.hid hmo; have HGO4 := Lib.hid hgo; clear hmo hgo hbo)
        go_roundw
        case rel =>
          refine ⟨k + 1, a4, c4, by omega, by go_num, by rw [HT.out]; simp, ?_, ?_⟩
          · rw [HT.out]
            simpa using HMO4.out
          · exact ((HB.out.alloc HB.out.size _).alloc (by have := HB.out.size; simp; omega) _).grown HGO4.out HW3.out fun q hq => (HM.out.lt q hq).1
        case measure => simp [intOf]; omega
    · obtain rfl : k = RS.length := by omega
      rw [List.take_length] at *
      have HM := Lib.hid hm
      have HB := Lib.hid hb
      clear hb hm
      go_wp2
      go_ret
      exact ⟨oa, oc, rfl, HM.out, HB.out⟩
end Go.Proofs.YtkbopcgijaejjaaDoor
