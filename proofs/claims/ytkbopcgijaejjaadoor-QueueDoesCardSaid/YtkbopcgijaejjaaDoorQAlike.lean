/-
  alike of actuarylaw30's model by contract: it answers true where the queue and the model are as one; the conditions: how many jobs there are.
  Printed by a program of this repository (wip/qu24.py).
-/
import Derived.Test.YtkbopcgijaejjaaDoorQDo
import Derived.Test.YtkbopcgijaejjaaDoorJobs
import Derived.Deep.RegionHeld3
namespace Go.Proofs.YtkbopcgijaejjaaDoor
open Go.RowKit Go.Extern.Stop Go.Stop Go.Extern
theorem lenS_row {rows : List Rw} (hn : (rows.map keyOf).Nodup) {r : Rw} (hr : r ∈ rows) : lenS rows r.t r.s = r.jobs.length := by
  have hI := atS_lt (t := r.t) (s := r.s) hr rfl
  unfold lenS
  rw [dif_pos hI, key_uniq hn (List.getElem_mem hI) hr (atS_hit hI)]
theorem lenS_none {rows : List Rw} {t s : Int} (h : ¬ atS rows t s < rows.length) : lenS rows t s = 0 := by unfold lenS; rw [dif_neg h]
theorem allR_take (rows : List Rw) (k : Nat) (h : k < rows.length) : allR (rows.take (k + 1)) = allR (rows.take k) + rows[k].jobs.length := by
  unfold allR; rw [List.take_succ_eq_append_getElem h, List.map_append, List.sum_append]; simp
theorem allR_take_le (rows : List Rw) (k : Nat) : allR (rows.take k) ≤ allR rows := by
  unfold allR
  conv => rhs; rw [← List.take_append_drop k rows]
  rw [List.map_append, List.sum_append]; omega
set_option maxRecDepth 100000 in
set_option maxHeartbeats 8000000 in
theorem alike_any (w0 : World) (qb mb : Nat) (X : List (Nat × Obj)) (rows : List Rw) (ws : List (Int × Int)) (bs : List Bool) (t s : Int) (w : World) (h : StC w0 qb mb X rows ws bs rows ws bs w) (hl : allR rows ≤ 4398046511104) (hb64 : bs.length ≤ 64) :
    Calls Tryd.prog 20 #[.pointer (some ⟨mb, 0, none⟩), .pointer (some ⟨qb, 0, none⟩), .agg #[.int .i64 t, .int .i64 s]] w fun e w' => e = .returned (.bool true) ∧ Below w.heap.size w w' := by
  obtain ⟨F, G, hq, ⟨RS, hRS, hm⟩, hinv, _⟩ := id h
  subst hRS
  have hlen := len_le_all hinv.jobs
  have hrl : (rowsOf RS).length = RS.length := by unfold rowsOf; simp
  have hRl : RS.length ≤ 4398046511104 := by omega
  have hb0 : Below w.heap.size w (w.alloc (.cells #[.int .i64 t, .int .i64 s] 29)) := (Below.refl _ _).alloc (Nat.le_refl _) _
  have HB0 := Lib.hid hb0
  have HQ := Lib.hid (show ∀ W, Below (w.alloc (.cells #[.int .i64 t, .int .i64 s] 29)).heap.size (w.alloc (.cells #[.int .i64 t, .int .i64 s] 29)) W → Qs W qb F (rowsOf RS) ws bs from fun W hb => (hq.below hb0).below hb)
  have HM := Lib.hid (show ∀ W, Below (w.alloc (.cells #[.int .i64 t, .int .i64 s] 29)).heap.size (w.alloc (.cells #[.int .i64 t, .int .i64 s] 29)) W → MS W mb G RS ws bs from fun W hb => (hm.below hb0).below hb)
  have hFn : (readyF 0 (rowsOf RS)).length = (readyS (rowsOf RS)).length := readyF_len _ _
  have HFN := Lib.hid hFn
  have hRn : (readyS (rowsOf RS)).length ≤ 4398046511104 := by have := readyS_len (rowsOf RS); omega
  have HINV := Lib.hid hinv
  have HRD := Lib.hid (ready_q (HQ.out _ (Below.refl _ _)) hinv hl)
  have hre : ∀ (J : Nat) (hJ : J < RS.length) (hJ' : J < (rowsOf RS).length), (rowsOf RS)[J] = RS[J].1 := fun J hJ hJ' => by
    have e1 : (rowsOf RS)[J]? = some RS[J].1 := by simp [rowsOf, List.getElem?_eq_getElem hJ]
    rw [List.getElem?_eq_getElem hJ'] at e1
    exact Option.some.inj e1
  have HRE := Lib.hid hre
  have HRL := Lib.hid hrl
  clear h hq hm hinv hb0 hFn hlen hre hrl
  go_enter Tryd.func20, Tryd.ntmps20
  go_wp2_with fail
  refine HRD.out.mono ?_
  rintro e w2 ⟨ra, rc, rfl, hmr, hb2⟩
  have HMR := Lib.hid hmr
  have HB2 := Lib.hid hb2
  have HMD := Lib.hid (mready_any mb G RS ws bs w2 (HM.out w2 hb2) hRl)
  rw [HFN.out] at HMD
  clear hmr hb2
  go_wp2_with fail
  refine HMD.out.mono ?_
  rintro e w3 ⟨ia, ic, rfl, him, hb3⟩
  have HIM := Lib.hid him
  have HMR3 := Lib.hid (HMR.out.below hb3 fun k hk => (HMR.out.lt k hk).2)
  have HB3 := Lib.hid (HB2.out.trans (hb3.mono HB2.out.size))
  obtain ⟨n, hn⟩ : ∃ n, n = (readyS (rowsOf RS)).length := ⟨_, rfl⟩
  have HN := Lib.hid hn
  rw [← hn] at HIM HMR3 hRn ⊢
  have hIl := (Sl.ofMid HIM.out).lenI
  clear him hb3 hn HMR HMD HRD HB2
  go_wp2_with fail
  go_loopw [9] (fun iv wr => ∃ k : Nat, k ≤ n ∧ iv = .int .i64 k ∧ Below w3.heap.size w3 wr) (fun iv _ => n - (intOf iv).toNat)
  case atStart => exact ⟨0, Nat.zero_le _, rfl, Below.refl _ _⟩
  case round =>
    obtain ⟨k, hk, rfl, hb⟩ := hrel
    have HB := Lib.hid hb
    by_cases hlt : k < n
    · have hsl := (Sl.ofMid HMR3.out).below hb
      have hil := (Sl.ofMid HIM.out).below hb
      rw [HN.out] at hsl hil
      obtain ⟨rb, ro, e1, _, x0, x1⟩ := key_get hsl k (by rw [← HN.out]; exact hlt)
      rw [← HFN.out] at hil
      obtain ⟨ib, io, e2, _, y0⟩ := one_get hil k (by rw [HFN.out, ← HN.out]; exact hlt)
      obtain ⟨J, hJ⟩ : ∃ J, J = (readyF 0 (rowsOf RS))[k]'(by rw [HFN.out, ← HN.out]; exact hlt) := ⟨_, rfl⟩
      obtain ⟨r, _, hr1, _, hr2⟩ := readyF_at 0 (rowsOf RS) k J (by rw [hJ]; exact List.getElem?_eq_getElem _)
      rw [Nat.sub_zero] at hr1
      obtain ⟨hJl, hJe⟩ := List.getElem?_eq_some_iff.1 hr1
      have hJR : J < RS.length := by rw [← HRL.out]; exact hJl
      have hkr : (readyS (rowsOf RS))[k]'(by rw [← HN.out]; exact hlt) = keyOf r := by
        rw [List.getElem?_eq_getElem (by rw [← HN.out]; exact hlt)] at hr2; exact Option.some.inj hr2
      have hrJ : RS[J].1 = r := (HRE.out J hJR hJl).symm.trans hJe
      rw [hkr] at x0 x1
      rw [← hJ] at y0
      unfold NV at y0
      obtain ⟨kb, ko, kc, jb, jo, jc, tb, to_, tc, R⟩ := (HM.out wr (HB3.out.trans (hb.mono HB3.out.size))).row J hJR
      have c0 := R.c0
      have z0 := R.k0 hJR
      have z1 := R.k1 hJR
      rw [hrJ] at z0 z1
      have hlR := R.len
      obtain ⟨tr, htr⟩ : ∃ tr, tr = r.t := ⟨_, rfl⟩
      obtain ⟨sr, hsr⟩ : ∃ sr, sr = r.s := ⟨_, rfl⟩
      simp only [keyOf] at x0 x1
      rw [← htr] at x0 z0
      rw [← hsr] at x1 z1
      have i0 : (0 : Int) ≤ (k : Int) := by omega
      have i1 : (k : Int) < (n : Int) := by omega
      have j0 : (0 : Int) ≤ (J : Int) := by omega
      have j1 : (J : Int) < (RS.length : Int) := by omega
      have b1 : (tr == tr) = true := by simp
      have b2 : (sr == sr) = true := by simp
      cases e1
      cases e2
      clear hb hsl hil hJ hr1 hr2 hJe hkr hrJ R htr hsr
      go_wp2_with fail
      go_quiet (fail)
      go_wp2
      go_roundw
      case rel => exact ⟨k + 1, by omega, by go_num, Below.dr HB.out⟩
      case measure => simp [intOf]; omega
    · have hge : (n : Int) ≤ (k : Int) := by omega
      clear hb
      obtain ⟨w4, rfl⟩ : ∃ w4 : World, w4 = wr := ⟨_, rfl⟩
      go_wp2_with fail
      go_loopw [10, 11] (fun av iv wr => ∃ i : Nat, i ≤ RS.length ∧ iv = .int .i64 i ∧ av = .int .i64 (allR ((rowsOf RS).take i)) ∧ Below w3.heap.size w3 wr) (fun _ iv _ => RS.length - (intOf iv).toNat)
      case atStart => exact ⟨0, Nat.zero_le _, rfl, rfl, HB.out⟩
      case round =>
        obtain ⟨i, hi, rfl, rfl, hb⟩ := hrel
        have HB5 := Lib.hid hb
        have hms := HM.out wr (HB3.out.trans (hb.mono HB3.out.size))
        by_cases hlt2 : i < RS.length
        · have ha := allR_take (rowsOf RS) i (by rw [HRL.out]; exact hlt2)
          have hle := allR_take_le (rowsOf RS) (i + 1)
          rw [HRE.out i hlt2] at ha
          rw [ha] at hle
          have HA := Lib.hid ha
          have hrow := lenS_row HINV.out.keys (List.getElem_mem (show i < (rowsOf RS).length by rw [HRL.out]; exact hlt2))
          rw [HRE.out i hlt2] at hrow
          obtain ⟨kb, ko, kc, jb, jo, jc, tb, to_, tc, R⟩ := hms.row i hlt2
          obtain ⟨va, vc, hv⟩ := (R.jobs hlt2).slice
          obtain ⟨vl, hvl⟩ : ∃ vl, vl = RS[i].1.jobs.length := ⟨_, rfl⟩
          obtain ⟨ti, hti⟩ : ∃ ti, ti = RS[i].1.t := ⟨_, rfl⟩
          obtain ⟨si, hsi⟩ : ∃ si, si = RS[i].1.s := ⟨_, rfl⟩
          have c0 := R.c0
          have c1 := R.c1
          have k0 := R.k0 hlt2
          have k1 := R.k1 hlt2
          have j0 := R.j hlt2
          rw [hv] at j0
          rw [← hvl] at j0 hrow hle HA
          rw [← hti] at k0 hrow
          rw [← hsi] at k1 hrow
          have hlR := R.len
          have HROW := Lib.hid hrow
          have i0 : (0 : Int) ≤ (i : Int) := by omega
          have i1 : (i : Int) < (RS.length : Int) := by omega
          have hmlt := World.block_lt_of_cell? _ _ c0
          have hklt := World.block_lt_of_cell? _ _ k0
          have hjlt := World.block_lt_of_cell? _ _ j0
          have HKS := Lib.hid (show ∀ W, Below wr.heap.size wr W → (W.cell? ⟨mb, 0, none⟩ = some (.slice (some ⟨kb, ko, none⟩) RS.length kc) ∧ W.cell? ⟨mb, 1, none⟩ = some (.slice (some ⟨jb, jo, none⟩) RS.length jc) ∧ W.cell? ⟨kb, ko + i * 2, none⟩ = some (.int .i64 ti) ∧ W.cell? ⟨kb, ko + i * 2 + 1, none⟩ = some (.int .i64 si) ∧ W.cell? ⟨jb, jo + i, none⟩ = some (.slice va vl vc) ∧ Below w3.heap.size w3 W) from fun W hbw => ⟨(hbw.cell (p := ⟨mb, 0, none⟩) hmlt).trans c0, (hbw.cell (p := ⟨mb, 1, none⟩) hmlt).trans c1, (hbw.cell (p := ⟨kb, ko + i * 2, none⟩) hklt).trans k0, (hbw.cell (p := ⟨kb, ko + i * 2 + 1, none⟩) hklt).trans k1, (hbw.cell (p := ⟨jb, jo + i, none⟩) hjlt).trans j0, HB5.out.trans (hbw.mono HB5.out.size)⟩)
          have HLN := Lib.hid (show ∀ W, Below w3.heap.size w3 W → Calls Tryd.prog 18 #[.pointer (some ⟨qb, 0, none⟩), .agg #[.int .i64 ti, .int .i64 si]] W fun e w' => e = .returned (.int .i64 vl) ∧ Below W.heap.size W w' from fun W hbw => (len_q (HQ.out W (HB3.out.trans (hbw.mono HB3.out.size))) ti si).mono fun e w' ⟨he, hb'⟩ => ⟨by rw [he, HROW.out], hb'⟩)
          have b1 : ((vl : Int) == (vl : Int)) = true := by simp
          have b2 : ((vl : Int) != (vl : Int)) = false := by simp
          generalize allR ((rowsOf RS).take i) = C at *
          clear ha hrow hms R hv hvl hti hsi hb
          go_upto_region 14 with fail
          have hqd : Below wr.heap.size wr wr.drew := (Below.refl _ _).drew
          go_region_held3 (fun W => W.cell? ⟨mb, 0, none⟩ = some (.slice (some ⟨kb, ko, none⟩) RS.length kc) ∧ W.cell? ⟨mb, 1, none⟩ = some (.slice (some ⟨jb, jo, none⟩) RS.length jc) ∧ W.cell? ⟨kb, ko + i * 2, none⟩ = some (.int .i64 ti) ∧ W.cell? ⟨kb, ko + i * 2 + 1, none⟩ = some (.int .i64 si) ∧ W.cell? ⟨jb, jo + i, none⟩ = some (.slice va vl vc) ∧ Below w3.heap.size w3 W) (exact HKS.out _ (by first | assumption | (exact Below.trans hqd (by assumption)))) (first
            | (go_at_call 18; refine (HLN.out _ (by go_split_ands; assumption)).mono ?_; rintro e w15 ⟨rfl, hb15⟩))
          all_goals
            go_wp2
            go_roundw
            case rel => exact ⟨i + 1, by omega, by go_num, by rw [HA.out]; go_num, by go_split_ands; assumption⟩
            case measure => simp [intOf]; omega
        · obtain rfl : i = RS.length := by omega
          have htk : (rowsOf RS).take RS.length = rowsOf RS := by rw [← HRL.out, List.take_length]
          rw [htk]
          obtain ⟨xka, xja, xta, xha, xba, xkc, xjc, xtc, xhc, xbc, r⟩ := hms.read
          have c0 := r.c0
          have hlR := r.keys.lenI.1
          have hge2 : ¬ (RS.length : Int) < (RS.length : Int) := by omega
          clear hb hms r htk
          obtain ⟨w5, rfl⟩ : ∃ w5 : World, w5 = wr := ⟨_, rfl⟩
          go_wp2_with fail
          clear c0
          go_loopw [12] (fun iv wr => ∃ i : Nat, i ≤ bs.length + 2 ∧ iv = .int .i64 ((i : Int) - 1) ∧ Below w3.heap.size w3 wr) (fun iv _ => bs.length + 2 - (intOf iv + 1).toNat)
          case atStart => exact ⟨0, by omega, rfl, HB5.out⟩
          case round =>
            obtain ⟨i, hi, rfl, hb⟩ := hrel
            have HB6 := Lib.hid hb
            have hms := HM.out wr (HB3.out.trans (hb.mono HB3.out.size))
            obtain ⟨xka, xja, xta, xha, xba, xkc, xjc, xtc, xhc, xbc, r⟩ := hms.read
            have c4 := r.c4
            have hlB := r.busy.lenI.1
            have HBQ := Lib.hid (busy_q (HQ.out wr (HB3.out.trans (hb.mono HB3.out.size))) ((i : Int) - 1))
            have hw1 : IntKind.i64.wrap ((i : Int) - 1 + 1) = (i : Int) - 1 + 1 := by rw [IntKind.wrap_i64]; omega
            by_cases hlt3 : i ≤ bs.length + 1
            · rcases Nat.eq_zero_or_pos i with hi0 | hip
              · subst hi0
                have hbz : busyB bs (((0 : Nat) : Int) - 1) = false := by unfold busyB; rw [decide_eq_false (by omega)]; rfl
                rw [hbz] at HBQ
                have g1 : ((0 : Nat) : Int) - 1 ≤ (bs.length : Int) := by omega
                have g2 : ¬ (0 : Int) ≤ ((0 : Nat) : Int) - 1 := by omega
                clear hb hms r hbz
                go_wp2_with fail
                refine HBQ.out.mono ?_
                rintro e w7 ⟨rfl, rfl⟩
                go_wp2
                go_roundw
                case rel => exact ⟨1, by omega, by go_num, HB6.out⟩
                case measure => simp [intOf] <;> omega
              · obtain ⟨m, hm⟩ : ∃ m, i = m + 1 := ⟨i - 1, by omega⟩
                subst hm
                have hcast : (((m + 1 : Nat) : Int) - 1) = (m : Int) := by omega
                rw [hcast] at HBQ hw1 ⊢
                have g1 : (m : Int) ≤ (bs.length : Int) := by omega
                have g2 : (0 : Int) ≤ (m : Int) := by omega
                by_cases hmb : m < bs.length
                · obtain ⟨zb, zo, rfl, _, z0⟩ := one_get r.busy m hmb
                  have hbz : busyB bs (m : Int) = bs[m] := by
                    have := busyB_get (bs := bs) (n := (m : Int)) (by omega) (by omega)
                    rw [Int.toNat_natCast, List.getElem?_eq_getElem hmb] at this
                    exact (Option.some.inj this).symm
                  rw [hbz] at HBQ
                  have g3 : (m : Int) < (bs.length : Int) := by omega
                  generalize bs[m] = zz at *
                  have b1 : (zz == zz) = true := by simp
                  have b2 : (zz != zz) = false := by simp
                  clear hb hms r hbz hcast
                  go_wp2_with fail
                  refine HBQ.out.mono ?_
                  rintro e w7 ⟨rfl, rfl⟩
                  go_wp2
                  go_roundw
                  case rel => exact ⟨m + 2, by omega, by go_num, HB6.out⟩
                  case measure => simp [intOf]; omega
                · have hbz : busyB bs (m : Int) = false := by unfold busyB; rw [decide_eq_false (by omega)]; rfl
                  rw [hbz] at HBQ
                  have g3 : ¬ (m : Int) < (bs.length : Int) := by omega
                  have g4 : (bs.length : Int) ≤ (m : Int) := by omega
                  clear hb hms r hbz hcast
                  go_wp2_with fail
                  refine HBQ.out.mono ?_
                  rintro e w7 ⟨rfl, rfl⟩
                  go_wp2
                  go_roundw
                  case rel => exact ⟨m + 2, by omega, by go_num, HB6.out⟩
                  case measure => simp [intOf]; omega
            · have g1 : ¬ ((i : Int) - 1 ≤ (bs.length : Int)) := by omega
              have HAL := Lib.hid (all_q (HQ.out wr (HB3.out.trans (hb.mono HB3.out.size))) hl)
              clear hb hms r HBQ hw1
              go_wp2_with fail
              refine HAL.out.mono ?_
              rintro e w8 ⟨rfl, hb8⟩
              have HB8 := Lib.hid (HB6.out.trans (hb8.mono HB6.out.size))
              have HB80 := Lib.hid (HB3.out.trans (HB8.out.mono HB3.out.size))
              have x0 : w8.cell? ⟨w.heap.size, 0, none⟩ = some (.int .i64 t) := (HB80.out.cell (p := ⟨w.heap.size, 0, none⟩) (by simp)).trans (by simp)
              have x1 : w8.cell? ⟨w.heap.size, 1, none⟩ = some (.int .i64 s) := (HB80.out.cell (p := ⟨w.heap.size, 1, none⟩) (by simp)).trans (by simp)
              have HAT := Lib.hid (mat_any mb G RS ws bs t s w8 (HM.out w8 HB80.out))
              have b0 : ((allR (rowsOf RS) : Int) == (allR (rowsOf RS) : Int)) = true := by simp
              clear hb8
              go_wp2_with fail
              refine HAT.out.mono ?_
              rintro e w9 ⟨rfl, hb9⟩
              have HB9 := Lib.hid (HB80.out.trans (hb9.mono HB80.out.size))
              clear hb9 x0 x1
              by_cases hh : atR RS t s < RS.length
              · have hv : atV RS t s = (atR RS t s : Int) := by unfold atV; rw [if_pos hh]
                rw [hv]
                have g2 : (0 : Int) ≤ (atR RS t s : Int) := by omega
                clear hv
                go_wp2
                go_ret
                exact ⟨by simp, HB0.out.trans (HB9.out.mono HB0.out.size)⟩
              · have hv : atV RS t s = -1 := by unfold atV; rw [if_neg hh]
                rw [hv]
                have hl0 : lenS (rowsOf RS) t s = 0 := lenS_none (by rw [atS_of, HRL.out]; exact hh)
                have HLL := Lib.hid (len_q (HQ.out w9 HB9.out) t s)
                rw [hl0] at HLL
                have x0 : w9.cell? ⟨w.heap.size, 0, none⟩ = some (.int .i64 t) := (HB9.out.cell (p := ⟨w.heap.size, 0, none⟩) (by simp)).trans (by simp)
                have x1 : w9.cell? ⟨w.heap.size, 1, none⟩ = some (.int .i64 s) := (HB9.out.cell (p := ⟨w.heap.size, 1, none⟩) (by simp)).trans (by simp)
                clear hv hl0 hh
                go_wp2_with fail
                refine HLL.out.mono ?_
                rintro e w10 ⟨rfl, hb10⟩
                have HB10 := Lib.hid (HB9.out.trans (hb10.mono HB9.out.size))
                clear hb10
                go_wp2
                go_ret
                exact ⟨by simp, HB0.out.trans (HB10.out.mono HB0.out.size)⟩
end Go.Proofs.YtkbopcgijaejjaaDoor
