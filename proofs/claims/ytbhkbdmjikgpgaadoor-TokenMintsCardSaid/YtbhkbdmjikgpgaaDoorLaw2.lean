/-
  The walk of TokenTenants: it answers true; the conditions: what errors.errorType holds; lengths of texts; how long the scripts are.
  Printed by a program of this repository (wip/tok13.py).
-/
import Derived.Test.YtbhkbdmjikgpgaaDoorLaw1
namespace Go.Proofs.YtbhkbdmjikgpgaaDoor
open Go.RowKit Go.Extern.Stop Go.Stop Go.Extern

/-- A tenant's tokens. -/
def mine (l : List Gr) (n : Int) : List Gr := l.filter fun g => g.who == n
theorem cnt_mine (l : List Gr) (n : Int) : cnt l n = (mine l n).length := List.countP_eq_length_filter
theorem hit_of_mem {l : List Gr} (h : Okl l) {g : Gr} {t : ByteArray} (hg : g ∈ l) (ht : g.tok = t) : hit l t = some g := by
  cases hh : hit l t with
  | none => exact absurd ht ((hit_none_iff l t).1 hh g hg)
  | some g' =>
    obtain ⟨i, hi, e, _, _, hall⟩ := h.first hh
    obtain ⟨j, hj, rfl⟩ := List.mem_iff_getElem.1 hg
    by_cases hij : j = i
    · subst hij; rw [e]
    · exact absurd ht (hall j hj hij)
theorem hit_mem {l : List Gr} (h : Okl l) {g : Gr} {t : ByteArray} (hh : hit l t = some g) : g ∈ l ∧ g.tok = t := by
  obtain ⟨i, hi, e, ht, _, _⟩ := h.first hh
  exact ⟨e ▸ List.getElem_mem hi, ht⟩
theorem step_mine {l : List Gr} (h : Okl l) (d u r : Int) (t : ByteArray) (n : Int) (hu : u ≠ n) : mine (step l d u r t) n = mine l n := by
  unfold step
  split
  · split
    · unfold mine
      rw [List.filter_append]
      have : ((⟨t, u, r⟩ : Gr).who == n) = false := beq_eq_false_iff_ne.2 hu
      simp [this]
    · rfl
  · split
    · split
      · rename_i g hh
        split
        · rename_i hgu
          unfold mine less
          rw [List.filter_filter]
          refine List.filter_congr fun x hx => ?_
          by_cases hxn : x.who = n
          · have hxt : x.tok ≠ t := fun e => by
              have := hit_of_mem h hx e
              rw [hh] at this
              cases this
              omega
            simp [hxt]
          · have : (x.who == n) = false := beq_eq_false_iff_ne.2 hxn
            simp [this]
        · rfl
      · rfl
    · rfl
theorem find_gen (jb : Nat) (F : Nat → Prop) (l : List Gr) (t : ByteArray) (w : World) (h : Bk w jb F l) (ht : t.size ≤ maxLen) :
    Calls Tryd.prog 12 #[.pointer (some ⟨jb, 0, none⟩), .string t] w fun e w' => e = .returned (.tuple #[.int .i64 (hw (hit l t)), .int .i64 (hr (hit l t)), .bool (hit l t).isSome]) ∧ Below w.heap.size w w' := by
  obtain ⟨a, c, h1, h2⟩ := h.read
  exact find_any jb a c l t w h1 h2 ht

/-- A loop over acts. -/
def ActRel (w : World) (jb n : Nat) (lv iv : Value) (wr : World) : Prop :=
  ∃ (k : Nat) (G : Nat → Prop) (l : List Gr) (a : Option Addr) (c : Nat), k ≤ n ∧ iv = .int .i64 k ∧ lv = .slice a l.length c ∧ St w jb G l a c wr ∧ l.length ≤ k
/-- The loop over other tenants' acts. -/
def MoreRel (w : World) (jb n n0 : Nat) (m : Int) (L0 : List Gr) (lv iv : Value) (wr : World) : Prop :=
  ∃ (k : Nat) (G : Nat → Prop) (l : List Gr) (a : Option Addr) (c : Nat), k ≤ n ∧ iv = .int .i64 k ∧ lv = .slice a l.length c ∧ St w jb G l a c wr ∧ mine l m = L0 ∧ l.length ≤ n0 + k


set_option maxRecDepth 100000 in
set_option maxHeartbeats 8000000 in
theorem tokenTenants_slices (a1 a2 : Option Addr) (c1 c2 : Nat) (xs ys : List Ac) (n : Int) (t : ByteArray) (w : World) (hg : Hg w) (hx : Acts w (.slice a1 xs.length c1) xs) (hy : Acts w (.slice a2 ys.length c2) ys) (ht : t.size ≤ maxLen) (hs1 : xs.length * 40 ≤ 140737488351232) (hs2 : ys.length * 40 ≤ 140737488351232) :
    Calls Tryd.prog 4 #[.slice a1 xs.length c1, .slice a2 ys.length c2, .int .i64 n, .string t] w (Yes w) := by
  have HAW := Lib.hid (awake_any w hg)
  have HX := Lib.hid hx
  have HY := Lib.hid hy
  have HT := Lib.hid ht
  have HG := Lib.hid hg
  clear hx hy ht hg
  go_enter Tryd.func4, Tryd.ntmps4
  go_wp2_with fail
  refine HAW.out.mono ?_
  rintro e w1 ⟨rfl, hb1⟩
  have HS0 := Lib.hid (St.new hb1)
  clear hb1
  go_wp2_with fail
  go_loopw [10, 11] (fun lv iv wr => ActRel w w1.heap.size xs.length lv iv wr) (fun _ iv _ => xs.length - (intOf iv).toNat)
  case atStart => exact ⟨0, _, [], none, 0, Nat.zero_le _, rfl, rfl, HS0.out, by simp⟩
  case round =>
    obtain ⟨k, G, l, a, c, hk, rfl, rfl, hst, hl⟩ := hrel
    by_cases hlt : k < xs.length
    · obtain ⟨b, o, rfl, k0, k1, k2, k3, hok⟩ := HX.out.get hst.world k hlt
      have i0 : (0 : Int) ≤ (k : Int) := by omega
      have i1 : (k : Int) < (xs.length : Int) := by omega
      have HOK := Lib.hid hok
      clear hok
      generalize xs[k] = X at *
      obtain ⟨d, u, r, t'⟩ := X
      simp only at k0 k1 k2 k3
      have HDO := Lib.hid (does_any w w1.heap.size G l a c d u r t' wr (HG.out.below hst.world HG.out.lt) hst HOK.out.2.2.2 (by omega))
      have HSL := Lib.hid (step_len l d u r t')
      clear hst
      go_wp2_with fail
      refine HDO.out.mono ?_
      rintro e w5 ⟨a5, c5, G5, rfl, hs5, _, _⟩
      have HS5 := Lib.hid hs5
      clear hs5
      go_wp2
      go_roundw
      case rel => exact ⟨k + 1, G5, _, a5, c5, by omega, by go_num, rfl, HS5.out, by have := HSL.out; omega⟩
      case measure => simp [intOf]; omega
    · have HSTL := Lib.hid hst
      obtain ⟨F, hbk, _⟩ := id hst
      have HBK := Lib.hid hbk
      have hcl := cnt_le l n
      clear hst hbk
      go_wp2_with fail
      refine (count_any w1.heap.size F l n wr HBK.out).mono ?_
      rintro e w3 ⟨rfl, hb3⟩
      have hbk3 := HBK.out.below hb3
      have HST3 := Lib.hid (HSTL.out.below hb3)
      clear hb3
      go_wp2_with fail
      cases hh : hit l t with
      | none =>
        have HH := Lib.hid hh
        clear hh
        refine (find_none w1.heap.size F l t w3 hbk3 HT.out HH.out).mono ?_
        rintro e w4 ⟨rfl, hb4⟩
        have HST4 := Lib.hid (HST3.out.below hb4)
        clear hbk3 hb4
        go_wp2_with fail
        go_loopw [10, 16] (fun lv iv wr => MoreRel w w1.heap.size ys.length xs.length n (mine l n) lv iv wr) (fun _ iv _ => ys.length - (intOf iv).toNat)
        case atStart => exact ⟨0, G, l, a, c, Nat.zero_le _, rfl, rfl, HST4.out, rfl, by omega⟩
        case round =>
          obtain ⟨wq, rfl⟩ : ∃ wq : World, wq = wr := ⟨_, rfl⟩
          obtain ⟨k2, G2, l2, a2', c2', hk2, rfl, rfl, hst5, hmi2, hl2⟩ := hrel
          have HST5 := Lib.hid hst5
          have HMI2 := Lib.hid hmi2
          clear hst5 hmi2
          by_cases hlt2 : k2 < ys.length
          · obtain ⟨b', o', e2, q0, q1, q2, q3, hok⟩ := HY.out.get HST5.out.world k2 hlt2
            have e2' := e2
            cases e2'
            have i0 : (0 : Int) ≤ (k2 : Int) := by omega
            have i1 : (k2 : Int) < (ys.length : Int) := by omega
            have HOK := Lib.hid hok
            clear hok e2
            generalize ys[k2] = Y at *
            obtain ⟨d, u, r, t'⟩ := Y
            simp only at q0 q1 q2 q3
            have hdd : (u = n ∨ d = 3) ∨ (u ≠ n ∧ d ≠ 3) := by omega
            rcases hdd with hdd | ⟨hu, hd⟩
            · by_cases hu : u = n
              · have hub : (u != n) = false := by rw [hu]; simp
                clear hdd hu
                go_wp2
                go_roundw
                case rel => exact ⟨k2 + 1, G2, l2, a2', c2', by omega, by go_num, rfl, HST5.out, HMI2.out, by omega⟩
                case measure => simp [intOf]; omega
              · have hub : (u != n) = true := bne_iff_ne.2 hu
                have hd : d = 3 := by omega
                have hdb : (d != 3) = false := by rw [hd]; rfl
                clear hdd hu hd
                go_wp2
                go_roundw
                case rel => exact ⟨k2 + 1, G2, l2, a2', c2', by omega, by go_num, rfl, HST5.out, HMI2.out, by omega⟩
                case measure => simp [intOf]; omega
            · have hub : (u != n) = true := bne_iff_ne.2 hu
              have hdb : (d != 3) = true := bne_iff_ne.2 hd
              have HDO := Lib.hid (does_any w w1.heap.size G2 l2 a2' c2' d u r t' wq (HG.out.below HST5.out.world HG.out.lt) HST5.out HOK.out.2.2.2 (by omega))
              have HSL := Lib.hid (step_len l2 d u r t')
              have HSM := Lib.hid (step_mine HST5.out.okl d u r t' n hu)
              clear hu hd
              go_wp2_with fail
              refine HDO.out.mono ?_
              rintro e w7 ⟨a7, c7, G7, rfl, hs7, _, _⟩
              have HS7 := Lib.hid hs7
              clear hs7
              go_wp2
              go_roundw
              case rel => exact ⟨k2 + 1, G7, _, a7, c7, by omega, by go_num, rfl, HS7.out, HSM.out.trans HMI2.out, by have := HSL.out; omega⟩
              case measure => simp [intOf]; omega
          obtain ⟨F2, hbk5, _⟩ := id HST5.out
          have hcc : cnt l2 n = cnt l n := by rw [cnt_mine, cnt_mine, HMI2.out]
          have HCC := Lib.hid hcc
          have HBK5 := Lib.hid hbk5
          clear hcc
          go_wp2_with fail
          refine (find_gen w1.heap.size F2 l2 t wq hbk5 HT.out).mono ?_
          rintro e w6 ⟨rfl, hb6⟩
          have HBK6 := Lib.hid (HBK5.out.below hb6)
          have HW6 := Lib.hid ((HST5.out.below hb6).world)
          clear hbk5 hb6
          go_wp2_with fail
          refine (count_any w1.heap.size F2 l2 n w6 HBK6.out).mono ?_
          rintro e w7 ⟨rfl, hb7⟩
          have HW7 := Lib.hid (HW6.out.trans (hb7.mono HW6.out.size))
          rw [HCC.out]
          clear hb7
          go_wp2
          go_ret
          exact ⟨rfl, HW7.out⟩
      | some g =>
        have HH := Lib.hid hh
        clear hh
        by_cases hgn : g.who = n
        · have HGN := Lib.hid hgn
          clear hgn
          have hgb : (g.who != n) = false := by rw [HGN.out]; simp
          refine (find_some w1.heap.size F l t g w3 hbk3 HT.out HH.out).mono ?_
          rintro e w4 ⟨rfl, hb4⟩
          have HST4 := Lib.hid (HST3.out.below hb4)
          clear hbk3 hb4
          go_wp2_with fail
          go_loopw [10, 16] (fun lv iv wr => MoreRel w w1.heap.size ys.length xs.length n (mine l n) lv iv wr) (fun _ iv _ => ys.length - (intOf iv).toNat)
          case atStart => exact ⟨0, G, l, a, c, Nat.zero_le _, rfl, rfl, HST4.out, rfl, by omega⟩
          case round =>
            obtain ⟨wq, rfl⟩ : ∃ wq : World, wq = wr := ⟨_, rfl⟩
            obtain ⟨k2, G2, l2, a2', c2', hk2, rfl, rfl, hst5, hmi2, hl2⟩ := hrel
            have HST5 := Lib.hid hst5
            have HMI2 := Lib.hid hmi2
            clear hst5 hmi2
            by_cases hlt2 : k2 < ys.length
            · obtain ⟨b', o', e2, q0, q1, q2, q3, hok⟩ := HY.out.get HST5.out.world k2 hlt2
              have e2' := e2
              cases e2'
              have i0 : (0 : Int) ≤ (k2 : Int) := by omega
              have i1 : (k2 : Int) < (ys.length : Int) := by omega
              have HOK := Lib.hid hok
              clear hok e2
              generalize ys[k2] = Y at *
              obtain ⟨d, u, r, t'⟩ := Y
              simp only at q0 q1 q2 q3
              have hdd : (u = n ∨ d = 3) ∨ (u ≠ n ∧ d ≠ 3) := by omega
              rcases hdd with hdd | ⟨hu, hd⟩
              · by_cases hu : u = n
                · have hub : (u != n) = false := by rw [hu]; simp
                  clear hdd hu
                  go_wp2
                  go_roundw
                  case rel => exact ⟨k2 + 1, G2, l2, a2', c2', by omega, by go_num, rfl, HST5.out, HMI2.out, by omega⟩
                  case measure => simp [intOf]; omega
                · have hub : (u != n) = true := bne_iff_ne.2 hu
                  have hd : d = 3 := by omega
                  have hdb : (d != 3) = false := by rw [hd]; rfl
                  clear hdd hu hd
                  go_wp2
                  go_roundw
                  case rel => exact ⟨k2 + 1, G2, l2, a2', c2', by omega, by go_num, rfl, HST5.out, HMI2.out, by omega⟩
                  case measure => simp [intOf]; omega
              · have hub : (u != n) = true := bne_iff_ne.2 hu
                have hdb : (d != 3) = true := bne_iff_ne.2 hd
                have HDO := Lib.hid (does_any w w1.heap.size G2 l2 a2' c2' d u r t' wq (HG.out.below HST5.out.world HG.out.lt) HST5.out HOK.out.2.2.2 (by omega))
                have HSL := Lib.hid (step_len l2 d u r t')
                have HSM := Lib.hid (step_mine HST5.out.okl d u r t' n hu)
                clear hu hd
                go_wp2_with fail
                refine HDO.out.mono ?_
                rintro e w7 ⟨a7, c7, G7, rfl, hs7, _, _⟩
                have HS7 := Lib.hid hs7
                clear hs7
                go_wp2
                go_roundw
                case rel => exact ⟨k2 + 1, G7, _, a7, c7, by omega, by go_num, rfl, HS7.out, HSM.out.trans HMI2.out, by have := HSL.out; omega⟩
                case measure => simp [intOf]; omega
            obtain ⟨F2, hbk5, _⟩ := id HST5.out
            have hcc : cnt l2 n = cnt l n := by rw [cnt_mine, cnt_mine, HMI2.out]
            have HCC := Lib.hid hcc
            have HBK5 := Lib.hid hbk5
            clear hcc
            go_wp2_with fail
            have hg2 : g ∈ l2 := by
              have hgm := hit_mem HSTL.out.okl HH.out
              have : g ∈ mine l n := List.mem_filter.2 ⟨hgm.1, by simpa using HGN.out⟩
              rw [← HMI2.out] at this
              exact (List.mem_filter.1 this).1
            have hh2 : hit l2 t = some g := hit_of_mem HST5.out.okl hg2 (hit_mem HSTL.out.okl HH.out).2
            refine (find_some w1.heap.size F2 l2 t g wq hbk5 HT.out hh2).mono ?_
            clear hg2 hh2
            rintro e w6 ⟨rfl, hb6⟩
            have HBK6 := Lib.hid (HBK5.out.below hb6)
            have HW6 := Lib.hid ((HST5.out.below hb6).world)
            clear hbk5 hb6
            go_wp2_with fail
            refine (count_any w1.heap.size F2 l2 n w6 HBK6.out).mono ?_
            rintro e w7 ⟨rfl, hb7⟩
            have HW7 := Lib.hid (HW6.out.trans (hb7.mono HW6.out.size))
            rw [HCC.out]
            clear hb7
            go_wp2
            go_ret
            exact ⟨rfl, HW7.out⟩
        · have HGN := Lib.hid hgn
          clear hgn
          have hgb : (g.who != n) = true := bne_iff_ne.2 HGN.out
          refine (find_some w1.heap.size F l t g w3 hbk3 HT.out HH.out).mono ?_
          rintro e w4 ⟨rfl, hb4⟩
          have HST4 := Lib.hid (HST3.out.below hb4)
          clear hbk3 hb4
          go_wp2_with fail
          go_loopw [10, 16] (fun lv iv wr => MoreRel w w1.heap.size ys.length xs.length n (mine l n) lv iv wr) (fun _ iv _ => ys.length - (intOf iv).toNat)
          case atStart => exact ⟨0, G, l, a, c, Nat.zero_le _, rfl, rfl, HST4.out, rfl, by omega⟩
          case round =>
            obtain ⟨wq, rfl⟩ : ∃ wq : World, wq = wr := ⟨_, rfl⟩
            obtain ⟨k2, G2, l2, a2', c2', hk2, rfl, rfl, hst5, hmi2, hl2⟩ := hrel
            have HST5 := Lib.hid hst5
            have HMI2 := Lib.hid hmi2
            clear hst5 hmi2
            by_cases hlt2 : k2 < ys.length
            · obtain ⟨b', o', e2, q0, q1, q2, q3, hok⟩ := HY.out.get HST5.out.world k2 hlt2
              have e2' := e2
              cases e2'
              have i0 : (0 : Int) ≤ (k2 : Int) := by omega
              have i1 : (k2 : Int) < (ys.length : Int) := by omega
              have HOK := Lib.hid hok
              clear hok e2
              generalize ys[k2] = Y at *
              obtain ⟨d, u, r, t'⟩ := Y
              simp only at q0 q1 q2 q3
              have hdd : (u = n ∨ d = 3) ∨ (u ≠ n ∧ d ≠ 3) := by omega
              rcases hdd with hdd | ⟨hu, hd⟩
              · by_cases hu : u = n
                · have hub : (u != n) = false := by rw [hu]; simp
                  clear hdd hu
                  go_wp2
                  go_roundw
                  case rel => exact ⟨k2 + 1, G2, l2, a2', c2', by omega, by go_num, rfl, HST5.out, HMI2.out, by omega⟩
                  case measure => simp [intOf]; omega
                · have hub : (u != n) = true := bne_iff_ne.2 hu
                  have hd : d = 3 := by omega
                  have hdb : (d != 3) = false := by rw [hd]; rfl
                  clear hdd hu hd
                  go_wp2
                  go_roundw
                  case rel => exact ⟨k2 + 1, G2, l2, a2', c2', by omega, by go_num, rfl, HST5.out, HMI2.out, by omega⟩
                  case measure => simp [intOf]; omega
              · have hub : (u != n) = true := bne_iff_ne.2 hu
                have hdb : (d != 3) = true := bne_iff_ne.2 hd
                have HDO := Lib.hid (does_any w w1.heap.size G2 l2 a2' c2' d u r t' wq (HG.out.below HST5.out.world HG.out.lt) HST5.out HOK.out.2.2.2 (by omega))
                have HSL := Lib.hid (step_len l2 d u r t')
                have HSM := Lib.hid (step_mine HST5.out.okl d u r t' n hu)
                clear hu hd
                go_wp2_with fail
                refine HDO.out.mono ?_
                rintro e w7 ⟨a7, c7, G7, rfl, hs7, _, _⟩
                have HS7 := Lib.hid hs7
                clear hs7
                go_wp2
                go_roundw
                case rel => exact ⟨k2 + 1, G7, _, a7, c7, by omega, by go_num, rfl, HS7.out, HSM.out.trans HMI2.out, by have := HSL.out; omega⟩
                case measure => simp [intOf]; omega
            obtain ⟨F2, hbk5, _⟩ := id HST5.out
            have hcc : cnt l2 n = cnt l n := by rw [cnt_mine, cnt_mine, HMI2.out]
            have HCC := Lib.hid hcc
            have HBK5 := Lib.hid hbk5
            clear hcc
            go_wp2_with fail
            refine (find_gen w1.heap.size F2 l2 t wq hbk5 HT.out).mono ?_
            rintro e w6 ⟨rfl, hb6⟩
            have HBK6 := Lib.hid (HBK5.out.below hb6)
            have HW6 := Lib.hid ((HST5.out.below hb6).world)
            clear hbk5 hb6
            go_wp2_with fail
            refine (count_any w1.heap.size F2 l2 n w6 HBK6.out).mono ?_
            rintro e w7 ⟨rfl, hb7⟩
            have HW7 := Lib.hid (HW6.out.trans (hb7.mono HW6.out.size))
            rw [HCC.out]
            clear hb7
            go_wp2
            go_ret
            exact ⟨rfl, HW7.out⟩
theorem tokenTenants_any (v1 v2 : Value) (xs ys : List Ac) (n : Int) (t : ByteArray) (w : World) (hg : Hg w) (hx : Acts w v1 xs) (hy : Acts w v2 ys) (ht : t.size ≤ maxLen) (hs1 : xs.length * 40 ≤ 140737488351232) (hs2 : ys.length * 40 ≤ 140737488351232) :
    Calls Tryd.prog 4 #[v1, v2, .int .i64 n, .string t] w (Yes w) := by
  obtain ⟨a1, c1, rfl, _⟩ := Sl.len hx.1
  obtain ⟨a2, c2, rfl, _⟩ := Sl.len hy.1
  exact tokenTenants_slices a1 a2 c1 c2 xs ys n t w hg hx hy ht hs1 hs2
end Go.Proofs.YtbhkbdmjikgpgaaDoor
