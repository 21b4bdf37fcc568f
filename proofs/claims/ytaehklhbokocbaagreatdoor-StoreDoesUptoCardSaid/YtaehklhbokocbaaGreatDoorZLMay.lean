/-
  May of package prob by contract; the document's numbers are ints all along; the conditions are each law's own.
  Printed by a program of this repository (wip/law14.py).
-/
import Derived.Test.YtaehklhbokocbaaGreatDoorZM
import Derived.Test.YtaehklhbokocbaaGreatDoorZV
set_option linter.unusedVariables false
set_option linter.unusedSimpArgs false
namespace Go.Proofs.YtaehklhbokocbaaGreatDoor
open Go.RowKit Go.Extern.Stop Go.Stop Go.Extern
set_option maxRecDepth 100000 in
set_option maxHeartbeats 8000000 in
theorem may_any (w : World) (F : Nat → Prop) (ca ra : Option Addr) (cc rc : Nat) (cs : List Rv) (rows : List Rw) (c : List Rat) (rs : List AR) (h : PA w F ca ra cc rc cs rows c rs) (hc : c.length ≤ 24) (hr : rs.length ≤ 20) (hk : ∀ r, r ∈ rs → 1 ≤ r.kind ∧ r.kind ≤ 3) (hl : ∀ r, r ∈ rs → r.coef.length = c.length) :
    Calls Tryz.prog 67 #[.agg #[.slice ca cs.length cc, .slice ra rows.length rc]] w fun e w' => e = .returned .nilIface ∧ Below w.heap.size w w' := by
  obtain ⟨w1, hw1⟩ : ∃ w1, w.alloc (.cells #[.slice ca cs.length cc, .slice ra rows.length rc] 73) = w1 := ⟨_, rfl⟩
  obtain ⟨pb, hpb⟩ : ∃ pb, w.heap.size = pb := ⟨_, rfl⟩
  have hb1 : Below w.heap.size w w1 := by rw [← hw1]; exact belowBox w (.cells #[.slice ca cs.length cc, .slice ra rows.length rc] 73)
  have p0 : w1.cell? ⟨pb, 0, none⟩ = some (.slice ca cs.length cc) := by rw [← hw1, ← hpb]; simp
  have p1 : w1.cell? ⟨pb, 1, none⟩ = some (.slice ra rows.length rc) := by rw [← hw1, ← hpb]; simp
  have hpl : pb < w1.heap.size := by rw [← hw1, ← hpb]; simp
  have hcl : ¬ (24 : Int) < (cs.length : Int) := by have := h.clen; omega
  have hrl : ¬ (20 : Int) < (rows.length : Int) := by have := h.rlen; omega
  have hcc := h.costs.lenI
  have hrc := h.rowsl.lenI
  have HCL := Lib.hid h.clen
  have HRW := Lib.hid h.rws
  have HP := Lib.hid (h.below hb1)
  have HB1 := Lib.hid hb1
  have HW1 := Lib.hid hw1
  have HPB := Lib.hid hpb
  clear h hb1 hw1 hpb hc hr
  go_enter Tryz.func67, Tryz.ntmps67
  go_upto_region 1 with fail
  (try simp only [HW1.out, HPB.out])
  clear HW1
  go_wp2_with fail
  go_loopw [19] (fun iv wr => ∃ k : Nat, k ≤ rows.length ∧ iv = .int .i64 k ∧ Below w1.heap.size w1 wr) (fun iv _ => rows.length - (intOf iv).toNat)
  case atStart => exact ⟨0, Nat.zero_le _, rfl, Below.refl _ _⟩
  case round =>
    obtain ⟨k, hk9, rfl, hb⟩ := hrel
    have HB := Lib.hid hb
    by_cases hlt : k < rows.length
    · have q0 := (hb.cell (p := ⟨pb, 0, none⟩) hpl).trans p0
      have qa : ∀ o, (wr.alloc o).cell? ⟨pb, 0, none⟩ = some (.slice ca cs.length cc) := fun o => ((hb.alloc hb.size o).cell (p := ⟨pb, 0, none⟩) hpl).trans p0
      obtain ⟨b, o, e1, hbl, x0, x1, x2, x3, x4⟩ := prow_get (HP.out.below hb).rowsl k hlt
      obtain ⟨r, hr⟩ : ∃ r, r = rows[k] := ⟨_, rfl⟩
      have hrm : r ∈ rows := by rw [hr]; exact List.getElem_mem hlt
      have hra : r.ar ∈ rs := by rw [← HRW.out]; exact List.mem_map_of_mem hrm
      have hrk := hk r.ar hra
      have hrl9 := hl r.ar hra
      rw [← hr] at x0 x1 x2 x3 x4
      obtain ⟨rj, rcp, erv, hrv⟩ := (HP.out.below hb).rvec hrm
      rw [erv] at x0
      have hk1 : ¬ r.kind < 1 := by have := hrk.1; show ¬ r.kind < 1; simp only [Rw.ar] at this; omega
      have hk3 : ¬ 3 < r.kind := by have := hrk.2; simp only [Rw.ar] at this; omega
      have hne : ((r.coef.length : Int) != (cs.length : Int)) = false := by
        have h9 : r.coef.length = cs.length := by rw [HCL.out, ← hrl9]; simp [Rw.ar]
        rw [h9]; simp
      have i0 : (0 : Int) ≤ (k : Int) := by omega
      have i1 : (k : Int) < (rows.length : Int) := by omega
      subst e1
      clear hb hr hrm hra hrk hrl9 erv hrv
      go_wp2_with fail
      go_roundw
      case rel => exact ⟨k + 1, by omega, by go_num, by first | exact HB.out.alloc HB.out.size _ | exact (HB.out.alloc HB.out.size _).trans (Below.refl _ _)⟩
      case measure => simp [intOf]; omega
    · obtain rfl : k = rows.length := by omega
      clear hb
      go_wp2_with fail
      go_ret
      exact ⟨rfl, HB1.out.trans (HB.out.mono HB1.out.size)⟩
def V64 (v : Int × Int) : Prop := I64 v.1 ∧ I64 v.2
structure VOk (m : RM) : Prop where
  rhs : ∀ v, v ∈ m.rhs → V64 v
  costs : ∀ v, v ∈ m.costs → V64 v
  cells : ∀ c, c ∈ m.cells → V64 c.v
theorem VOk.new : VOk RM.new := ⟨fun _ h => (by cases h), fun _ h => (by cases h), fun _ h => (by cases h)⟩
theorem mem_set_or {α : Type} {l : List α} {k : Nat} {x y : α} {p : α → Prop} (h : ∀ z, z ∈ l → p z) (hx : p x) (hy : y ∈ l.set k x) : p y := by
  rcases List.mem_or_eq_of_mem_set hy with h1 | rfl
  · exact h y h1
  · exact hx
theorem VOk.act {m : RM} (h : VOk m) {x : XA} (hx : XOk x) : VOk (m.act x).2 := by
  have hv : V64 x.v := ⟨hx.p, hx.q⟩
  unfold RM.act
  split
  · unfold RM.addRow
    split
    · exact h
    · split
      · exact h
      · split
        · exact h
        · refine ⟨fun v hm => ?_, h.costs, fun c hc => ?_⟩
          · rcases List.mem_append.1 hm with h1 | h1
            · exact h.rhs v h1
            · rw [List.mem_singleton.1 h1]; exact hv
          · rcases List.mem_append.1 hc with h1 | h1
            · exact h.cells c h1
            · obtain ⟨e, he, rfl⟩ := List.mem_map.1 h1
              exact (hx.es e he).2
  · split
    · unfold RM.addCol
      split
      · exact h
      · split
        · exact h
        · refine ⟨h.rhs, fun v hm => ?_, fun c hc => ?_⟩
          · rcases List.mem_append.1 hm with h1 | h1
            · exact h.costs v h1
            · rw [List.mem_singleton.1 h1]; exact hv
          · rcases List.mem_append.1 hc with h1 | h1
            · exact h.cells c h1
            · obtain ⟨e, he, rfl⟩ := List.mem_map.1 h1
              exact (hx.es e he).2
    · split
      · unfold RM.dropRow
        split
        · exact ⟨fun v hm => h.rhs v (List.mem_of_mem_eraseIdx hm), h.costs, fun c hc => h.cells c (List.mem_filter.1 hc).1⟩
        · exact h
      · split
        · unfold RM.dropCol
          split
          · exact ⟨h.rhs, fun v hm => h.costs v (List.mem_of_mem_eraseIdx hm), fun c hc => h.cells c (List.mem_filter.1 hc).1⟩
          · exact h
        · split
          · unfold RM.setCoef
            split
            · split
              · refine ⟨h.rhs, h.costs, fun c hc => ?_⟩
                rcases List.mem_append.1 hc with h1 | h1
                · exact h.cells c (List.mem_filter.1 h1).1
                · rw [List.mem_singleton.1 h1]; exact hv
              · exact h
            · exact h
          · split
            · unfold RM.setRhs
              split
              · exact ⟨fun v hm => mem_set_or h.rhs hv hm, h.costs, h.cells⟩
              · exact h
            · split
              · unfold RM.setKind
                split
                · split
                  · exact h
                  · exact ⟨h.rhs, h.costs, h.cells⟩
                · exact h
              · split
                · unfold RM.setCost
                  split
                  · exact ⟨h.rhs, fun v hm => mem_set_or h.costs hv hm, h.cells⟩
                  · exact h
                · exact h
theorem vok_run : ∀ (xs : List XA) (m : RM), VOk m → (∀ x, x ∈ xs → XOk x) → VOk (m.run xs)
  | [], m, h, _ => h
  | x :: xs, m, h, hx => vok_run xs _ (h.act (hx x (by simp))) fun y hy => hx y (by simp [hy])
theorem VOk.find {m : RM} (h : VOk m) (r c : Int) : V64 (findC r c m.cells) := by
  unfold findC
  split
  · rename_i x hf
    exact h.cells x (List.mem_of_find?_eq_some hf)
  · exact ⟨by unfold I64; omega, by unfold I64; omega⟩
end Go.Proofs.YtaehklhbokocbaaGreatDoor
