/-
  End of a queue by contract; the conditions: the queue's cells, and how many jobs a row has.
  Printed by a program of this repository (wip/qu7.py).
-/
import Derived.Test.YtkbopcgijaejjaaDoorDel
import Derived.Lib.SliceRun
import Derived.OneCell
import Derived.Laws.Rows
import Derived.Deep.QuietTactic
import Derived.BigQuiet
import Derived.Deep.RegionHeld3
namespace Go.Proofs.YtkbopcgijaejjaaDoor
open Go.RowKit Go.Extern.Stop Go.Stop Go.Extern
theorem results_cell_tmp2 {fn : Func} {p u v : Tmp} {ty : TypeId} (h : fn.results = #[.cell p ty, .tmp u, .tmp v]) (tmps : Array Value) (P : Program) (w : World) :
    (results fn tmps).run P w =
      ((asAddr (tmps.getD p undef)).run P w).andThen fun a w1 => ((loadVar ty a).run P w1).andThen fun x w2 => .ok (.tuple #[x, tmps.getD u undef, tmps.getD v undef]) w2 := by
  simp only [results, h]
  simp [Sem.run_bind, Result.andThen]

/-- An operation that yields its value in every world that meets S is taken first; where its value goes is named. -/
theorem takeH {P : Program} {md : Region.Mode} {ops : Array Oper} {Q : Exit → Act → World → Prop} {S : World → Prop} {i : Nat} {oi : Oper} {d : Option Tmp} {v : Value} {fuel : Nat} {listed : Array Bool} {a : Act} {w : World} (hi : ops[i]? = some oi) (hd : oi.dst = d)
    (hs : Region.noSelect ops = true) (hf : Region.free md ops listed i = true) (hr : (Region.ready md ops listed).contains i = true)
    (hQ : ∀ c a w, Q (.panic c) (a.put d v) w → Q (.panic c) a w) (hy : YieldsIf P ops S oi v a) (hS : S w)
    (h : wpAnyH P md ops Q S fuel (listed.setIfInBounds i true) (a.put d v) w) : wpAnyH P md ops Q S (fuel + 1) listed a w := by
  subst hd
  exact wpAnyH_take hi hs hf hr hQ hy hS h
/-- The condition on the world may be turned into a stronger one on the way. -/
theorem takeH_switch {P : Program} {md : Region.Mode} {ops : Array Oper} {Q : Exit → Act → World → Prop} {S S' : World → Prop} (hm : ∀ w, S' w → S w) :
    ∀ (fuel : Nat) (listed : Array Bool) (a : Act) (w : World), wpAnyH P md ops Q S' fuel listed a w → wpAnyH P md ops Q S fuel listed a w
  | 0, _, _, _, h => h
  | fuel + 1, _, _, _, h => ⟨h.1, fun i hi => wpOp_mono (fun _ _ ⟨h1, h2⟩ => ⟨hm _ h1, takeH_switch hm fuel _ _ _ h2⟩) (h.2 i hi)⟩


theorem Tryd.info_cloneI : (Tryd.prog.info? 3).map (fun i => (i.zero, i.size, i.bytes)) = some (some (.int .i64 0), 1, 8) := by kernel_rfl
set_option maxHeartbeats 1000000 in
theorem cloneI_nil (w : World) : Calls Tryd.prog 27 #[.slice none 0 0] w (OwnR w 3 1 0 []) := by
  have he := fun W => Lib.run_eql_slice_nil (P := Tryd.prog) W 50 3 none 0 0 0 0 Tryd.underlying50
  go_enter Tryd.func27, Tryd.ntmps27
  go_wp2
  go_ret
  exact ⟨none, 0, rfl, Mid.nil _ _ _ _, Below.refl _ _⟩
set_option maxHeartbeats 1000000 in
theorem cloneI_some (b : Addr) (c n : Nat) (cs : List Value) (w : World) (h : Sl w 1 (.slice (some b) n c) n cs) (h1 : ∀ u ∈ cs, u.oneCell' = true) (hn : n * 8 ≤ 140737488355328) : Calls Tryd.prog 27 #[.slice (some b) n c] w (OwnR w 3 1 n cs) := by
  have he := fun W => Lib.run_eql_slice_nil (P := Tryd.prog) W 50 3 (some b) n c 0 0 Tryd.underlying50
  obtain ⟨i0, hi, hz0, hz1, hz2⟩ := info_parts Tryd.info_cloneI
  have hM : Mid (w.alloc (.cells #[] 3)) w.heap.size 3 1 (.slice (some ⟨w.heap.size, 0, none⟩) 0 0) 0 [] := by
    have := Mid.new (base := w.heap.size) w 3 1 0 0 #[] (Nat.le_refl _) (Nat.le_refl _) (Nat.zero_le _) (by simp)
    simpa using this
  have hS := (Sl.alloc h (.cells #[] 3)).src (P := Tryd.prog) Tryd.underlying50 h1
  have HM := Lib.hid hM
  have HS := Lib.hid hS
  clear hM hS h h1
  go_enter Tryd.func27, Tryd.ntmps27
  go_wp2_with (at_builtin; refine wpList_append_mid (v := .slice (some ⟨w.heap.size, 0, none⟩) 0 0) rfl _ _ 50 50 rfl i0 (.int .i64 0) 8 Tryd.underlying50 hi hz0 hz1 hz2 rfl rfl HM.out _ rfl n _ HS.out (by unfold maxLen; omega) (by omega) (by simp) ?_; intro a1 c1 w1 hmid hgrow hblk)
  go_ret
  rw [Nat.zero_add] at hmid
  refine ⟨a1, c1, rfl, by simpa using hmid, ?_⟩
  exact ((Below.refl w.heap.size w).alloc (Nat.le_refl _) _).grown hgrow (by simp) (fun k hk => by cases hk; simp)
theorem cloneI (v : Value) (n : Nat) (cs : List Value) (w : World) (h : Sl w 1 v n cs) (h1 : ∀ u ∈ cs, u.oneCell' = true) (hn : n * 8 ≤ 140737488355328) : Calls Tryd.prog 27 #[v] w (OwnR w 3 1 n cs) := by
  obtain ⟨a, c, rfl, _, _, h0⟩ := Sl.len h
  cases a with
  | none =>
    have hx : n = 0 := by
      rcases h.2 with ⟨_, _, _, e, _⟩ | ⟨_, _, _, e, _⟩
      · exact e
      · cases e
    subst hx
    have hc : cs = [] := List.eq_nil_of_length_eq_zero (by simpa using h.1)
    subst hc
    rw [h0 rfl]
    exact cloneI_nil w
  | some b => exact cloneI_some b c n cs w h h1 hn
set_option maxRecDepth 100000 in
set_option maxHeartbeats 2000000 in
theorem end_arg (qb : Nat) (F : Nat → Prop) (RS : List (Rw × Value)) (ws : List (Int × Int)) (bs : List Bool) (n : Int) (w : World) (h : QS w qb F RS ws bs) (hw : n < 0 ∨ ws.length ≤ n) :
    Calls Tryd.prog 12 #[.pointer (some ⟨qb, 0, none⟩), .int .i64 n] w fun e w' => e = .returned (.tuple #[.agg #[.int .i64 0, .int .i64 0], .int .i64 0, eE 1]) ∧ Below w.heap.size w w' := by
  unfold eE
  obtain ⟨ra, wa, ba, rc, wc, bc, r⟩ := h.read
  have HR := Lib.hid r
  have hlw := r.work.lenI
  have hlb := r.busy.lenI
  have hlr := r.rows.lenI
  have HH := Lib.hid h
  have c1 := r.c1
  have c2 := r.c2
  have q1 : qb < w.heap.size := World.block_lt_of_cell? _ _ c1
  clear r h
  by_cases h0 : n < 0
  · clear hw
    go_enter Tryd.func12, Tryd.ntmps12
    go_wp2
    (try simp only [Exit.inBlock, Exit.then])
    refine bodyPost_ret (v := .tuple #[.agg #[.int .i64 0, .int .i64 0], .int .i64 0, .iface 52 (.int .i64 1)]) ?_ rfl ⟨rfl, ?_⟩
    · rw [results_cell_tmp2 rfl]
      go_simp
    · exact (Below.refl _ _).alloc (Nat.le_refl _) _
  · have h1 : (ws.length : Int) ≤ n := by omega
    clear hw
    go_enter Tryd.func12, Tryd.ntmps12
    go_wp2
    (try simp only [Exit.inBlock, Exit.then])
    refine bodyPost_ret (v := .tuple #[.agg #[.int .i64 0, .int .i64 0], .int .i64 0, .iface 52 (.int .i64 1)]) ?_ rfl ⟨rfl, ?_⟩
    · rw [results_cell_tmp2 rfl]
      go_simp
    · exact (Below.refl _ _).alloc (Nat.le_refl _) _
set_option maxRecDepth 100000 in
set_option maxHeartbeats 2000000 in
theorem end_idle (qb : Nat) (F : Nat → Prop) (RS : List (Rw × Value)) (ws : List (Int × Int)) (bs : List Bool) (n : Int) (w : World) (h : QS w qb F RS ws bs) (hl : ws.length = bs.length) (h0 : 0 ≤ n) (h1 : n < ws.length) (hz : busyB bs n = false) :
    Calls Tryd.prog 12 #[.pointer (some ⟨qb, 0, none⟩), .int .i64 n] w (FaultAt w sWorker n 301 fun v => .returned (.tuple #[.agg #[.int .i64 0, .int .i64 0], .int .i64 0, v])) := by
  obtain ⟨ra, wa, ba, rc, wc, bc, r⟩ := h.read
  have HR := Lib.hid r
  have hlw := r.work.lenI
  have hlb := r.busy.lenI
  have hlr := r.rows.lenI
  have HH := Lib.hid h
  have c1 := r.c1
  have c2 := r.c2
  have q1 : qb < w.heap.size := World.block_lt_of_cell? _ _ c1
  clear r h
  obtain ⟨i, rfl⟩ := Int.eq_ofNat_of_zero_le h0
  have hi : i < bs.length := by omega
  obtain ⟨b, of, c', e, _, _, hbl, h4⟩ := HR.out.busy.plain (by omega)
  obtain ⟨rfl, rfl⟩ : ba = some ⟨b, of, none⟩ ∧ bc = c' := by cases e; exact ⟨rfl, rfl⟩
  have hc := h4 i (.bool bs[i]) (by rw [List.getElem?_map, List.getElem?_eq_getElem hi]; rfl)
  clear e h4
  have hbz : bs[i] = false := by
    unfold busyB at hz
    simp only [Int.toNat_natCast, List.getD_eq_getElem?_getD, List.getElem?_eq_getElem hi, Option.getD_some, Bool.and_eq_false_iff, decide_eq_false_iff_not] at hz
    rcases hz with h | h
    · exact absurd ⟨h0, by omega⟩ h
    · exact h
  rw [hbz] at hc
  clear hz hbz
  go_enter Tryd.func12, Tryd.ntmps12
  go_wp2_with fail
  refine (wrap_E 301 _ _ _).mono ?_
  rintro e w2 ⟨rfl, hf, rfl⟩
  have HI := Lib.hid hf
  clear hf
  go_wp2
  (try simp only [Exit.inBlock, Exit.then])
  refine bodyPost_ret (v := .tuple #[.agg #[.int .i64 0, .int .i64 0], .int .i64 0, eF (w.heap.size + 1)]) ?_ rfl ⟨w.heap.size + 1, rfl, ?_, ((Below.refl _ _).alloc (Nat.le_refl _) _).alloc (by simp) _, by omega⟩
  · rw [results_cell_tmp2 rfl]
    go_simp
  · have := HI.out
    simp only [World.size_alloc] at this
    exact this

end Go.Proofs.YtkbopcgijaejjaaDoor
