/-
  Copy of a queue by contract; the conditions: the queue's cells, and how many jobs there are.
  Printed by a program of this repository (wip/qu23.py).
-/
import Derived.Test.YtkbopcgijaejjaaDoorBox
import Derived.Test.YtkbopcgijaejjaaDoorState
import Derived.Test.YtkbopcgijaejjaaDoorEnd1
import Derived.Deep.RegionHeld3
namespace Go.Proofs.YtkbopcgijaejjaaDoor
open Go.RowKit Go.Extern.Stop Go.Stop Go.Extern

theorem Tryd.info_cloneK : (Tryd.prog.info? 29).map (fun i => (i.zero, i.size, i.bytes)) = some (some (.agg #[.int .i64 0, .int .i64 0]), 2, 16) := by kernel_rfl
set_option maxHeartbeats 1000000 in
theorem cloneK_nil (w : World) : Calls Tryd.prog 32 #[.slice none 0 0] w (OwnR w 29 2 0 []) := by
  have he := fun W => Lib.run_eql_slice_nil (P := Tryd.prog) W 44 29 none 0 0 0 0 Tryd.underlying44
  go_enter Tryd.func32, Tryd.ntmps32
  go_wp2
  go_ret
  exact ⟨none, 0, rfl, Mid.nil _ _ _ _, Below.refl _ _⟩
set_option maxHeartbeats 1000000 in
theorem cloneK_some (b : Addr) (c n : Nat) (cs : List Value) (w : World) (h : Sl w 2 (.slice (some b) n c) n cs) (h1 : ∀ u ∈ cs, u.oneCell' = true) (hn : n * 16 ≤ 140737488355328) : Calls Tryd.prog 32 #[.slice (some b) n c] w (OwnR w 29 2 n cs) := by
  have he := fun W => Lib.run_eql_slice_nil (P := Tryd.prog) W 44 29 (some b) n c 0 0 Tryd.underlying44
  obtain ⟨i0, hi, hz0, hz1, hz2⟩ := info_parts Tryd.info_cloneK
  have hM : Mid (w.alloc (.cells #[] 29)) w.heap.size 29 2 (.slice (some ⟨w.heap.size, 0, none⟩) 0 0) 0 [] := by
    have := Mid.new (base := w.heap.size) w 29 2 0 0 #[] (Nat.le_refl _) (Nat.le_refl _) (Nat.zero_le _) (by simp)
    simpa using this
  have hS := (Sl.alloc h (.cells #[] 29)).src (P := Tryd.prog) Tryd.underlying44 h1
  have HM := Lib.hid hM
  have HS := Lib.hid hS
  clear hM hS h h1
  go_enter Tryd.func32, Tryd.ntmps32
  go_wp2_with (at_builtin; refine wpList_append_mid (v := .slice (some ⟨w.heap.size, 0, none⟩) 0 0) rfl _ _ 44 44 rfl i0 (.agg #[.int .i64 0, .int .i64 0]) 16 Tryd.underlying44 hi hz0 hz1 hz2 rfl rfl HM.out _ rfl n _ HS.out (by unfold maxLen; omega) (by omega) (by simp) ?_; intro a1 c1 w1 hmid hgrow hblk)
  go_ret
  rw [Nat.zero_add] at hmid
  refine ⟨a1, c1, rfl, by simpa using hmid, ?_⟩
  exact ((Below.refl w.heap.size w).alloc (Nat.le_refl _) _).grown hgrow (by simp) (fun k hk => by cases hk; simp)
theorem cloneK (v : Value) (n : Nat) (cs : List Value) (w : World) (h : Sl w 2 v n cs) (h1 : ∀ u ∈ cs, u.oneCell' = true) (hn : n * 16 ≤ 140737488355328) : Calls Tryd.prog 32 #[v] w (OwnR w 29 2 n cs) := by
  obtain ⟨a, c, rfl, _, _, h0⟩ := Sl.len h
  cases a with
  | none =>
    have hx : n = 0 := by
      rcases h.2 with ⟨_, _, _, e, _⟩ | ⟨_, _, _, e, _⟩
      · exact e
      · cases e
    subst hx
    have hc : cs = [] := List.eq_nil_of_length_eq_zero (by simpa using h.1)
    subst hc
    rw [h0 rfl]
    exact cloneK_nil w
  | some b => exact cloneK_some b c n cs w h h1 hn

theorem Tryd.info_cloneB : (Tryd.prog.info? 4).map (fun i => (i.zero, i.size, i.bytes)) = some (some (.bool false), 1, 1) := by kernel_rfl
set_option maxHeartbeats 1000000 in
theorem cloneB_nil (w : World) : Calls Tryd.prog 33 #[.slice none 0 0] w (OwnR w 4 1 0 []) := by
  have he := fun W => Lib.run_eql_slice_nil (P := Tryd.prog) W 59 4 none 0 0 0 0 Tryd.underlying59
  go_enter Tryd.func33, Tryd.ntmps33
  go_wp2
  go_ret
  exact ⟨none, 0, rfl, Mid.nil _ _ _ _, Below.refl _ _⟩
set_option maxHeartbeats 1000000 in
theorem cloneB_some (b : Addr) (c n : Nat) (cs : List Value) (w : World) (h : Sl w 1 (.slice (some b) n c) n cs) (h1 : ∀ u ∈ cs, u.oneCell' = true) (hn : n * 1 ≤ 140737488355328) : Calls Tryd.prog 33 #[.slice (some b) n c] w (OwnR w 4 1 n cs) := by
  have he := fun W => Lib.run_eql_slice_nil (P := Tryd.prog) W 59 4 (some b) n c 0 0 Tryd.underlying59
  obtain ⟨i0, hi, hz0, hz1, hz2⟩ := info_parts Tryd.info_cloneB
  have hM : Mid (w.alloc (.cells #[] 4)) w.heap.size 4 1 (.slice (some ⟨w.heap.size, 0, none⟩) 0 0) 0 [] := by
    have := Mid.new (base := w.heap.size) w 4 1 0 0 #[] (Nat.le_refl _) (Nat.le_refl _) (Nat.zero_le _) (by simp)
    simpa using this
  have hS := (Sl.alloc h (.cells #[] 4)).src (P := Tryd.prog) Tryd.underlying59 h1
  have HM := Lib.hid hM
  have HS := Lib.hid hS
  clear hM hS h h1
  go_enter Tryd.func33, Tryd.ntmps33
  go_wp2_with (at_builtin; refine wpList_append_mid (v := .slice (some ⟨w.heap.size, 0, none⟩) 0 0) rfl _ _ 59 59 rfl i0 (.bool false) 1 Tryd.underlying59 hi hz0 hz1 hz2 rfl rfl HM.out _ rfl n _ HS.out (by unfold maxLen; omega) (by omega) (by simp) ?_; intro a1 c1 w1 hmid hgrow hblk)
  go_ret
  rw [Nat.zero_add] at hmid
  refine ⟨a1, c1, rfl, by simpa using hmid, ?_⟩
  exact ((Below.refl w.heap.size w).alloc (Nat.le_refl _) _).grown hgrow (by simp) (fun k hk => by cases hk; simp)
theorem cloneB (v : Value) (n : Nat) (cs : List Value) (w : World) (h : Sl w 1 v n cs) (h1 : ∀ u ∈ cs, u.oneCell' = true) (hn : n * 1 ≤ 140737488355328) : Calls Tryd.prog 33 #[v] w (OwnR w 4 1 n cs) := by
  obtain ⟨a, c, rfl, _, _, h0⟩ := Sl.len h
  cases a with
  | none =>
    have hx : n = 0 := by
      rcases h.2 with ⟨_, _, _, e, _⟩ | ⟨_, _, _, e, _⟩
      · exact e
      · cases e
    subst hx
    have hc : cs = [] := List.eq_nil_of_length_eq_zero (by simpa using h.1)
    subst hc
    rw [h0 rfl]
    exact cloneB_nil w
  | some b => exact cloneB_some b c n cs w h h1 hn
theorem QS.box {w : World} {qb : Nat} {F : Nat → Prop} {RS : List (Rw × Value)} {ws : List (Int × Int)} {bs : List Bool} : QS w qb F RS ws bs ↔ ∃ (ra wa ba : Option Addr) (rc wc bc : Nat), Box w qb 65 F [.slice ra RS.length rc, .slice wa ws.length wc, .slice ba bs.length bc] (qPs (.slice ra RS.length rc) (.slice wa ws.length wc) (.slice ba bs.length bc) RS ws bs) := by
  constructor
  · rintro ⟨ra, wa, ba, rc, wc, bc, h1, h2, h3, h4, h5⟩; exact ⟨ra, wa, ba, rc, wc, bc, h1, h2, h3, h4, h5⟩
  · rintro ⟨ra, wa, ba, rc, wc, bc, h1, h2, h3, h4, h5⟩; exact ⟨ra, wa, ba, rc, wc, bc, h1, h2, h3, h4, h5⟩
theorem ky_one (l : List (Int × Int)) : ∀ u ∈ l.flatMap kyCells, u.oneCell' = true := fun u hu => by
  obtain ⟨x, _, hu⟩ := List.mem_flatMap.1 hu
  simp only [kyCells, List.mem_cons, List.not_mem_nil, or_false] at hu
  rcases hu with rfl | rfl <;> rfl
/-- A queue without rows, its slices new. -/
theorem QS.bare {w w1 w2 : World} {ws : List (Int × Int)} {bs : List Bool} {wa ba : Option Addr} {wc bc : Nat} (hw : Below w.heap.size w w1)
    (hk : Mid w1 w.heap.size 29 2 (.slice wa ws.length wc) ws.length (ws.flatMap kyCells)) (hb : Mid w1 w.heap.size 4 1 (.slice ba bs.length bc) bs.length (bs.map Value.bool)) (hd : ∀ k, (Value.slice wa ws.length wc).ownBlock = some k → (Value.slice ba bs.length bc).ownBlock ≠ some k)
    (h2 : w2 = w1.alloc (.cells #[.slice none 0 0, .slice wa ws.length wc, .slice ba bs.length bc] 65)) : ∃ F, QS w2 w1.heap.size F [] ws bs ∧ (∀ k, F k → w.heap.size ≤ k) := by
  subst h2
  have hz := hw.size
  refine ⟨fun k => k = w1.heap.size ∨ (Value.slice wa ws.length wc).ownBlock = some k ∨ (Value.slice ba bs.length bc).ownBlock = some k, ⟨none, wa, ba, 0, wc, bc, heap_alloc_new w1 _, ⟨fun p hp => ?_, ?_⟩, .inl rfl, fun k hk' => ?_, fun k hk' => ?_⟩, fun k hk' => ?_⟩
  · simp only [qPs, List.map_nil, List.mem_cons, List.not_mem_nil, or_false] at hp
    rcases hp with rfl | rfl | rfl
    · exact Mid.nil _ _ _ _
    · exact (hk.mono (Nat.zero_le _)).alloc _
    · exact (hb.mono (Nat.zero_le _)).alloc _
  · simp only [qPs, List.map_nil]
    refine List.pairwise_cons.2 ⟨fun p hp k h => (by cases h), List.pairwise_cons.2 ⟨fun p hp k h e => ?_, List.pairwise_singleton _ _⟩⟩
    rw [List.mem_singleton.1 hp] at e
    exact hd k h e
  · obtain ⟨p, hp, hpk⟩ := hk'
    simp only [qPs, List.map_nil, List.mem_cons, List.not_mem_nil, or_false] at hp
    rcases hp with rfl | rfl | rfl
    · cases hpk
    · exact ⟨.inr (.inl hpk), by have := (hk.lt k hpk).2; omega⟩
    · exact ⟨.inr (.inr hpk), by have := (hb.lt k hpk).2; omega⟩
  · rcases hk' with rfl | h | h
    · simp
    · have := (hk.lt k h).2; simp; omega
    · have := (hb.lt k h).2; simp; omega
  · rcases hk' with rfl | h | h
    · omega
    · exact (hk.lt k h).1
    · exact (hb.lt k h).1
/-- A row more: its jobs are a new slice. -/
theorem QS.more {w5 w7 : World} {r : Rw} {v : Value} {cb : Nat} {F : Nat → Prop} {RS : List (Rw × Value)} {ws : List (Int × Int)} {bs : List Bool} {ra wa ba : Option Addr} {rc wc bc : Nat} (hb : Box w5 cb 65 F [.slice ra RS.length rc, .slice wa ws.length wc, .slice ba bs.length bc] (qPs (.slice ra RS.length rc) (.slice wa ws.length wc) (.slice ba bs.length bc) RS ws bs ++ ([⟨v, 3, 1, r.jobs.length, r.jobs.map IV⟩] : List Pc)))
    (hk : Keeps w5 w7 (fun k => (Value.slice ra RS.length rc).ownBlock = some k)) {a4 : Option Addr} {c4 : Nat} (hm : Mid w7 0 67 4 (.slice a4 (RS.length + 1) c4) (RS.length + 1) (RS.flatMap rowCells ++ rowCells (r, v))) (ho : ∀ k, (Value.slice a4 (RS.length + 1) c4).ownBlock = some k → (Value.slice ra RS.length rc).ownBlock = some k ∨ w5.heap.size ≤ k) :
    ∃ F', QS (w7.setCell ⟨cb, 0, none⟩ (.slice a4 (RS.length + 1) c4)) cb F' (RS ++ [(r, v)]) ws bs ∧ (∀ k, F' k → F k ∨ w5.heap.size ≤ k) ∧ Keeps w5 (w7.setCell ⟨cb, 0, none⟩ (.slice a4 (RS.length + 1) c4)) F := by
  have b1 := hb.write 0 (p := ⟨.slice ra RS.length rc, 67, 4, RS.length, RS.flatMap rowCells⟩) rfl ⟨.slice a4 (RS.length + 1) c4, 67, 4, RS.length + 1, RS.flatMap rowCells ++ rowCells (r, v)⟩ hk hm ho
  have b2 := b1.trans fun G1 h1 => h1.head 0 (.slice a4 (RS.length + 1) c4)
  obtain ⟨F', g1, g2, g3⟩ := b2
  refine ⟨F', QS.box.2 ⟨a4, wa, ba, c4, wc, bc, ?_⟩, g2, g3⟩
  have hl : (RS ++ [(r, v)]).length = RS.length + 1 := by simp
  have e : qPs (.slice a4 (RS.length + 1) c4) (.slice wa ws.length wc) (.slice ba bs.length bc) (RS ++ [(r, v)]) ws bs = (qPs (.slice ra RS.length rc) (.slice wa ws.length wc) (.slice ba bs.length bc) RS ws bs ++ ([⟨v, 3, 1, r.jobs.length, r.jobs.map IV⟩] : List Pc)).set 0 ⟨.slice a4 (RS.length + 1) c4, 67, 4, RS.length + 1, RS.flatMap rowCells ++ rowCells (r, v)⟩ := by
    simp [qPs, jp, List.flatMap_append]
  rw [hl, e]
  exact g1
/-- What Copy answers. -/
def CopyR (w : World) (rows : List Rw) (ws : List (Int × Int)) (bs : List Bool) (e : Ending) (w' : World) : Prop :=
  ∃ cb F, e = .returned (.pointer (some ⟨cb, 0, none⟩)) ∧ Qs w' cb F rows ws bs ∧ (∀ k, F k → w.heap.size ≤ k) ∧ Below w.heap.size w w'
/-- Behind a row's clone. -/
def CopyM (w wr : World) (cb : Nat) (L : List (Rw × Value)) (ws : List (Int × Int)) (bs : List Bool) (t' s' : Int) (js : List Int) (z : Bool) (jl : Nat) (wx : World) : Prop :=
  ∃ (ra wa ba : Option Addr) (rc wc bc : Nat) (a5 : Option Addr) (c5 : Nat) (F : Nat → Prop), Box wx cb 65 F [.slice ra L.length rc, .slice wa ws.length wc, .slice ba bs.length bc] (qPs (.slice ra L.length rc) (.slice wa ws.length wc) (.slice ba bs.length bc) L ws bs ++ [⟨.slice a5 jl c5, 3, 1, js.length, js.map IV⟩]) ∧
    wx.heap[wr.heap.size]? = some (.cells #[.int .i64 t', .int .i64 s', .slice a5 jl c5, .bool z] 67 (0, 0)) ∧ True ∧ (∀ k, F k → w.heap.size ≤ k) ∧ Below w.heap.size w wx
/-- The loop over the rows. -/
def CopyL (w : World) (cb : Nat) (RS : List (Rw × Value)) (ws : List (Int × Int)) (bs : List Bool) (iv : Value) (wr : World) : Prop :=
  ∃ (k : Nat) (F : Nat → Prop) (L : List (Rw × Value)), k ≤ RS.length ∧ iv = .int .i64 k ∧ QS wr cb F L ws bs ∧ rowsOf L = rowsOf (RS.take k) ∧ (∀ x, F x → w.heap.size ≤ x) ∧ Below w.heap.size w wr
set_option maxRecDepth 100000 in
set_option maxHeartbeats 8000000 in
theorem copy_any (qb : Nat) (F : Nat → Prop) (RS : List (Rw × Value)) (ws : List (Int × Int)) (bs : List Bool) (w : World) (h : QS w qb F RS ws bs) (hn : allN RS ≤ 4398046511104) (hr : RS.length ≤ 4398046511104) (hw : ws.length ≤ 64) (hbl : bs.length ≤ 64) :
    Calls Tryd.prog 19 #[.pointer (some ⟨qb, 0, none⟩)] w (CopyR w (rowsOf RS) ws bs) := by
  obtain ⟨ra, wa, ba, rc, wc, bc, r⟩ := h.read
  have c1 := r.c1
  have c2 := r.c2
  have hqlt : qb < w.heap.size := World.block_lt_of_cell? _ _ r.c0
  have HKS := Lib.hid (show ∀ W, Below w.heap.size w W → (W.cell? ⟨qb, 1, none⟩ = some (.slice wa ws.length wc) ∧ W.cell? ⟨qb, 2, none⟩ = some (.slice ba bs.length bc) ∧ Below w.heap.size w W) from fun W hb => ⟨(hb.cell (p := ⟨qb, 1, none⟩) hqlt).trans r.c1, (hb.cell (p := ⟨qb, 2, none⟩) hqlt).trans r.c2, hb⟩)
  have HCK := Lib.hid (show ∀ W, Below w.heap.size w W → Calls Tryd.prog 32 #[.slice wa ws.length wc] W fun e w' => ∃ a c, e = .returned (.slice a ws.length c) ∧ Mid w' W.heap.size 29 2 (.slice a ws.length c) ws.length (ws.flatMap kyCells) ∧ Below W.heap.size W w' ∧ Below w.heap.size w w' from fun W hb => (cloneK _ _ _ W (r.work.below hb) (ky_one ws) (by omega)).mono fun e w' ⟨a, c, he, hm, hb'⟩ => ⟨a, c, he, hm, hb', hb.trans (hb'.mono hb.size)⟩)
  have HCB := Lib.hid (show ∀ W, Below w.heap.size w W → Calls Tryd.prog 33 #[.slice ba bs.length bc] W fun e w' => ∃ a c, e = .returned (.slice a bs.length c) ∧ Mid w' W.heap.size 4 1 (.slice a bs.length c) bs.length (bs.map Value.bool) ∧ Below W.heap.size W w' ∧ Below w.heap.size w w' from fun W hb => (cloneB _ _ _ W (r.busy.below hb) (fun u hu => by obtain ⟨x, _, rfl⟩ := List.mem_map.1 hu; rfl) (by omega)).mono fun e w' ⟨a, c, he, hm, hb'⟩ => ⟨a, c, he, hm, hb', hb.trans (hb'.mono hb.size)⟩)
  have HR := Lib.hid r
  have hqd : Below w.heap.size w w.drew := (Below.refl _ _).drew
  have HHR := Lib.hid h
  clear h r
  go_enter Tryd.func19, Tryd.ntmps19
  go_upto_region 1 with fail
  go_cut [3] (fun v3 wx => ∃ cb F0, v3 = .pointer (some ⟨cb, 0, none⟩) ∧ QS wx cb F0 [] ws bs ∧ (∀ k, F0 k → w.heap.size ≤ k) ∧ Below w.heap.size w wx)
  case first =>
    go_region_held3 (fun W => W.cell? ⟨qb, 1, none⟩ = some (.slice wa ws.length wc) ∧ W.cell? ⟨qb, 2, none⟩ = some (.slice ba bs.length bc) ∧ Below w.heap.size w W) (exact HKS.out _ (by first | assumption | (refine Below.alloc (by assumption) (Below.size (by assumption)) _))) (first
      | (go_at_call 32; refine (HCK.out _ (by go_split_ands; assumption)).mono ?_; rintro e w14 ⟨a4, c4, rfl, hm4, hb4, hbb4⟩)
      | (go_at_call 33; refine (HCB.out _ (by go_split_ands; assumption)).mono ?_; rintro e w15 ⟨a5, c5, rfl, hm5, hb5, hbb5⟩))
    all_goals
      go_wp2_with fail
      go_meet
      first
        | (obtain ⟨F0, g1, g2⟩ := QS.bare hbb5 ((hm4.below hb5 fun k hk => (hm4.lt k hk).2).mono (Nat.le_refl _)) (hm5.mono hbb4.size) (fun k h1 h2 => by have := (hm4.lt k h1).2; have := (hm5.lt k h2).1; omega) rfl
           exact ⟨_, F0, rfl, g1, g2, hbb5.alloc hbb5.size _⟩)
        | (obtain ⟨F0, g1, g2⟩ := QS.bare hbb4 (hm4.mono hbb5.size) ((hm5.below hb4 fun k hk => (hm5.lt k hk).2).mono (Nat.le_refl _)) (fun k h1 h2 => by have := (hm5.lt k h2).2; have := (hm4.lt k h1).1; omega) rfl
           exact ⟨_, F0, rfl, g1, g2, hbb4.alloc hbb4.size _⟩)
  case rest =>
    obtain ⟨w1, rfl⟩ : ∃ w1 : World, w1 = wc := ⟨_, rfl⟩
    obtain ⟨cb, F0, rfl, hq0, hF0, hb0⟩ := hcut
    have c0 := (hb0.cell (p := ⟨qb, 0, none⟩) hqlt).trans HR.out.c0
    have hln := HR.out.rows.lenI
    have HQ0 := Lib.hid hq0
    have HF0 := Lib.hid hF0
    have HB0 := Lib.hid hb0
    obtain ⟨tj, hi', hy0, hy1, hy2⟩ := info_parts Tryd.infoR
    clear c1 c2 hq0 hF0 hb0 HCK HCB HKS hqd
    go_wp2_with fail
    clear c0
    go_loopw [23] (fun iv wr => CopyL w cb RS ws bs iv wr) (fun iv _ => RS.length - (intOf iv).toNat)
    case atStart => exact ⟨0, F0, [], Nat.zero_le _, rfl, HQ0.out, by simp [rowsOf], HF0.out, HB0.out⟩
    case round =>
      obtain ⟨k, F1, L, hk, rfl, hq, hrows, hF1, hb⟩ := hrel
      have hLk : L.length = k := by
        have := congrArg List.length hrows
        simp only [rowsOf, List.length_map, List.length_take] at this
        omega
      by_cases hlt : k < RS.length
      · obtain ⟨b, o, rfl, _, k0, k1, k2, k3⟩ := row_get HR.out.rows hb k hlt
        have hj := (HR.out.jobs RS[k] (List.getElem_mem hlt)).below hb
        have hjl := bounds_jobs k hlt
        obtain ⟨X, hX⟩ : ∃ X, X = RS[k] := ⟨_, rfl⟩
        rw [← hX] at k0 k1 k2 k3 hj hjl
        have HXE := Lib.hid hX
        obtain ⟨⟨t', s', js, z⟩, jv⟩ := X
        simp only at k0 k1 k2 k3 hj hjl
        obtain ⟨ja, jc, rfl, _⟩ := hj.len
        obtain ⟨jl, hjle⟩ : ∃ jl, jl = js.length := ⟨_, rfl⟩
        rw [← hjle] at k2 hj hjl
        have HJL := Lib.hid hjle
        have HCI := Lib.hid (cloneI _ _ _ _ (hj.alloc (.cells #[.int .i64 t', .int .i64 s', .slice ja jl jc, .bool z] 67)) (fun u hu => by obtain ⟨x, _, rfl⟩ := List.mem_map.1 hu; rfl) (by omega))
        have i0 : (0 : Int) ≤ (k : Int) := by omega
        have i1 : (k : Int) < (RS.length : Int) := by omega
        have HQ := Lib.hid hq
        have HF1 := Lib.hid hF1
        have HB := Lib.hid hb
        have HRW := Lib.hid hrows
        have HLK := Lib.hid hLk
        have hLb : L.length ≤ 4398046511104 := by omega
        clear hq hF1 hb hrows hLk hj hX hjle
        go_upto_region 5 with fail
        go_cut [] (fun wx => CopyM w wr cb L ws bs t' s' js z jl wx)
        case first =>
          go_wp2_with fail
          refine HCI.out.mono ?_
          rintro e w5 ⟨a5, c5, rfl, hm5, hb5⟩
          have hcl : wr.heap.size < w5.heap.size := by have := hb5.size; simp at this; omega
          have p5 : w5.heap[wr.heap.size]? = some (.cells #[.int .i64 t', .int .i64 s', .slice ja jl jc, .bool z] 67 (0, 0)) := (hb5.block wr.heap.size (by simp)).trans (heap_alloc_new wr _)
          have x2 : w5.cell? ⟨wr.heap.size, 2, none⟩ = some (.slice ja jl jc) := cell_of_block p5 rfl
          have f2 : w5.frozen? ⟨wr.heap.size, 2, none⟩ = false := free_of_block p5
          have HM5 := Lib.hid hm5
          have HB5 := Lib.hid hb5
          have HP5 := Lib.hid p5
          clear hm5 hb5 p5
          go_wp2_with fail
          go_meet
          have hb1 : Below wr.heap.size wr w5 := ((Below.refl wr.heap.size wr).alloc (Nat.le_refl _) _).trans (HB5.out.mono (by simp))
          have hks : Keeps w5 (w5.setCell ⟨wr.heap.size, 2, none⟩ (.slice a5 jl c5)) (fun x => x = wr.heap.size) := Keeps.setCell _ _ _ rfl
          have hb2 : Below wr.heap.size wr (w5.setCell ⟨wr.heap.size, 2, none⟩ (.slice a5 jl c5)) := hb1.trans (hks.below (by omega) fun b h => by omega)
          have hlo : ∀ x, (Value.slice a5 jl c5).ownBlock = some x → wr.heap.size + 1 ≤ x := fun x hx => by have := (HM5.out.lt x hx).1; simpa using this
          obtain ⟨xra, xwa, xba, xrc, xwc, xbc, hbox⟩ := QS.box.1 HQ.out
          obtain ⟨G5, g1, g2, g3⟩ := hbox.push hb2 ⟨.slice a5 jl c5, 3, 1, jl, js.map IV⟩ ((HM5.out.mono (Nat.zero_le _)).setCell _ (fun e => by have := hlo _ e; simp only at this; omega)) (fun x hx => by have := hlo x hx; omega)
          refine ⟨xra, xwa, xba, xrc, xwc, xbc, a5, c5, G5 , ?_, ?_, ?_, fun x hx => ?_, HB.out.trans (hb2.mono HB.out.size)⟩
          · rw [← HJL.out]; exact g1
          · rw [heap_setCell_same w5 wr.heap.size 2 _ _ _ HP5.out]; rfl
          · trivial
          · rcases g2 x hx with h | h
            · exact HF1.out x h
            · exact Nat.le_trans HB.out.size h
        case rest =>
          obtain ⟨w6, rfl⟩ : ∃ w6 : World, w6 = wc := ⟨_, rfl⟩
          obtain ⟨xra, xwa, xba, xrc, xwc, xbc, a5, c5, G5, hbox, hp6, hG6, hGw, hb6⟩ := hcut
          have y0 : w6.cell? ⟨wr.heap.size, 0, none⟩ = some (.int .i64 t') := cell_of_block hp6 rfl
          have y1 : w6.cell? ⟨wr.heap.size, 1, none⟩ = some (.int .i64 s') := cell_of_block hp6 rfl
          have y2 : w6.cell? ⟨wr.heap.size, 2, none⟩ = some (.slice a5 jl c5) := cell_of_block hp6 rfl
          have y3 : w6.cell? ⟨wr.heap.size, 3, none⟩ = some (.bool z) := cell_of_block hp6 rfl
          have hyl := lt_of_block hp6
          have d0 : w6.cell? ⟨cb, 0, none⟩ = some (.slice xra L.length xrc) := hbox.cell 0 rfl
          have hcl : cb < w6.heap.size := hbox.lt cb hbox.2.2.1
          have hfo := hbox.foot 0 (p := ⟨.slice xra L.length xrc, 67, 4, L.length, L.flatMap rowCells⟩) rfl
          simp only at hfo
          have hm0 : Mid w6 0 67 4 (.slice xra L.length xrc) L.length (L.flatMap rowCells) := hbox.mid 0 (p := ⟨.slice xra L.length xrc, 67, 4, L.length, L.flatMap rowCells⟩) rfl
          have HM0 := Lib.hid (show Mid ((w6.alloc (.cells #[.int .i64 t', .int .i64 s', .slice a5 jl c5, .bool z] 67)).drew) 0 67 4 (.slice xra L.length xrc) L.length (L.flatMap rowCells) from (hm0.alloc _).drew)
          have HS0 := Lib.hid (show Src Tryd.prog 4 63 (.slice (some ⟨w6.heap.size, 0, none⟩) 1 1) 1 [.int .i64 t', .int .i64 s', .slice a5 jl c5, .bool z] ((w6.alloc (.cells #[.int .i64 t', .int .i64 s', .slice a5 jl c5, .bool z] 67)).drew) from (show Sl ((w6.alloc (.cells #[.int .i64 t', .int .i64 s', .slice a5 jl c5, .bool z] 67)).drew) 4 _ 1 _ from Sl.lit w6 67 4 1 [.int .i64 t', .int .i64 s', .slice a5 jl c5, .bool z] (by unfold maxLen; omega) rfl).src (P := Tryd.prog) Tryd.underlying63 (fun u hu => by
            simp only [List.mem_cons, List.not_mem_nil, or_false] at hu
            rcases hu with rfl | rfl | rfl | rfl <;> rfl))
          have hbo : Below w6.heap.size w6 ((w6.alloc (.cells #[.int .i64 t', .int .i64 s', .slice a5 jl c5, .bool z] 67)).drew) := ((Below.refl _ _).alloc (Nat.le_refl _) _).drew
          have hkb : ∀ w4, ((w6.alloc (.cells #[.int .i64 t', .int .i64 s', .slice a5 jl c5, .bool z] 67)).drew).grownBy w4 (Value.slice xra L.length xrc).ownBlock → w4.heap[cb]? = w6.heap[cb]? := fun w4 hg => by
            refine (hg.block cb (by simp; omega) fun e => ?_).trans (hbo.block cb hcl)
            exact (hfo cb e.symm).2 rfl
          have HK0 := Lib.hid (fun w4 hg => (World.cell?_of_block (a := ⟨cb, 0, none⟩) (hkb w4 hg)).trans d0)
          have HK1 := Lib.hid (fun w4 hg => (World.frozen?_of_block (a := ⟨cb, 0, none⟩) (hkb w4 hg)).trans (hbox.free 0))
          have a0 : (w6.alloc (.cells #[.int .i64 t', .int .i64 s', .slice a5 jl c5, .bool z] 67)).cell? ⟨cb, 0, none⟩ = some (.slice xra L.length xrc) := (World.cell?_alloc_lt _ _ ⟨cb, 0, none⟩ hcl).trans d0
          have z0 := (World.cell?_alloc_lt w6 (.cells #[.int .i64 t', .int .i64 s', .slice a5 jl c5, .bool z] 67) ⟨wr.heap.size, 0, none⟩ hyl).trans y0
          have z1 := (World.cell?_alloc_lt w6 (.cells #[.int .i64 t', .int .i64 s', .slice a5 jl c5, .bool z] 67) ⟨wr.heap.size, 1, none⟩ hyl).trans y1
          have z2 := (World.cell?_alloc_lt w6 (.cells #[.int .i64 t', .int .i64 s', .slice a5 jl c5, .bool z] 67) ⟨wr.heap.size, 2, none⟩ hyl).trans y2
          have z3 := (World.cell?_alloc_lt w6 (.cells #[.int .i64 t', .int .i64 s', .slice a5 jl c5, .bool z] 67) ⟨wr.heap.size, 3, none⟩ hyl).trans y3
          have HBOX := Lib.hid hbox
          have HGW := Lib.hid hGw
          have HB6 := Lib.hid hb6
          clear hbox hp6 hG6 hGw hb6 hfo hm0 hbo hkb k0 k1 k2 k3
          go_upto_region 6 with fail
          go_region_law ((refine step_append_mid (v := .slice xra L.length xrc) (by rfl) _ _ 63 63 (by rfl) tj (.agg #[.int .i64 0, .int .i64 0, .slice none 0 0, .bool false]) 48 Tryd.underlying63 hi' hy0 hy1 hy2 rfl (by rfl) HM0.out _ (by rfl) 1 _ HS0.out (by unfold maxLen; omega) (by omega) (Nat.zero_le _) ?_; intro a4 c4 w4 hmo hgo hbo; have q4 := HK0.out w4 hgo; have q5 := HK1.out w4 hgo; have HMO := Lib.hid hmo; have HGO := Lib.hid hgo; have HBO := Lib.hid hbo; clear hmo hgo hbo))
          all_goals
            go_wp2_with fail
            go_roundw
            case rel =>
              have hk : Keeps w6 w4 (fun k => (Value.slice xra L.length xrc).ownBlock = some k) := (((Keeps.alloc w6 _ (fun k => (Value.slice xra L.length xrc).ownBlock = some k)).trans (Keeps.drew _ (fun _ => False)) fun _ _ h => h.elim).trans (Keeps.of_grown HGO.out (S := fun k => (Value.slice xra L.length xrc).ownBlock = some k) fun b h => h) fun _ _ h => h)
              obtain ⟨F7, g1, g2, g3⟩ := QS.more (r := ⟨t', s', js, z⟩) (v := .slice a5 jl c5) HBOX.out hk HMO.out (fun x hx => by
                rcases HBO.out with e | e
                · exact .inl (e ▸ hx)
                · rw [e] at hx; cases hx; right; simp)
              have hz6 := HB6.out.size
              refine ⟨k + 1, F7, L ++ [(⟨t', s', js, z⟩, .slice a5 jl c5)], by omega, by go_num, g1, ?_, fun x hx => ?_, HB6.out.trans (g3.below hz6 HGW.out)⟩
              · rw [List.take_succ_eq_append_getElem hlt]
                have := HRW.out
                unfold rowsOf at this ⊢
                rw [List.map_append, List.map_append, this, ← HXE.out]; rfl
              · rcases g2 x hx with h | h
                · exact HGW.out x h
                · omega
            case measure => simp [intOf]; omega
      · obtain rfl : k = RS.length := by omega
        rw [List.take_length] at hrows
        have HQ := Lib.hid hq
        have HF1 := Lib.hid hF1
        have HB := Lib.hid hb
        have HRW := Lib.hid hrows
        have hge : ¬ (RS.length : Int) < (RS.length : Int) := by omega
        clear hq hF1 hb hrows hLk
        go_wp2
        go_ret
        exact ⟨cb, F1, rfl, ⟨L, HRW.out, HQ.out⟩, HF1.out, HB.out⟩
end Go.Proofs.YtkbopcgijaejjaaDoor
