/-
  put of actuarylaw30's model by contract; the conditions: the model's cells, and how many jobs there are.
  Printed by a program of this repository (wip/qu17.py).
-/
import Derived.Test.YtkbopcgijaejjaaDoorMAt
import Derived.Test.YtkbopcgijaejjaaDoorPut
namespace Go.Proofs.YtkbopcgijaejjaaDoor
open Go.RowKit Go.Extern.Stop Go.Stop Go.Extern

theorem Tryd.infoIS : (Tryd.prog.info? 50).map (fun i => (i.zero, i.size, i.bytes)) = some (some (.slice none 0 0), 1, 24) := by kernel_rfl
/-- What an act leaves of the model; nothing else is written. -/
def MA (w : World) (mb : Nat) (G : Nat → Prop) (RS : List (Rw × Value)) (ws : List (Int × Int)) (bs : List Bool) (w' : World) : Prop := ∃ G', MS w' mb G' RS ws bs ∧ (∀ k, G' k → G k ∨ w.heap.size ≤ k) ∧ Keeps w w' G
theorem MA.of_below {w w' : World} {mb : Nat} {G : Nat → Prop} {RS : List (Rw × Value)} {ws : List (Int × Int)} {bs : List Bool} (h : MS w mb G RS ws bs) (hb : Below w.heap.size w w') : MA w mb G RS ws bs w' :=
  ⟨G, h.below hb, fun _ h => .inl h, Keeps.of_below hb fun b h1 h2 => by omega⟩
theorem MA.trans {w w1 w2 : World} {mb : Nat} {G : Nat → Prop} {R1 R2 : List (Rw × Value)} {ws1 ws2 : List (Int × Int)} {bs1 bs2 : List Bool} (h : MA w mb G R1 ws1 bs1 w1) (k : ∀ G1, MS w1 mb G1 R1 ws1 bs1 → MA w1 mb G1 R2 ws2 bs2 w2) : MA w mb G R2 ws2 bs2 w2 := by
  obtain ⟨F1, h1, h2, h3⟩ := h
  obtain ⟨F2, k1, k2, k3⟩ := k F1 h1
  refine ⟨F2, k1, fun x hx => ?_, h3.trans k3 fun b hb hF => ?_⟩
  · rcases k2 x hx with h | h
    · exact h2 x h
    · right; have := h3.size; omega
  · rcases h2 b hF with h | h
    · exact h
    · omega
theorem MA.of_box {w w' : World} {mb : Nat} {G : Nat → Prop} {RS : List (Rw × Value)} {ws : List (Int × Int)} {bs : List Bool} {ka ja ta ha ba : Option Addr} {kc jc tc hc bc : Nat} (h : BoxA w mb 62 G [.slice ka RS.length kc, .slice ja RS.length jc, .slice ta RS.length tc, .slice ha ws.length hc, .slice ba bs.length bc] (mPs (.slice ka RS.length kc) (.slice ja RS.length jc) (.slice ta RS.length tc) (.slice ha ws.length hc) (.slice ba bs.length bc) RS ws bs) w') : MA w mb G RS ws bs w' := by
  obtain ⟨G', h1, h2, h3⟩ := h
  exact ⟨G', ⟨ka, ja, ta, ha, ba, kc, jc, tc, hc, bc, h1⟩, h2, h3⟩
theorem MA.pre {w w1 w' : World} {mb : Nat} {G : Nat → Prop} {RS : List (Rw × Value)} {ws : List (Int × Int)} {bs : List Bool} (hb : Below w.heap.size w w1) (h : MA w1 mb G RS ws bs w') : MA w mb G RS ws bs w' := by
  obtain ⟨G', h1, h2, h3⟩ := h
  have := hb.size
  exact ⟨G', h1, fun k hk => (h2 k hk).elim .inl fun h => .inr (by omega), (Keeps.of_below hb (S := G) fun b h1 h2 => absurd h1 (by omega)).trans h3 fun _ _ h => h⟩
theorem MA.step {w w1 w' : World} {mb : Nat} {G G1 : Nat → Prop} {RS : List (Rw × Value)} {ws : List (Int × Int)} {bs : List Bool} (hG : ∀ k, G1 k → G k ∨ w.heap.size ≤ k) (hk : Keeps w w1 G) (h : MA w1 mb G1 RS ws bs w') : MA w mb G RS ws bs w' := by
  obtain ⟨G', h1, h2, h3⟩ := h
  have := hk.size
  exact ⟨G', h1, fun k hk => (h2 k hk).elim (fun h => hG k h) fun h => .inr (by omega), hk.trans h3 fun b hb h => (hG b h).resolve_right (by omega)⟩
theorem set_flat {α : Type} (f : α → List Value) (l : List α) (i : Nat) (hi : i < l.length) (x : α) (h : f x = f l[i]) : (l.set i x).flatMap f = l.flatMap f := by
  rw [List.flatMap_def, List.flatMap_def, List.map_set, h]
  have : f l[i] = (l.map f)[i]'(by simpa using hi) := by rw [List.getElem_map]
  rw [this, List.set_getElem_self]
theorem set_map {α β : Type} (f : α → β) (l : List α) (i : Nat) (hi : i < l.length) (x : α) (h : f x = f l[i]) : (l.set i x).map f = l.map f := by
  rw [List.map_set, h]
  have : f l[i] = (l.map f)[i]'(by simpa using hi) := by rw [List.getElem_map]
  rw [this, List.set_getElem_self]
/-- A row's jobs are another slice; its header is stored. -/
theorem mjobs_world {w2 w4 : World} {mb : Nat} {G : Nat → Prop} {RX : List (Rw × Value)} {ws : List (Int × Int)} {bs : List Bool} (I : Nat) (hI : I < RX.length) (jobs : List Int) (v : Value) {ka ta ha ba : Option Addr} {kc jc tc hc bc jb jo : Nat}
    (h : Box w2 mb 62 G [.slice ka RX.length kc, .slice (some ⟨jb, jo, none⟩) RX.length jc, .slice ta RX.length tc, .slice ha ws.length hc, .slice ba bs.length bc] (mPs (.slice ka RX.length kc) (.slice (some ⟨jb, jo, none⟩) RX.length jc) (.slice ta RX.length tc) (.slice ha ws.length hc) (.slice ba bs.length bc) RX ws bs))
    (hk : Keeps w2 w4 (fun k => RX[I].2.ownBlock = some k)) (hmo : Mid w4 0 3 1 v jobs.length (jobs.map IV)) (hbo : ∀ k, v.ownBlock = some k → RX[I].2.ownBlock = some k ∨ w2.heap.size ≤ k) :
    MA w2 mb G (RX.set I (⟨RX[I].1.t, RX[I].1.s, jobs, RX[I].1.busy⟩, v)) ws bs (w4.setCell ⟨jb, jo + I, none⟩ v) := by
  have hjp : (mPs (.slice ka RX.length kc) (.slice (some ⟨jb, jo, none⟩) RX.length jc) (.slice ta RX.length tc) (.slice ha ws.length hc) (.slice ba bs.length bc) RX ws bs)[I + 5]? = some (jp RX[I]) := by simp [mPs, List.getElem?_eq_getElem hI]
  have b1 := h.write (I + 5) hjp ⟨v, 3, 1, jobs.length, jobs.map IV⟩ hk hmo hbo
  have b2 := b1.trans fun G1 hb1 => by
    have h1 : ((mPs (.slice ka RX.length kc) (.slice (some ⟨jb, jo, none⟩) RX.length jc) (.slice ta RX.length tc) (.slice ha ws.length hc) (.slice ba bs.length bc) RX ws bs).set (I + 5) ⟨v, 3, 1, jobs.length, jobs.map IV⟩)[1]? = some ⟨.slice (some ⟨jb, jo, none⟩) RX.length jc, 50, 1, RX.length, RX.map fun p => p.2⟩ := by
      rw [List.getElem?_set_ne (by omega)]; rfl
    have hm1 : Mid w4 0 50 1 (.slice (some ⟨jb, jo, none⟩) RX.length jc) RX.length (RX.map fun p => p.2) := hb1.mid 1 h1
    exact hb1.write (w' := w4.setCell ⟨jb, jo + I, none⟩ v) 1 h1 ⟨.slice (some ⟨jb, jo, none⟩) RX.length jc, 50, 1, RX.length, (RX.map fun (p : Rw × Value) => p.2).set I v⟩ (Keeps.setCell _ _ _ rfl) (hm1.stored I v) (fun k hk => .inl hk)
  refine MA.of_box (ka := ka) (ja := some ⟨jb, jo, none⟩) (ta := ta) (ha := ha) (ba := ba) (kc := kc) (jc := jc) (tc := tc) (hc := hc) (bc := bc) ?_
  have e1 : (RX.set I (⟨RX[I].1.t, RX[I].1.s, jobs, RX[I].1.busy⟩, v)).flatMap keyCells = RX.flatMap keyCells := set_flat _ _ I hI _ rfl
  have e2 : (RX.set I (⟨RX[I].1.t, RX[I].1.s, jobs, RX[I].1.busy⟩, v)).map (fun p => Value.bool p.1.busy) = RX.map fun p => Value.bool p.1.busy := set_map _ _ I hI _ rfl
  have e : mPs (.slice ka RX.length kc) (.slice (some ⟨jb, jo, none⟩) RX.length jc) (.slice ta RX.length tc) (.slice ha ws.length hc) (.slice ba bs.length bc) (RX.set I (⟨RX[I].1.t, RX[I].1.s, jobs, RX[I].1.busy⟩, v)) ws bs = ((mPs (.slice ka RX.length kc) (.slice (some ⟨jb, jo, none⟩) RX.length jc) (.slice ta RX.length tc) (.slice ha ws.length hc) (.slice ba bs.length bc) RX ws bs).set (I + 5) ⟨v, 3, 1, jobs.length, jobs.map IV⟩).set 1 ⟨.slice (some ⟨jb, jo, none⟩) RX.length jc, 50, 1, RX.length, (RX.map fun (p : Rw × Value) => p.2).set I v⟩ := by
    unfold mPs
    rw [e1, e2]
    simp [List.map_set, jp]
  rw [List.length_set, e]
  exact b2


set_option maxRecDepth 100000 in
set_option maxHeartbeats 8000000 in
theorem mput_hit (mb : Nat) (G : Nat → Prop) (RX : List (Rw × Value)) (ws : List (Int × Int)) (bs : List Bool) (t s job : Int) (w : World) (h : MS w mb G RX ws bs) (hh : atR RX t s < RX.length) (hn : allN RX ≤ 7036874417560) :
    Calls Tryd.prog 29 #[.pointer (some ⟨mb, 0, none⟩), .agg #[.int .i64 t, .int .i64 s], .int .i64 job] w fun e w' => (∃ v, e = .returned v) ∧ ∃ RX', rowsOf RX' = putS (rowsOf RX) t s job ∧ MA w mb G RX' ws bs w' := by
  have hb0 : Below w.heap.size w (w.alloc (.cells #[.int .i64 t, .int .i64 s] 29)) := (Below.refl _ _).alloc (Nat.le_refl _) _
  have HA := Lib.hid (mat_any mb G RX ws bs t s _ (h.below hb0))
  have HM := Lib.hid (h.below hb0)
  have HVA := Lib.hid (show atV RX t s = (atR RX t s : Int) by unfold atV; rw [if_pos hh])
  have HH := Lib.hid h
  have HB0 := Lib.hid hb0
  have hjl := bounds_jobs _ hh
  obtain ⟨ti, hi, hz0, hz1, hz2⟩ := info_parts Tryd.infoI
  have hput : putS (rowsOf RX) t s job = rowsOf (RX.set (atR RX t s) (⟨RX[atR RX t s].1.t, RX[atR RX t s].1.s, RX[atR RX t s].1.jobs ++ [job], RX[atR RX t s].1.busy⟩, .slice none 0 0)) := by
    unfold putS
    rw [dif_pos (by rw [atS_of]; simpa [rowsOf] using hh)]
    have hk := (atR_hit hh).1
    simp only [rowsOf, List.map_set, List.getElem_map]
    have e := atS_of RX t s
    unfold rowsOf at e
    simp only [e, hk.1, hk.2]
  have HPUT := Lib.hid hput
  clear h hb0 hput
  generalize hIe : atR RX t s = I at *
  clear hIe
  go_enter Tryd.func29, Tryd.ntmps29
  go_wp2_with fail
  refine HA.out.mono ?_
  rintro e w2 ⟨rfl, hb2⟩
  rw [HVA.out]
  have hm2 := HM.out.below hb2
  have HFIN := Lib.hid (show ∀ R' w', MA w2 mb G R' ws bs w' → MA w mb G R' ws bs w' from fun R' w' h => MA.pre (HB0.out.trans (hb2.mono HB0.out.size)) h)
  clear hb2
  obtain ⟨ka, ja, ta, ha, ba, kc, jc, tc, hc, bc, hbox⟩ := hm2
  have r := hbox.mr
  have c1 := r.c1
  have hln : RX.length ≤ 9223372036854775807 := r.keys.lenI.1
  obtain ⟨jb, jo, rfl, hjlt, k2⟩ := one_get r.heads I hh
  have hjp : (mPs (.slice ka RX.length kc) (.slice (some ⟨jb, jo, none⟩) RX.length jc) (.slice ta RX.length tc) (.slice ha ws.length hc) (.slice ba bs.length bc) RX ws bs)[I + 5]? = some (jp RX[I]) := by simp [mPs, List.getElem?_eq_getElem hh]
  have hjm : Mid w2 0 3 1 RX[I].2 RX[I].1.jobs.length (RX[I].1.jobs.map IV) := hbox.mid (I + 5) hjp
  obtain ⟨va, vc, hv⟩ := hjm.slice
  have hfv : ∀ x, RX[I].2.ownBlock = some x → x ≠ mb ∧ x ≠ jb := fun x hx => ⟨(hbox.foot (I + 5) hjp x hx).2, fun e => hbox.apart (I + 5) 1 hjp rfl (by omega) x hx (by rw [e]; rfl)⟩
  have hfj : jb ≠ mb := (hbox.foot 1 rfl jb rfl).2
  have hmlt : mb < w2.heap.size := hbox.lt mb hbox.2.2.1
  have hjfz : w2.frozen? ⟨jb, jo + I, none⟩ = false := (show Mid w2 0 50 1 (.slice (some ⟨jb, jo, none⟩) RX.length jc) RX.length (RX.map fun p => p.2) from hbox.mid 1 rfl).frozen (jo + I)
  obtain ⟨jl, hjle⟩ : ∃ jl, jl = RX[I].1.jobs.length := ⟨_, rfl⟩
  obtain ⟨js, hjse⟩ : ∃ js, js = RX[I].1.jobs := ⟨_, rfl⟩
  have HJL := Lib.hid hjle
  have HJS := Lib.hid hjse
  rw [hv, ← hjle] at hfv hjm k2
  rw [← hjse] at hjm
  rw [← hjle] at hjl
  have HBOX := Lib.hid hbox
  have HV := Lib.hid hv
  have HR := Lib.hid r
  have hbo : Below w2.heap.size w2 ((w2.alloc (.cells #[.int .i64 job] 3)).drew) := ((Below.refl _ _).alloc (Nat.le_refl _) _).drew
  have hkb : ∀ w4, ((w2.alloc (.cells #[.int .i64 job] 3)).drew).grownBy w4 (Value.slice va jl vc).ownBlock → ∀ x, x < w2.heap.size → (x = mb ∨ x = jb) → w4.heap[x]? = w2.heap[x]? := fun w4 hg x hx hxe => by
    refine (hg.block x (by simp; omega) fun e => ?_).trans (hbo.block x hx)
    have := hfv x e.symm
    omega
  have HK0 := Lib.hid (fun w4 hg => (World.cell?_of_block (a := ⟨mb, 1, none⟩) (hkb w4 hg mb hmlt (.inl rfl))).trans c1)
  have HK1 := Lib.hid (fun w4 hg => (World.cell?_of_block (a := ⟨jb, jo + I, none⟩) (hkb w4 hg jb hjlt (.inr rfl))).trans k2)
  have HK2 := Lib.hid (fun w4 hg => (World.frozen?_of_block (a := ⟨jb, jo + I, none⟩) (hkb w4 hg jb hjlt (.inr rfl))).trans hjfz)
  have i0 : (0 : Int) ≤ (I : Int) := by omega
  have i1 : (I : Int) < (RX.length : Int) := by omega
  have a0 : (w2.alloc (.cells #[.int .i64 job] 3)).cell? ⟨mb, 1, none⟩ = some (.slice (some ⟨jb, jo, none⟩) RX.length jc) := (World.cell?_alloc_lt _ _ ⟨mb, 1, none⟩ hmlt).trans c1
  have a2 : (w2.alloc (.cells #[.int .i64 job] 3)).cell? ⟨jb, jo + I, none⟩ = some (.slice va jl vc) := (World.cell?_alloc_lt _ _ ⟨jb, jo + I, none⟩ hjlt).trans k2
  have HMJ := Lib.hid (show Mid ((w2.alloc (.cells #[.int .i64 job] 3)).drew) 0 3 1 (.slice va jl vc) jl (js.map IV) from (hjm.alloc _).drew)
  have HSJ := Lib.hid (show Src Tryd.prog 1 50 (.slice (some ⟨w2.heap.size, 0, none⟩) 1 1) 1 [.int .i64 job] ((w2.alloc (.cells #[.int .i64 job] 3)).drew) from (show Sl ((w2.alloc (.cells #[.int .i64 job] 3)).drew) 1 _ 1 _ from Sl.lit w2 3 1 1 [.int .i64 job] (by unfold maxLen; omega) rfl).src (P := Tryd.prog) Tryd.underlying50 (fun u hu => by rw [List.mem_singleton.1 hu]; rfl))
  clear hbox r hjm hv hfv hjle hjse hbo hkb hjp hfj
  go_wp2_with fail
  go_region_law ((refine step_append_mid (v := .slice va jl vc) (by rfl) _ _ 50 50 (by rfl) ti (.int .i64 0) 8 Tryd.underlying50 hi hz0 hz1 hz2 rfl (by rfl) HMJ.out _ (by rfl) 1 _ HSJ.out (by unfold maxLen; omega) (by omega) (Nat.zero_le _) ?_; intro a4 c4 w4 hmo hgo hbo; have q4 := HK0.out w4 hgo; have q5 := HK1.out w4 hgo; have q6 := HK2.out w4 hgo; have HMO := Lib.hid hmo; have HGO := Lib.hid hgo; have HBO := Lib.hid hbo; clear hmo hgo hbo))
  all_goals
    go_end0
    refine ⟨⟨_, rfl⟩, RX.set I (⟨RX[I].1.t, RX[I].1.s, RX[I].1.jobs ++ [job], RX[I].1.busy⟩, .slice a4 (jl + 1) c4), ?_, HFIN.out _ _ (mjobs_world I hh (RX[I].1.jobs ++ [job]) (.slice a4 (jl + 1) c4) HBOX.out (by rw [HV.out, ← HJL.out]; exact (((Keeps.alloc w2 _ (fun k => (Value.slice va jl vc).ownBlock = some k)).trans (Keeps.drew _ (fun _ => False)) fun _ _ h => h.elim).trans (Keeps.of_grown HGO.out (S := fun k => (Value.slice va jl vc).ownBlock = some k) fun b h => h) fun _ _ h => h)) (by rw [List.length_append, List.map_append, ← HJL.out, ← HJS.out]; exact HMO.out) (fun k hk => ?_))⟩
    rotate_left
    · rcases HBO.out with e | e
      · rw [HV.out, ← HJL.out]; rw [e] at hk; exact .inl hk
      · rw [e] at hk; cases hk; right; simp
    rw [HPUT.out]
    simp only [rowsOf, List.map_set]

/-- Headers and slices of the model, as they stand between two statements. -/
def psOf (kv jv tv hv bv : Value) (nk nj nt : Nat) (ks js ts : List Value) (RS : List (Rw × Value)) (ws : List (Int × Int)) (bs : List Bool) : List Pc :=
  ⟨kv, 29, 2, nk, ks⟩ :: ⟨jv, 50, 1, nj, js⟩ :: ⟨tv, 4, 1, nt, ts⟩ :: ⟨hv, 29, 2, ws.length, ws.flatMap kyCells⟩ :: ⟨bv, 4, 1, bs.length, bs.map Value.bool⟩ :: RS.map jp
def MP (w : World) (mb : Nat) (G : Nat → Prop) (nk nj nt : Nat) (ks js ts : List Value) (RS : List (Rw × Value)) (ws : List (Int × Int)) (bs : List Bool) (wx : World) : Prop :=
  ∃ (ka ja ta ha ba : Option Addr) (kc jc tc hc bc : Nat), BoxA w mb 62 G [.slice ka nk kc, .slice ja nj jc, .slice ta nt tc, .slice ha ws.length hc, .slice ba bs.length bc] (psOf (.slice ka nk kc) (.slice ja nj jc) (.slice ta nt tc) (.slice ha ws.length hc) (.slice ba bs.length bc) nk nj nt ks js ts RS ws bs) wx
set_option maxRecDepth 100000 in
set_option maxHeartbeats 8000000 in
theorem mput_none (mb : Nat) (G : Nat → Prop) (RS : List (Rw × Value)) (ws : List (Int × Int)) (bs : List Bool) (t s job : Int) (w : World) (h : MS w mb G RS ws bs) (hh0 : ¬ atR RS t s < RS.length) (hn : RS.length ≤ 4398046511104) :
    Calls Tryd.prog 29 #[.pointer (some ⟨mb, 0, none⟩), .agg #[.int .i64 t, .int .i64 s], .int .i64 job] w fun e w' => (∃ v, e = .returned v) ∧ ∃ RX', rowsOf RX' = putS (rowsOf RS) t s job ∧ MA w mb G RX' ws bs w' := by
  have hb0 : Below w.heap.size w (w.alloc (.cells #[.int .i64 t, .int .i64 s] 29)) := (Below.refl _ _).alloc (Nat.le_refl _) _
  have HA := Lib.hid (mat_any mb G RS ws bs t s _ (h.below hb0))
  have HM := Lib.hid (h.below hb0)
  have HVA := Lib.hid (show atV RS t s = -1 by unfold atV; rw [if_neg hh0])
  have HGl := Lib.hid h.lt
  have HB0 := Lib.hid hb0
  obtain ⟨ti, hi, hz0, hz1, hz2⟩ := info_parts Tryd.infoI
  obtain ⟨tk, hik, hk0, hk1, hk2⟩ := info_parts Tryd.infoK
  obtain ⟨tis, his, hs0, hs1, hs2⟩ := info_parts Tryd.infoIS
  obtain ⟨tb, hib, hb0', hb1', hb2'⟩ := info_parts Tryd.infoBo
  have HPUT0 := Lib.hid (show putS (rowsOf RS) t s job = rowsOf RS ++ [⟨t, s, [job], false⟩] by unfold putS; rw [dif_neg (by rw [atS_of]; simpa [rowsOf] using hh0)])
  clear h hb0 hh0
  go_enter Tryd.func29, Tryd.ntmps29
  go_wp2_with fail
  refine HA.out.mono ?_
  rintro e w2 ⟨rfl, hb2⟩
  rw [HVA.out]
  have hm2 := HM.out.below hb2
  have HPRE := Lib.hid (HB0.out.trans (hb2.mono HB0.out.size))
  have b0 : w2.cell? ⟨w.heap.size, 0, none⟩ = some (.int .i64 t) := (hb2.cell (p := ⟨w.heap.size, 0, none⟩) (by simp)).trans (by simp)
  have b1 : w2.cell? ⟨w.heap.size, 1, none⟩ = some (.int .i64 s) := (hb2.cell (p := ⟨w.heap.size, 1, none⟩) (by simp)).trans (by simp)
  have hwlt : w.heap.size < w2.heap.size := by have := hb2.size; simp at this; omega
  clear hb2
  obtain ⟨ka, ja, ta, ha, ba, kc, jc, tc, hc, bc, hbox⟩ := hm2
  have r := hbox.mr
  have c0 := r.c0
  have hln : RS.length ≤ 9223372036854775807 := r.keys.lenI.1
  have hmlt : mb < w2.heap.size := hbox.lt mb hbox.2.2.1
  have hm0 : Mid w2 0 29 2 (.slice ka RS.length kc) RS.length (RS.flatMap keyCells) := hbox.mid 0 rfl
  have hfo := hbox.foot 0 rfl
  simp only at hfo
  have HM0 := Lib.hid (show Mid ((w2.alloc (.cells #[.int .i64 t, .int .i64 s] 29)).drew) 0 29 2 (.slice ka RS.length kc) RS.length (RS.flatMap keyCells) from (hm0.alloc _).drew)
  have HS0 := Lib.hid (show Src Tryd.prog 2 44 (.slice (some ⟨w2.heap.size, 0, none⟩) 1 1) 1 [.int .i64 t, .int .i64 s] ((w2.alloc (.cells #[.int .i64 t, .int .i64 s] 29)).drew) from (show Sl ((w2.alloc (.cells #[.int .i64 t, .int .i64 s] 29)).drew) 2 _ 1 _ from Sl.lit w2 29 2 1 [.int .i64 t, .int .i64 s] (by unfold maxLen; omega) rfl).src (P := Tryd.prog) Tryd.underlying44 (fun u hu => by
    simp only [List.mem_cons, List.not_mem_nil, or_false] at hu
    rcases hu with rfl | rfl <;> rfl))
  have hbo : Below w2.heap.size w2 ((w2.alloc (.cells #[.int .i64 t, .int .i64 s] 29)).drew) := ((Below.refl _ _).alloc (Nat.le_refl _) _).drew
  have hkb : ∀ w4, ((w2.alloc (.cells #[.int .i64 t, .int .i64 s] 29)).drew).grownBy w4 (Value.slice ka RS.length kc).ownBlock → w4.heap[mb]? = w2.heap[mb]? := fun w4 hg => by
    refine (hg.block mb (by simp; omega) fun e => ?_).trans (hbo.block mb hmlt)
    exact (hfo mb e.symm).2 rfl
  have HK0 := Lib.hid (fun w4 hg => (World.cell?_of_block (a := ⟨mb, 0, none⟩) (hkb w4 hg)).trans c0)
  have HK1 := Lib.hid (fun w4 hg => (World.frozen?_of_block (a := ⟨mb, 0, none⟩) (hkb w4 hg)).trans (hbox.free 0))
  have a0 : (w2.alloc (.cells #[.int .i64 t, .int .i64 s] 29)).cell? ⟨mb, 0, none⟩ = some (.slice ka RS.length kc) := (World.cell?_alloc_lt _ _ ⟨mb, 0, none⟩ hmlt).trans c0
  have a1 : (w2.alloc (.cells #[.int .i64 t, .int .i64 s] 29)).cell? ⟨w.heap.size, 0, none⟩ = some (.int .i64 t) := (World.cell?_alloc_lt _ _ ⟨w.heap.size, 0, none⟩ hwlt).trans b0
  have a2 : (w2.alloc (.cells #[.int .i64 t, .int .i64 s] 29)).cell? ⟨w.heap.size, 1, none⟩ = some (.int .i64 s) := (World.cell?_alloc_lt _ _ ⟨w.heap.size, 1, none⟩ hwlt).trans b1
  have HBOX := Lib.hid hbox
  clear hbox r hm0 hfo hbo hkb
  go_upto_region 4 with fail
  go_cut [] (fun wx => MP w2 mb G (RS.length + 1) RS.length RS.length (RS.flatMap keyCells ++ [.int .i64 t, .int .i64 s]) (RS.map fun p => p.2) (RS.map fun p => Value.bool p.1.busy) RS ws bs wx)
  case first =>
    go_region_law ((refine step_append_mid (v := .slice ka RS.length kc) (by rfl) _ _ 44 44 (by rfl) tk (.agg #[.int .i64 0, .int .i64 0]) 16 Tryd.underlying44 hik hk0 hk1 hk2 rfl (by rfl) HM0.out _ (by rfl) 1 _ HS0.out (by unfold maxLen; omega) (by omega) (Nat.zero_le _) ?_; intro a4 c4 w4 hmo hgo hbo; have q4 := HK0.out w4 hgo; have q5 := HK1.out w4 hgo; have HMO := Lib.hid hmo; have HGO := Lib.hid hgo; have HBO := Lib.hid hbo; clear hmo hgo hbo))
    all_goals
      go_wp2_with fail
      go_meet
      have hk : Keeps w2 w4 (fun k => (Value.slice ka RS.length kc).ownBlock = some k) := (((Keeps.alloc w2 _ (fun k => (Value.slice ka RS.length kc).ownBlock = some k)).trans (Keeps.drew _ (fun _ => False)) fun _ _ h => h.elim).trans (Keeps.of_grown HGO.out (S := fun k => (Value.slice ka RS.length kc).ownBlock = some k) fun b h => h) fun _ _ h => h)
      have b1 := HBOX.out.write 0 rfl ⟨.slice a4 (RS.length + 1) c4, 29, 2, RS.length + 1, RS.flatMap keyCells ++ [Value.int .i64 t, Value.int .i64 s]⟩ hk HMO.out (fun k hk => by
        rcases HBO.out with e | e
        · exact .inl (e ▸ hk)
        · simp only at hk; rw [e] at hk; cases hk; right; simp)
      have b2 := b1.trans fun G1 hb1 => hb1.head 0 (.slice a4 (RS.length + 1) c4)
      exact ⟨a4, ja, ta, ha, ba, c4, jc, tc, hc, bc, b2⟩
  case rest =>
    clear a0 a1 a2 b0 b1 c0 HK0 HK1 HM0 HS0 HBOX
    obtain ⟨w5, rfl⟩ : ∃ w5 : World, w5 = wc := ⟨_, rfl⟩
    obtain ⟨ka, ja, ta, ha, ba, kc, jc, tc, hc, bc, G5, hb5, hG5, hk5⟩ := hcut
    have c1 : w5.cell? ⟨mb, 1, none⟩ = some (.slice ja RS.length jc) := hb5.cell 1 rfl
    have f1 : w5.frozen? ⟨mb, 1, none⟩ = false := hb5.free 1
    have hmlt5 : mb < w5.heap.size := hb5.lt mb hb5.2.2.1
    have hm0 : Mid w5 0 50 1 (.slice ja RS.length jc) RS.length (RS.map fun (p : Rw × Value) => p.2) := hb5.mid 1 rfl
    have hfo := hb5.foot 1 rfl
    simp only at hfo
    have HM0 := Lib.hid (hm0.alloc (.cells #[.slice none 0 0] 50))
    have HS0 := Lib.hid ((Sl.lit w5 50 1 1 [.slice none 0 0] (by unfold maxLen; omega) rfl).src (P := Tryd.prog) Tryd.underlying60 (fun u hu => by rw [List.mem_singleton.1 hu]; rfl))
    have hbo : Below w5.heap.size w5 (w5.alloc (.cells #[.slice none 0 0] 50)) := (Below.refl _ _).alloc (Nat.le_refl _) _
    have hkb : ∀ w4, (w5.alloc (.cells #[.slice none 0 0] 50)).grownBy w4 (Value.slice ja RS.length jc).ownBlock → w4.heap[mb]? = w5.heap[mb]? := fun w4 hg => by
      refine (hg.block mb (by simp; omega) fun e => ?_).trans (hbo.block mb hmlt5)
      exact (hfo mb e.symm).2 rfl
    have HK0 := Lib.hid (fun w4 hg => (World.cell?_of_block (a := ⟨mb, 1, none⟩) (hkb w4 hg)).trans c1)
    have HK1 := Lib.hid (fun w4 hg => (World.frozen?_of_block (a := ⟨mb, 1, none⟩) (hkb w4 hg)).trans f1)
    have HBOX := Lib.hid hb5
    have HG5 := Lib.hid hG5
    have HKP := Lib.hid hk5
    clear hb5 hG5 hk5 hm0 hfo hbo hkb f1
    go_upto_region 5 with fail
    go_cut [] (fun wx => MP w2 mb G (RS.length + 1) (RS.length + 1) RS.length (RS.flatMap keyCells ++ [.int .i64 t, .int .i64 s]) ((RS.map fun (p : Rw × Value) => p.2) ++ [.slice none 0 0]) (RS.map fun (p : Rw × Value) => Value.bool p.1.busy) RS ws bs wx)
    case first =>
      go_wp2_with (at_builtin; refine wpList_append_mid (v := .slice ja RS.length jc) rfl _ _ 60 60 rfl tis (.slice none 0 0) 24 Tryd.underlying60 his hs0 hs1 hs2 rfl rfl HM0.out _ rfl 1 _ HS0.out (by unfold maxLen; omega) (by omega) (Nat.zero_le _) ?_; intro a4 c4 w4 hmo hgo hbo; have q4 := HK0.out w4 hgo; have q5 := HK1.out w4 hgo; have HMO := Lib.hid hmo; have HGO := Lib.hid hgo; have HBO := Lib.hid hbo; clear hmo hgo hbo)
      go_meet
      have hk : Keeps w5 w4 (fun k => (Value.slice ja RS.length jc).ownBlock = some k) := (Keeps.alloc w5 _ (fun k => (Value.slice ja RS.length jc).ownBlock = some k)).trans (Keeps.of_grown HGO.out (S := fun k => (Value.slice ja RS.length jc).ownBlock = some k) fun b h => h) fun _ _ h => h
      have b1 := HBOX.out.write 1 rfl ⟨.slice a4 (RS.length + 1) c4, 50, 1, RS.length + 1, (RS.map fun (p : Rw × Value) => p.2) ++ [Value.slice none 0 0]⟩ hk HMO.out (fun k hk => by
        rcases HBO.out with e | e
        · exact .inl (e ▸ hk)
        · simp only at hk; rw [e] at hk; cases hk; right; simp)
      have b2 := b1.trans fun G1 hb1 => hb1.head 1 (.slice a4 (RS.length + 1) c4)
      obtain ⟨G6, g1, g2, g3⟩ := b2
      have hz5 := HKP.out.size
      exact ⟨ka, a4, ta, ha, ba, kc, c4, tc, hc, bc, G6, g1, fun k hk => (g2 k hk).elim (fun h => HG5.out k h) (fun h => .inr (by omega)), HKP.out.trans g3 fun b hb h => (HG5.out b h).resolve_right (by omega)⟩
    case rest =>
      clear c1 hmlt5 HK0 HK1 HM0 HS0 HBOX HG5 HKP
      obtain ⟨w6, rfl⟩ : ∃ w6 : World, w6 = wc := ⟨_, rfl⟩
      obtain ⟨ka, ja, ta, ha, ba, kc, jc, tc, hc, bc, G5, hb5, hG5, hk5⟩ := hcut
      have c1 : w6.cell? ⟨mb, 2, none⟩ = some (.slice ta RS.length tc) := hb5.cell 2 rfl
      have f1 : w6.frozen? ⟨mb, 2, none⟩ = false := hb5.free 2
      have hmlt5 : mb < w6.heap.size := hb5.lt mb hb5.2.2.1
      have hm0 : Mid w6 0 4 1 (.slice ta RS.length tc) RS.length (RS.map fun (p : Rw × Value) => Value.bool p.1.busy) := hb5.mid 2 rfl
      have hfo := hb5.foot 2 rfl
      simp only at hfo
      have HM0 := Lib.hid (hm0.alloc (.cells #[.bool false] 4))
      have HS0 := Lib.hid ((Sl.lit w6 4 1 1 [.bool false] (by unfold maxLen; omega) rfl).src (P := Tryd.prog) Tryd.underlying59 (fun u hu => by rw [List.mem_singleton.1 hu]; rfl))
      have hbo : Below w6.heap.size w6 (w6.alloc (.cells #[.bool false] 4)) := (Below.refl _ _).alloc (Nat.le_refl _) _
      have hkb : ∀ w4, (w6.alloc (.cells #[.bool false] 4)).grownBy w4 (Value.slice ta RS.length tc).ownBlock → w4.heap[mb]? = w6.heap[mb]? := fun w4 hg => by
        refine (hg.block mb (by simp; omega) fun e => ?_).trans (hbo.block mb hmlt5)
        exact (hfo mb e.symm).2 rfl
      have HK0 := Lib.hid (fun w4 hg => (World.cell?_of_block (a := ⟨mb, 2, none⟩) (hkb w4 hg)).trans c1)
      have HK1 := Lib.hid (fun w4 hg => (World.frozen?_of_block (a := ⟨mb, 2, none⟩) (hkb w4 hg)).trans f1)
      have HBOX := Lib.hid hb5
      have HG5 := Lib.hid hG5
      have HKP := Lib.hid hk5
      clear hb5 hG5 hk5 hm0 hfo hbo hkb f1
      go_upto_region 6 with fail
      go_cut [] (fun wx => MP w2 mb G (RS.length + 1) (RS.length + 1) (RS.length + 1) (RS.flatMap keyCells ++ [.int .i64 t, .int .i64 s]) ((RS.map fun (p : Rw × Value) => p.2) ++ [.slice none 0 0]) ((RS.map fun (p : Rw × Value) => Value.bool p.1.busy) ++ [.bool false]) RS ws bs wx)
      case first =>
        go_wp2_with (at_builtin; refine wpList_append_mid (v := .slice ta RS.length tc) rfl _ _ 59 59 rfl tb (.bool false) 1 Tryd.underlying59 hib hb0' hb1' hb2' rfl rfl HM0.out _ rfl 1 _ HS0.out (by unfold maxLen; omega) (by omega) (Nat.zero_le _) ?_; intro a4 c4 w4 hmo hgo hbo; have q4 := HK0.out w4 hgo; have q5 := HK1.out w4 hgo; have HMO := Lib.hid hmo; have HGO := Lib.hid hgo; have HBO := Lib.hid hbo; clear hmo hgo hbo)
        go_meet
        have hk : Keeps w6 w4 (fun k => (Value.slice ta RS.length tc).ownBlock = some k) := (Keeps.alloc w6 _ (fun k => (Value.slice ta RS.length tc).ownBlock = some k)).trans (Keeps.of_grown HGO.out (S := fun k => (Value.slice ta RS.length tc).ownBlock = some k) fun b h => h) fun _ _ h => h
        have b1 := HBOX.out.write 2 rfl ⟨.slice a4 (RS.length + 1) c4, 4, 1, RS.length + 1, (RS.map fun (p : Rw × Value) => Value.bool p.1.busy) ++ [Value.bool false]⟩ hk HMO.out (fun k hk => by
          rcases HBO.out with e | e
          · exact .inl (e ▸ hk)
          · simp only at hk; rw [e] at hk; cases hk; right; simp)
        have b2 := b1.trans fun G1 hb1 => hb1.head 2 (.slice a4 (RS.length + 1) c4)
        obtain ⟨G6, g1, g2, g3⟩ := b2
        have hz5 := HKP.out.size
        exact ⟨ka, ja, a4, ha, ba, kc, jc, c4, hc, bc, G6, g1, fun k hk => (g2 k hk).elim (fun h => HG5.out k h) (fun h => .inr (by omega)), HKP.out.trans g3 fun b hb h => (HG5.out b h).resolve_right (by omega)⟩
      case rest =>
        obtain ⟨w9, rfl⟩ : ∃ w9 : World, w9 = w2 := ⟨_, rfl⟩
        obtain ⟨w2, rfl⟩ : ∃ w2 : World, w2 = wc := ⟨_, rfl⟩
        obtain ⟨ka, ja, ta, ha, ba, kc, jc, tc, hc, bc, G6, hb6, hG6, hk6⟩ := hcut
        obtain ⟨RX, hRX⟩ : ∃ RX, RX = RS ++ [((⟨t, s, [], false⟩ : Rw), Value.slice none 0 0)] := ⟨_, rfl⟩
        obtain ⟨I, hI⟩ : ∃ I, I = RS.length := ⟨_, rfl⟩
        have hXl : RX.length = RS.length + 1 := by rw [hRX]; simp
        have hh : I < RX.length := by omega
        have hXI : RX[I] = (⟨t, s, [], false⟩, .slice none 0 0) := by subst hRX hI; simp
        have hjl : RX[I].1.jobs.length ≤ 0 := by rw [hXI]; simp
        obtain ⟨G7, g1, g2, g3⟩ := hb6.push (Below.refl _ _) ⟨.slice none 0 0, 3, 1, 0, []⟩ (Mid.nil _ _ _ _) (fun k hk => by cases hk)
        have hm2 : MS w2 mb G7 RX ws bs := ⟨ka, ja, ta, ha, ba, kc, jc, tc, hc, bc, by
          have e : mPs (.slice ka (RS.length + 1) kc) (.slice ja (RS.length + 1) jc) (.slice ta (RS.length + 1) tc) (.slice ha ws.length hc) (.slice ba bs.length bc) RX ws bs = psOf (.slice ka (RS.length + 1) kc) (.slice ja (RS.length + 1) jc) (.slice ta (RS.length + 1) tc) (.slice ha ws.length hc) (.slice ba bs.length bc) (RS.length + 1) (RS.length + 1) (RS.length + 1) (RS.flatMap keyCells ++ [.int .i64 t, .int .i64 s]) ((RS.map fun (p : Rw × Value) => p.2) ++ [.slice none 0 0]) ((RS.map fun (p : Rw × Value) => Value.bool p.1.busy) ++ [.bool false]) RS ws bs ++ [⟨.slice none 0 0, 3, 1, 0, []⟩] := by
            subst hRX
            simp [mPs, psOf, keyCells, jp]
          rw [hXl, e]; exact g1⟩
        have hz2 := hk6.size
        have HFIN := Lib.hid (show ∀ R' w', MA w2 mb G7 R' ws bs w' → MA w mb G R' ws bs w' from fun R' w' h => MA.pre HPRE.out (MA.step hG6 hk6 (MA.step g2 g3 h)))
        have hput : putS (rowsOf RS) t s job = rowsOf (RX.set I (⟨RX[I].1.t, RX[I].1.s, RX[I].1.jobs ++ [job], RX[I].1.busy⟩, .slice none 0 0)) := by
          rw [HPUT0.out, hXI]
          subst hRX hI
          simp [rowsOf]
        have HPUT := Lib.hid hput
        have hIb : I ≤ 4398046511104 := by omega
        have HIE := Lib.hid hI
        rw [← hI]
        clear hput hXI hRX hI hXl hb6 hG6 hk6 g1 g2 g3 hz2 c1 hmlt5
        obtain ⟨ka, ja, ta, ha, ba, kc, jc, tc, hc, bc, hbox⟩ := hm2
        have r := hbox.mr
        have c1 := r.c1
        have hln : RX.length ≤ 9223372036854775807 := r.keys.lenI.1
        obtain ⟨jb, jo, rfl, hjlt, k2⟩ := one_get r.heads I hh
        have hjp : (mPs (.slice ka RX.length kc) (.slice (some ⟨jb, jo, none⟩) RX.length jc) (.slice ta RX.length tc) (.slice ha ws.length hc) (.slice ba bs.length bc) RX ws bs)[I + 5]? = some (jp RX[I]) := by simp [mPs, List.getElem?_eq_getElem hh]
        have hjm : Mid w2 0 3 1 RX[I].2 RX[I].1.jobs.length (RX[I].1.jobs.map IV) := hbox.mid (I + 5) hjp
        obtain ⟨va, vc, hv⟩ := hjm.slice
        have hfv : ∀ x, RX[I].2.ownBlock = some x → x ≠ mb ∧ x ≠ jb := fun x hx => ⟨(hbox.foot (I + 5) hjp x hx).2, fun e => hbox.apart (I + 5) 1 hjp rfl (by omega) x hx (by rw [e]; rfl)⟩
        have hfj : jb ≠ mb := (hbox.foot 1 rfl jb rfl).2
        have hmlt : mb < w2.heap.size := hbox.lt mb hbox.2.2.1
        have hjfz : w2.frozen? ⟨jb, jo + I, none⟩ = false := (show Mid w2 0 50 1 (.slice (some ⟨jb, jo, none⟩) RX.length jc) RX.length (RX.map fun p => p.2) from hbox.mid 1 rfl).frozen (jo + I)
        obtain ⟨jl, hjle⟩ : ∃ jl, jl = RX[I].1.jobs.length := ⟨_, rfl⟩
        obtain ⟨js, hjse⟩ : ∃ js, js = RX[I].1.jobs := ⟨_, rfl⟩
        have HJL := Lib.hid hjle
        have HJS := Lib.hid hjse
        rw [hv, ← hjle] at hfv hjm k2
        rw [← hjse] at hjm
        rw [← hjle] at hjl
        have HBOX := Lib.hid hbox
        have HV := Lib.hid hv
        have HR := Lib.hid r
        have hbo : Below w2.heap.size w2 ((w2.alloc (.cells #[.int .i64 job] 3)).drew) := ((Below.refl _ _).alloc (Nat.le_refl _) _).drew
        have hkb : ∀ w4, ((w2.alloc (.cells #[.int .i64 job] 3)).drew).grownBy w4 (Value.slice va jl vc).ownBlock → ∀ x, x < w2.heap.size → (x = mb ∨ x = jb) → w4.heap[x]? = w2.heap[x]? := fun w4 hg x hx hxe => by
          refine (hg.block x (by simp; omega) fun e => ?_).trans (hbo.block x hx)
          have := hfv x e.symm
          omega
        have HK0 := Lib.hid (fun w4 hg => (World.cell?_of_block (a := ⟨mb, 1, none⟩) (hkb w4 hg mb hmlt (.inl rfl))).trans c1)
        have HK1 := Lib.hid (fun w4 hg => (World.cell?_of_block (a := ⟨jb, jo + I, none⟩) (hkb w4 hg jb hjlt (.inr rfl))).trans k2)
        have HK2 := Lib.hid (fun w4 hg => (World.frozen?_of_block (a := ⟨jb, jo + I, none⟩) (hkb w4 hg jb hjlt (.inr rfl))).trans hjfz)
        have i0 : (0 : Int) ≤ (I : Int) := by omega
        have i1 : (I : Int) < (RX.length : Int) := by omega
        have a0 : (w2.alloc (.cells #[.int .i64 job] 3)).cell? ⟨mb, 1, none⟩ = some (.slice (some ⟨jb, jo, none⟩) RX.length jc) := (World.cell?_alloc_lt _ _ ⟨mb, 1, none⟩ hmlt).trans c1
        have a2 : (w2.alloc (.cells #[.int .i64 job] 3)).cell? ⟨jb, jo + I, none⟩ = some (.slice va jl vc) := (World.cell?_alloc_lt _ _ ⟨jb, jo + I, none⟩ hjlt).trans k2
        have HMJ := Lib.hid (show Mid ((w2.alloc (.cells #[.int .i64 job] 3)).drew) 0 3 1 (.slice va jl vc) jl (js.map IV) from (hjm.alloc _).drew)
        have HSJ := Lib.hid (show Src Tryd.prog 1 50 (.slice (some ⟨w2.heap.size, 0, none⟩) 1 1) 1 [.int .i64 job] ((w2.alloc (.cells #[.int .i64 job] 3)).drew) from (show Sl ((w2.alloc (.cells #[.int .i64 job] 3)).drew) 1 _ 1 _ from Sl.lit w2 3 1 1 [.int .i64 job] (by unfold maxLen; omega) rfl).src (P := Tryd.prog) Tryd.underlying50 (fun u hu => by rw [List.mem_singleton.1 hu]; rfl))
        clear hbox r hjm hv hfv hjle hjse hbo hkb hjp hfj
        go_wp2_with fail
        go_region_law ((refine step_append_mid (v := .slice va jl vc) (by rfl) _ _ 50 50 (by rfl) ti (.int .i64 0) 8 Tryd.underlying50 hi hz0 hz1 hz2 rfl (by rfl) HMJ.out _ (by rfl) 1 _ HSJ.out (by unfold maxLen; omega) (by omega) (Nat.zero_le _) ?_; intro a4 c4 w4 hmo hgo hbo; have q4 := HK0.out w4 hgo; have q5 := HK1.out w4 hgo; have q6 := HK2.out w4 hgo; have HMO := Lib.hid hmo; have HGO := Lib.hid hgo; have HBO := Lib.hid hbo; clear hmo hgo hbo))
        all_goals
          go_end0
          refine ⟨⟨_, rfl⟩, RX.set I (⟨RX[I].1.t, RX[I].1.s, RX[I].1.jobs ++ [job], RX[I].1.busy⟩, .slice a4 (jl + 1) c4), ?_, HFIN.out _ _ (mjobs_world I hh (RX[I].1.jobs ++ [job]) (.slice a4 (jl + 1) c4) HBOX.out (by rw [HV.out, ← HJL.out]; exact (((Keeps.alloc w2 _ (fun k => (Value.slice va jl vc).ownBlock = some k)).trans (Keeps.drew _ (fun _ => False)) fun _ _ h => h.elim).trans (Keeps.of_grown HGO.out (S := fun k => (Value.slice va jl vc).ownBlock = some k) fun b h => h) fun _ _ h => h)) (by rw [List.length_append, List.map_append, ← HJL.out, ← HJS.out]; exact HMO.out) (fun k hk => ?_))⟩
          rotate_left
          · rcases HBO.out with e | e
            · rw [HV.out, ← HJL.out]; rw [e] at hk; exact .inl hk
            · rw [e] at hk; cases hk; right; simp
          rw [HPUT.out]
          simp only [rowsOf, List.map_set]
theorem mput_any (mb : Nat) (G : Nat → Prop) (RS : List (Rw × Value)) (ws : List (Int × Int)) (bs : List Bool) (t s job : Int) (w : World) (h : MS w mb G RS ws bs) (hn : allN RS ≤ 7036874417560) (hl : RS.length ≤ 4398046511104) :
    Calls Tryd.prog 29 #[.pointer (some ⟨mb, 0, none⟩), .agg #[.int .i64 t, .int .i64 s], .int .i64 job] w fun e w' => (∃ v, e = .returned v) ∧ ∃ RX', rowsOf RX' = putS (rowsOf RS) t s job ∧ MA w mb G RX' ws bs w' := by
  by_cases hh : atR RS t s < RS.length
  · exact mput_hit mb G RS ws bs t s job w h hh hn
  · exact mput_none mb G RS ws bs t s job w h hh hl
end Go.Proofs.YtkbopcgijaejjaaDoor
