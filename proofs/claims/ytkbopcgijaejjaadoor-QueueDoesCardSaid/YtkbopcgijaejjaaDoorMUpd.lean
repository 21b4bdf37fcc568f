/-
  What writes make of the model of actuarylaw30; no walk.
  Printed by a program of this repository (wip/qu18.py).
-/
import Derived.Test.YtkbopcgijaejjaaDoorMPut
namespace Go.Proofs.YtkbopcgijaejjaaDoor
open Go.RowKit

/-- A row's mark is set. -/
theorem MS.taken {w : World} {mb : Nat} {G : Nat → Prop} {RS : List (Rw × Value)} {ws : List (Int × Int)} {bs : List Bool} (h : MS w mb G RS ws bs) (I : Nat) (hI : I < RS.length) (z : Bool) {b of c : Nat} (hcc : w.cell? ⟨mb, 2, none⟩ = some (.slice (some ⟨b, of, none⟩) RS.length c)) :
    MA w mb G (RS.set I (⟨RS[I].1.t, RS[I].1.s, RS[I].1.jobs, z⟩, RS[I].2)) ws bs (w.setCell ⟨b, of + I, none⟩ (.bool z)) := by
  obtain ⟨ka, ja, ta, ha, ba, kc, jc, tc, hc, bc, hbox⟩ := h
  have e := (hbox.cell 2 rfl).symm.trans hcc
  obtain ⟨rfl, rfl⟩ : ta = some ⟨b, of, none⟩ ∧ tc = c := by cases e; exact ⟨rfl, rfl⟩
  have hm : Mid w 0 4 1 (.slice (some ⟨b, of, none⟩) RS.length tc) RS.length (RS.map fun p => Value.bool p.1.busy) := hbox.mid 2 rfl
  have b1 := hbox.write (w' := w.setCell ⟨b, of + I, none⟩ (.bool z)) 2 rfl ⟨.slice (some ⟨b, of, none⟩) RS.length tc, 4, 1, RS.length, (RS.map fun (p : Rw × Value) => Value.bool p.1.busy).set I (Value.bool z)⟩ (Keeps.setCell _ _ _ rfl) (hm.stored I _) (fun k hk => .inl hk)
  refine MA.of_box (ka := ka) (ja := ja) (ta := some ⟨b, of, none⟩) (ha := ha) (ba := ba) (kc := kc) (jc := jc) (tc := tc) (hc := hc) (bc := bc) ?_
  have e1 : (RS.set I (⟨RS[I].1.t, RS[I].1.s, RS[I].1.jobs, z⟩, RS[I].2)).flatMap keyCells = RS.flatMap keyCells := set_flat _ _ I hI _ rfl
  have e2 : (RS.set I (⟨RS[I].1.t, RS[I].1.s, RS[I].1.jobs, z⟩, RS[I].2)).map (fun p => p.2) = RS.map fun p => p.2 := set_map _ _ I hI _ rfl
  have e3 : (RS.set I (⟨RS[I].1.t, RS[I].1.s, RS[I].1.jobs, z⟩, RS[I].2)).map jp = RS.map jp := set_map _ _ I hI _ rfl
  have e : (mPs (.slice ka RS.length kc) (.slice ja RS.length jc) (.slice (some ⟨b, of, none⟩) RS.length tc) (.slice ha ws.length hc) (.slice ba bs.length bc) (RS.set I (⟨RS[I].1.t, RS[I].1.s, RS[I].1.jobs, z⟩, RS[I].2)) ws bs) = (mPs (.slice ka RS.length kc) (.slice ja RS.length jc) (.slice (some ⟨b, of, none⟩) RS.length tc) (.slice ha ws.length hc) (.slice ba bs.length bc) RS ws bs).set 2 ⟨.slice (some ⟨b, of, none⟩) RS.length tc, 4, 1, RS.length, (RS.map fun (p : Rw × Value) => Value.bool p.1.busy).set I (Value.bool z)⟩ := by
    unfold mPs
    rw [e1, e2, e3]
    simp [List.map_set]
  rw [List.length_set, e]
  exact b1
theorem MS.bz {w : World} {mb : Nat} {G : Nat → Prop} {RS : List (Rw × Value)} {ws : List (Int × Int)} {bs : List Bool} (h : MS w mb G RS ws bs) (n : Nat) (z : Bool) {b of c : Nat} (hcc : w.cell? ⟨mb, 4, none⟩ = some (.slice (some ⟨b, of, none⟩) bs.length c)) :
    MA w mb G RS ws (bs.set n z) (w.setCell ⟨b, of + n, none⟩ (.bool z)) := by
  obtain ⟨ka, ja, ta, ha, ba, kc, jc, tc, hc, bc, hbox⟩ := h
  have e := (hbox.cell 4 rfl).symm.trans hcc
  obtain ⟨rfl, rfl⟩ : ba = some ⟨b, of, none⟩ ∧ bc = c := by cases e; exact ⟨rfl, rfl⟩
  have hm : Mid w 0 4 1 (.slice (some ⟨b, of, none⟩) bs.length bc) bs.length (bs.map Value.bool) := hbox.mid 4 rfl
  have b1 := hbox.write (w' := w.setCell ⟨b, of + n, none⟩ (.bool z)) 4 rfl ⟨.slice (some ⟨b, of, none⟩) bs.length bc, 4, 1, bs.length, (bs.map Value.bool).set n (Value.bool z)⟩ (Keeps.setCell _ _ _ rfl) (hm.stored n _) (fun k hk => .inl hk)
  refine MA.of_box (ka := ka) (ja := ja) (ta := ta) (ha := ha) (ba := some ⟨b, of, none⟩) (kc := kc) (jc := jc) (tc := tc) (hc := hc) (bc := bc) ?_
  rw [List.length_set]
  have e : mPs (.slice ka RS.length kc) (.slice ja RS.length jc) (.slice ta RS.length tc) (.slice ha ws.length hc) (.slice (some ⟨b, of, none⟩) bs.length bc) RS ws (bs.set n z) = (mPs (.slice ka RS.length kc) (.slice ja RS.length jc) (.slice ta RS.length tc) (.slice ha ws.length hc) (.slice (some ⟨b, of, none⟩) bs.length bc) RS ws bs).set 4 ⟨.slice (some ⟨b, of, none⟩) bs.length bc, 4, 1, bs.length, (bs.map Value.bool).set n (Value.bool z)⟩ := by
    simp [mPs, List.map_set]
  rw [e]
  exact b1
theorem MS.work {w : World} {mb : Nat} {G : Nat → Prop} {RS : List (Rw × Value)} {ws : List (Int × Int)} {bs : List Bool} (h : MS w mb G RS ws bs) (n : Nat) (hn : n < ws.length) (t s : Int) {b of c : Nat} (hcc : w.cell? ⟨mb, 3, none⟩ = some (.slice (some ⟨b, of, none⟩) ws.length c)) :
    MA w mb G RS (ws.set n (t, s)) bs ((w.setCell ⟨b, of + n * 2, none⟩ (.int .i64 t)).setCell ⟨b, of + n * 2 + 1, none⟩ (.int .i64 s)) := by
  obtain ⟨ka, ja, ta, ha, ba, kc, jc, tc, hc, bc, hbox⟩ := h
  have e := (hbox.cell 3 rfl).symm.trans hcc
  obtain ⟨rfl, rfl⟩ : ha = some ⟨b, of, none⟩ ∧ hc = c := by cases e; exact ⟨rfl, rfl⟩
  have hm : Mid w 0 29 2 (.slice (some ⟨b, of, none⟩) ws.length hc) ws.length (ws.flatMap kyCells) := hbox.mid 3 rfl
  have hs := (hm.stored (n * 2 + 0) (.int .i64 t)).stored (n * 2 + 1) (.int .i64 s)
  rw [← kySet ws n hn t s] at hs
  simp only [← Nat.add_assoc, Nat.add_zero] at hs
  have b1 := hbox.write (w' := (w.setCell ⟨b, of + n * 2, none⟩ (.int .i64 t)).setCell ⟨b, of + n * 2 + 1, none⟩ (.int .i64 s)) 3 rfl ⟨.slice (some ⟨b, of, none⟩) ws.length hc, 29, 2, ws.length, (ws.set n (t, s)).flatMap kyCells⟩ ((Keeps.setCell w ⟨b, of + n * 2, none⟩ (.int .i64 t) (S := fun k => (Value.slice (some ⟨b, of, none⟩) ws.length hc).ownBlock = some k) rfl).trans (Keeps.setCell _ ⟨b, of + n * 2 + 1, none⟩ (.int .i64 s) (S := fun k => (Value.slice (some ⟨b, of, none⟩) ws.length hc).ownBlock = some k) rfl) fun _ _ h => h) hs (fun k hk => .inl hk)
  refine MA.of_box (ka := ka) (ja := ja) (ta := ta) (ha := some ⟨b, of, none⟩) (ba := ba) (kc := kc) (jc := jc) (tc := tc) (hc := hc) (bc := bc) ?_
  rw [List.length_set]
  have e : mPs (.slice ka RS.length kc) (.slice ja RS.length jc) (.slice ta RS.length tc) (.slice (some ⟨b, of, none⟩) ws.length hc) (.slice ba bs.length bc) RS (ws.set n (t, s)) bs = (mPs (.slice ka RS.length kc) (.slice ja RS.length jc) (.slice ta RS.length tc) (.slice (some ⟨b, of, none⟩) ws.length hc) (.slice ba bs.length bc) RS ws bs).set 3 ⟨.slice (some ⟨b, of, none⟩) ws.length hc, 29, 2, ws.length, (ws.set n (t, s)).flatMap kyCells⟩ := by
    simp [mPs]
  rw [e]
  exact b1
/-- What lies around a row and a worker of the model. -/
structure RowM (w : World) (mb : Nat) (RS : List (Rw × Value)) (I kb ko kc jb jo jc tb to_ tc : Nat) : Prop where
  c0 : w.cell? ⟨mb, 0, none⟩ = some (.slice (some ⟨kb, ko, none⟩) RS.length kc)
  c1 : w.cell? ⟨mb, 1, none⟩ = some (.slice (some ⟨jb, jo, none⟩) RS.length jc)
  c2 : w.cell? ⟨mb, 2, none⟩ = some (.slice (some ⟨tb, to_, none⟩) RS.length tc)
  k0 : ∀ (h : I < RS.length), w.cell? ⟨kb, ko + I * 2, none⟩ = some (.int .i64 RS[I].1.t)
  k1 : ∀ (h : I < RS.length), w.cell? ⟨kb, ko + I * 2 + 1, none⟩ = some (.int .i64 RS[I].1.s)
  j : ∀ (h : I < RS.length), w.cell? ⟨jb, jo + I, none⟩ = some RS[I].2
  t : ∀ (h : I < RS.length), w.cell? ⟨tb, to_ + I, none⟩ = some (.bool RS[I].1.busy)
  fj : w.frozen? ⟨jb, jo + I, none⟩ = false
  ft : w.frozen? ⟨tb, to_ + I, none⟩ = false
  len : RS.length ≤ 9223372036854775807
  jobs : ∀ (h : I < RS.length), Mid w 0 3 1 RS[I].2 RS[I].1.jobs.length (RS[I].1.jobs.map IV)
  ne : kb ≠ mb ∧ jb ≠ mb ∧ tb ≠ mb
theorem MS.row {w : World} {mb : Nat} {G : Nat → Prop} {RS : List (Rw × Value)} {ws : List (Int × Int)} {bs : List Bool} (h : MS w mb G RS ws bs) (I : Nat) (hI : I < RS.length) : ∃ kb ko kc jb jo jc tb to_ tc, RowM w mb RS I kb ko kc jb jo jc tb to_ tc := by
  obtain ⟨ka, ja, ta, ha, ba, kc, jc, tc, hc, bc, hbox⟩ := h
  have r := hbox.mr
  obtain ⟨kb, ko, rfl, _, k0, k1⟩ := mkey_get r.keys I hI
  obtain ⟨jb, jo, rfl, _, j0⟩ := one_get r.heads I hI
  obtain ⟨tb, to_, rfl, _, t0⟩ := one_get r.taken I hI
  exact ⟨kb, ko, kc, jb, jo, jc, tb, to_, tc, r.c0, r.c1, r.c2, fun _ => k0, fun _ => k1, fun _ => j0, fun _ => t0,
    (show Mid w 0 50 1 (.slice (some ⟨jb, jo, none⟩) RS.length jc) RS.length (RS.map fun p => p.2) from hbox.mid 1 rfl).frozen _,
    (show Mid w 0 4 1 (.slice (some ⟨tb, to_, none⟩) RS.length tc) RS.length (RS.map fun p => Value.bool p.1.busy) from hbox.mid 2 rfl).frozen _, r.keys.lenI.1,
    fun h => hbox.mid (I + 5) (p := jp RS[I]) (by simp [mPs, List.getElem?_eq_getElem h]), (hbox.foot 0 rfl kb rfl).2, (hbox.foot 1 rfl jb rfl).2, (hbox.foot 2 rfl tb rfl).2⟩
structure WorkM (w : World) (mb : Nat) (ws : List (Int × Int)) (bs : List Bool) (n hb ho hc zb zo zc : Nat) : Prop where
  c3 : w.cell? ⟨mb, 3, none⟩ = some (.slice (some ⟨hb, ho, none⟩) ws.length hc)
  c4 : w.cell? ⟨mb, 4, none⟩ = some (.slice (some ⟨zb, zo, none⟩) bs.length zc)
  h0 : ∀ (h : n < ws.length), w.cell? ⟨hb, ho + n * 2, none⟩ = some (.int .i64 ws[n].1)
  h1 : ∀ (h : n < ws.length), w.cell? ⟨hb, ho + n * 2 + 1, none⟩ = some (.int .i64 ws[n].2)
  z : ∀ (h : n < bs.length), w.cell? ⟨zb, zo + n, none⟩ = some (.bool bs[n])
  f0 : w.frozen? ⟨hb, ho + n * 2, none⟩ = false
  f1 : w.frozen? ⟨hb, ho + n * 2 + 1, none⟩ = false
  fz : w.frozen? ⟨zb, zo + n, none⟩ = false
  len : ws.length ≤ 9223372036854775807 ∧ bs.length ≤ 9223372036854775807
  ne : hb ≠ mb ∧ zb ≠ mb
theorem MS.worker {w : World} {mb : Nat} {G : Nat → Prop} {RS : List (Rw × Value)} {ws : List (Int × Int)} {bs : List Bool} (h : MS w mb G RS ws bs) (n : Nat) (hn : n < ws.length) (hl : ws.length = bs.length) : ∃ hb ho hc zb zo zc, WorkM w mb ws bs n hb ho hc zb zo zc := by
  obtain ⟨ka, ja, ta, ha, ba, kc, jc, tc, hc, bc, hbox⟩ := h
  have r := hbox.mr
  obtain ⟨hb, ho, rfl, _, k0, k1⟩ := key_get r.has n hn
  obtain ⟨zb, zo, rfl, _, z0⟩ := one_get r.busy n (by omega)
  have hm : Mid w 0 29 2 (.slice (some ⟨hb, ho, none⟩) ws.length hc) ws.length (ws.flatMap kyCells) := hbox.mid 3 rfl
  have hz : Mid w 0 4 1 (.slice (some ⟨zb, zo, none⟩) bs.length bc) bs.length (bs.map Value.bool) := hbox.mid 4 rfl
  exact ⟨hb, ho, hc, zb, zo, bc, r.c3, r.c4, fun _ => k0, fun _ => k1, fun _ => z0, hm.frozen _, hm.frozen _, hz.frozen _, ⟨r.has.lenI.1, r.busy.lenI.1⟩, (hbox.foot 3 rfl hb rfl).2, (hbox.foot 4 rfl zb rfl).2⟩
end Go.Proofs.YtkbopcgijaejjaaDoor
