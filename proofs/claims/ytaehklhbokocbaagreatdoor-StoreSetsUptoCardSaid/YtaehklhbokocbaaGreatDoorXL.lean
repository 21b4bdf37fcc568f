/-
  What the laws of a store stand on, part L: contracts and plain laws of LRef, LAwake; the conditions are each law's own.
-/
import Derived.Test.YtaehklhbokocbaaGreatDoorXK
set_option linter.unusedVariables false
set_option linter.unusedSimpArgs false
namespace Go.Proofs.YtaehklhbokocbaaGreatDoor
open Go.RowKit Go.Extern.Stop Go.Stop Go.Extern
theorem ErrV.low {w : World} {b1 b2 : Nat} {f : Fl} {v : Value} (h : ErrV w b1 f v) (hb : b2 ≤ b1) : ErrV w b2 f v := by
  rcases h with h | h | ⟨h1, h2, b, h3, h4⟩
  · exact .inl h
  · exact .inr (.inl h)
  · exact .inr (.inr ⟨h1, h2, b, Nat.le_trans hb h3, h4⟩)
theorem SAct.from {w w1 w2 : World} {sb : Nat} {G : Nat → Prop} {s : AS} (hb : Below w.heap.size w w1) (h : SAct w1 sb G s w2) : SAct w sb G s w2 := by
  obtain ⟨G1, h1, h2, h3⟩ := h
  have hz := hb.size
  exact ⟨G1, h1, fun k hk => (h2 k hk).imp id fun h => by omega, (below_keeps (p := G) hb).trans h3 fun _ _ h => h⟩
theorem SetR.from {w w1 w2 : World} {sb : Nat} {G : Nat → Prop} {r : Fl × AS} {e : Ending} (hb : Below w.heap.size w w1) (_ : ∀ k, G k → k < w.heap.size) (h : SetR w1 sb G r e w2) : SetR w sb G r e w2 := by
  obtain ⟨v, h1, h2, h3⟩ := h
  exact ⟨v, h1, h2.low hb.size, SAct.from hb h3⟩
end Go.Proofs.YtaehklhbokocbaaGreatDoor
namespace Go.Proofs.YtaehklhbokocbaaGreatDoor
open Go.RowKit Go.Extern.Stop Go.Stop Go.Extern
theorem rof_tuple (p q : Int) (w : World) (h1 : I64 p) (h2 : I64 q) (hq : ¬ q = 0) : Calls Tryz.prog 37 #[.int .i64 p, .int .i64 q] w fun e w' => ∃ v : Rv, e = .returned (.tuple #[v.val, .bool true]) ∧ v.ok w' ∧ v.small ∧ v.q = Rat.divInt p q ∧ Below w.heap.size w w' := by
  have hs := fracQ_small (v := (p, q)) h1 h2
  have hE : fracQ (p, q) = Rat.divInt p q := by unfold fracQ; rw [if_neg hq]
  rw [hE] at hs
  refine (rof_any (by decide : 1 ≤ 17592186044416) div_upto_word (by decide) (by decide) p q w h1.1 h1.2 h2.1 h2.2 hq).mono ?_
  rintro e w1 ⟨a, c, b, d2, rfl, hn, hm, hb9⟩
  have hr : RetR (Rat.divInt p q) w (.returned (ratV a c b d2 (Rat.divInt p q))) w1 := ⟨a, c, b, d2, rfl, hn, hm, hb9⟩
  obtain ⟨v, hv, ho, hq, hb⟩ := hr.rv
  rw [← hq] at hs
  exact ⟨v, by rw [Ending.returned.inj hv], ho, ⟨Nat.le_trans hs.1 (by decide), hs.2⟩, hq, hb⟩
def FSX (w : World) (sb : Nat) (s : AS) (tb : Nat) (v : Rv) (W : World) : Prop :=
  ∃ G, SA W sb G s ∧ (∀ k, G k → w.heap.size ≤ k) ∧ Below w.heap.size w W ∧ ¬ G tb ∧ (W.cell? ⟨tb, 0, none⟩ = some (.bool v.s) ∧ W.cell? ⟨tb, 1, none⟩ = some (.slice v.a v.l v.c) ∧ W.cell? ⟨tb, 2, none⟩ = some (.slice v.b v.m v.d)) ∧ v.ok W
section
variable {w W W' : World} {sb tb : Nat} {s s1 : AS} {v : Rv}
theorem FSX.cells (h : FSX w sb s tb v W) : W.cell? ⟨tb, 0, none⟩ = some (.bool v.s) ∧ W.cell? ⟨tb, 1, none⟩ = some (.slice v.a v.l v.c) ∧ W.cell? ⟨tb, 2, none⟩ = some (.slice v.b v.m v.d) := by obtain ⟨_, _, _, _, _, h, _⟩ := h; exact h
theorem FSX.bl (h : FSX w sb s tb v W) : Below w.heap.size w W := by obtain ⟨_, _, _, h, _⟩ := h; exact h
theorem FSX.ok (h : FSX w sb s tb v W) : v.ok W := by obtain ⟨_, _, _, _, _, _, h⟩ := h; exact h
theorem FSX.keep {S : Nat → Prop} (hc : W.cell? ⟨tb, 0, none⟩ = some (.bool v.s) ∧ W.cell? ⟨tb, 1, none⟩ = some (.slice v.a v.l v.c) ∧ W.cell? ⟨tb, 2, none⟩ = some (.slice v.b v.m v.d)) (hk : Keeps W W' S) (hn : ¬ S tb) : W'.cell? ⟨tb, 0, none⟩ = some (.bool v.s) ∧ W'.cell? ⟨tb, 1, none⟩ = some (.slice v.a v.l v.c) ∧ W'.cell? ⟨tb, 2, none⟩ = some (.slice v.b v.m v.d) := by
  obtain ⟨c0, c1, c2⟩ := hc
  have hl := World.block_lt_of_cell? _ _ c0
  exact ⟨(hk.cell (a := ⟨tb, 0, none⟩) hl hn).trans c0, (hk.cell (a := ⟨tb, 1, none⟩) hl hn).trans c1, (hk.cell (a := ⟨tb, 2, none⟩) hl hn).trans c2⟩
theorem FSX.below (h : FSX w sb s tb v W) (hb : Below W.heap.size W W') : FSX w sb s tb v W' := by
  obtain ⟨G, h1, h2, h3, h4, h5, h6⟩ := h
  exact ⟨G, h1.below hb, h2, h3.trans (hb.mono h3.size), h4, FSX.keep h5 (below_keeps (p := fun _ => False) hb) fun h => h, h6.below hb⟩
theorem FSX.act {P : AS → Ending → World → Prop} (h : FSX w sb s tb v W) {f : FuncId} {args : Array Value} {Q : Ending → World → Prop} (hc : ∀ G, SA W sb G s → Calls Tryz.prog f args W fun e W' => P s1 e W' ∧ SAct W sb G s1 W') (hq : ∀ e W', P s1 e W' → FSX w sb s1 tb v W' → Q e W') : Calls Tryz.prog f args W Q := by
  obtain ⟨G, h1, h2, h3, h4, h5, h6⟩ := h
  refine (hc G h1).mono ?_
  rintro e W' ⟨hp, G', g1, g2, g3⟩
  have hl := World.block_lt_of_cell? _ _ h5.1
  have hz := h3.size
  refine hq e W' hp ⟨G', g1, fun k hk => ?_, h3.trans (g3.below h3.size fun k hk => h2 k hk), fun hk => ?_, FSX.keep h5 g3 h4, h6.keeps g3 h1.noWords⟩
  · rcases g2 k hk with h7 | h7
    · exact h2 k h7
    · omega
  · rcases g2 tb hk with h7 | h7
    · exact h4 h7
    · exact absurd h7 (Nat.not_le_of_lt hl)
end
theorem nil_of {w : World} {base : Nat} {v : Value} (h : ErrV w base noF v) : v = .nilIface := by
  rcases h with h | h | h
  · exact h.2
  · exact absurd rfl h.2.2.1
  · exact absurd rfl h.1
theorem sl_nil (w : World) : Sl w 4 (.slice none 0 0) 0 [] := Sl.ofMid (Mid.nil w 0 87 4)
theorem add_split {w : World} {sb : Nat} {G : Nat → Prop} {n : Int} {s1 : AS} {e : Ending} {w' : World} (h : AddR w sb G ((n, noF), s1) e w') : e = .returned (.tuple #[.int .i64 n, .nilIface]) ∧ SAct w sb G s1 w' := by
  obtain ⟨v, h1, h2, h3⟩ := h
  rw [nil_of h2] at h1
  exact ⟨h1, h3⟩
theorem set_split {w : World} {sb : Nat} {G : Nat → Prop} {s1 : AS} {e : Ending} {w' : World} (h : SetR w sb G (noF, s1) e w') : e = .returned .nilIface ∧ SAct w sb G s1 w' := by
  obtain ⟨v, h1, h2, h3⟩ := h
  rw [nil_of h2] at h1
  exact ⟨h1, h3⟩
theorem wf1 : WF (⟨[], [⟨1, 1⟩], 0, 1⟩ : AS) := WF.new.addCol 1 []
theorem e01 : (⟨[], [], 0, 0⟩ : AS).addCol 1 [] = ((1, noF), (⟨[], [⟨1, 1⟩], 0, 1⟩ : AS)) := by kernel_rfl
theorem e12 : (⟨[], [⟨1, 1⟩], 0, 1⟩ : AS).addCol (Rat.divInt 1 2) [] = ((2, noF), (⟨[], [⟨1, 1⟩, ⟨2, (Rat.divInt 1 2)⟩], 0, 2⟩ : AS)) := by kernel_rfl
theorem e23 : (⟨[], [⟨1, 1⟩, ⟨2, (Rat.divInt 1 2)⟩], 0, 2⟩ : AS).addRow 2 4 [⟨2, 3⟩] = ((1, noF), (⟨[⟨1, 2, 4, [0, 3]⟩], [⟨1, 1⟩, ⟨2, (Rat.divInt 1 2)⟩], 1, 2⟩ : AS)) := by kernel_rfl
theorem e34 : (⟨[⟨1, 2, 4, [0, 3]⟩], [⟨1, 1⟩, ⟨2, (Rat.divInt 1 2)⟩], 1, 2⟩ : AS).dropCol 1 = (noF, (⟨[⟨1, 2, 4, [3]⟩], [⟨2, (Rat.divInt 1 2)⟩], 1, 2⟩ : AS)) := by kernel_rfl
theorem e45 : (⟨[⟨1, 2, 4, [3]⟩], [⟨2, (Rat.divInt 1 2)⟩], 1, 2⟩ : AS).addCol 5 [] = ((3, noF), (⟨[⟨1, 2, 4, [3, 0]⟩], [⟨2, (Rat.divInt 1 2)⟩, ⟨3, 5⟩], 1, 3⟩ : AS)) := by kernel_rfl
theorem wf2 : WF (⟨[], [⟨1, 1⟩, ⟨2, (Rat.divInt 1 2)⟩], 0, 2⟩ : AS) := by have h := wf1.addCol (Rat.divInt 1 2) []; rw [e12] at h; exact h
theorem wf3 : WF (⟨[⟨1, 2, 4, [0, 3]⟩], [⟨1, 1⟩, ⟨2, (Rat.divInt 1 2)⟩], 1, 2⟩ : AS) := by have h := wf2.addRow 2 4 [⟨2, 3⟩]; rw [e23] at h; exact h
theorem wf4 : WF (⟨[⟨1, 2, 4, [3]⟩], [⟨2, (Rat.divInt 1 2)⟩], 1, 2⟩ : AS) := by have h := wf3.dropCol 1; rw [e34] at h; exact h
theorem bits3 : (⟨[⟨1, 2, 4, [0, 3]⟩], [⟨1, 1⟩, ⟨2, (Rat.divInt 1 2)⟩], 1, 2⟩ : AS).bits = 12 := by decide +kernel
theorem setCoef_bad (W : World) (sb : Nat) (h : Rv) {w : World} {tb : Nat} {v : Rv} (hf : FSX w sb (⟨[⟨1, 2, 4, [3, 0]⟩], [⟨2, (Rat.divInt 1 2)⟩, ⟨3, 5⟩], 1, 3⟩ : AS) tb v W) : Calls Tryz.prog 27 #[.pointer (some ⟨sb, 0, none⟩), .int .i64 1, .int .i64 1, .agg #[.bool h.s, .slice h.a h.l h.c, .slice h.b h.m h.d]] W (FaultR W ⟨#[99, 111, 108, 117, 109, 110]⟩ 231 1 .returned) := by
  obtain ⟨G, ⟨rows, cols, h1, h2, h3, h4⟩, _⟩ := hf
  exact setCoef_noCol sb G rows cols _ _ 1 1 h W h1 (by rw [rowAt_atI h2, ar_len h2]; decide +kernel) (by rw [colAt_atI h3, ac_len h3]; decide +kernel)
theorem addRow_bad (W : World) (sb : Nat) (h v0 : Rv) (ea : Option Addr) (ec : Nat) {w : World} {tb : Nat} {v : Rv} (hf : FSX w sb (⟨[⟨1, 2, 4, [3, 0]⟩], [⟨2, (Rat.divInt 1 2)⟩, ⟨3, 5⟩], 1, 3⟩ : AS) tb v W) (hsl : Sl W 4 (.slice ea 2 ec) 2 [.int .i64 2, .bool h.s, .slice h.a h.l h.c, .slice h.b h.m h.d, .int .i64 2, .bool h.s, .slice h.a h.l h.c, .slice h.b h.m h.d]) : Calls Tryz.prog 15 #[.pointer (some ⟨sb, 0, none⟩), .int .i64 1, .agg #[.bool v0.s, .slice v0.a v0.l v0.c, .slice v0.b v0.m v0.d], .slice ea 2 ec] W (FaultR W ⟨#[99, 111, 108, 117, 109, 110]⟩ 1 2 fun x => .returned (.tuple #[.int .i64 0, x])) := by
  obtain ⟨G, ⟨rows, cols, h1, h2, h3, h4⟩, _⟩ := hf
  have e1 := ar_len h2
  have e2 := ac_len h3
  have hl : layQ (colV cols) 231 [⟨2, h.q⟩, ⟨2, h.q⟩] (List.replicate cols.length 0) (List.replicate cols.length false) = .error (1, 2) := by
    rw [colV_atV h3, e2]; kernel_rfl
  have hr : layF (colV cols) 231 [⟨2, h⟩, ⟨2, h⟩] (List.replicate cols.length Rv.zero) (List.replicate cols.length false) = .error (1, 2) := by
    cases hc : layF (colV cols) 231 [⟨2, h⟩, ⟨2, h⟩] (List.replicate cols.length Rv.zero) (List.replicate cols.length false) with
    | error r => have := lay_errQ _ _ _ _ _ _ hc; rw [zeros_q] at this; rw [Except.error.inj (this.symm.trans hl)]
    | ok r => have := lay_okQ _ _ _ _ _ _ hc; rw [zeros_q] at this; exact absurd (this.symm.trans hl) (by simp)
  exact addRow_fault sb G rows cols _ _ 1 v0 [⟨2, h⟩, ⟨2, h⟩] ea ec W h1 (by omega) (by omega) (by rw [e1]; decide) (by rw [e2]; decide) hsl 1 2 hr
set_option maxRecDepth 100000 in
set_option maxHeartbeats 16000000 in
theorem awake_any (w : World) (hg : Hg w) : Calls Tryz.prog 10 #[] w fun e w' => e = .returned (.bool true) ∧ Below w.heap.size w w' := by
  have HG := Lib.hid hg
  clear hg
  go_enter Tryz.func10, Tryz.ntmps10
  go_wp2_with fail
  refine (as_new w).mono ?_
  rintro e w1 ⟨s1b, G1, rfl, hsa1, hg1, hb1⟩
  have HSA1 := Lib.hid hsa1
  have HG1 := Lib.hid hg1
  have HB1 := Lib.hid hb1
  clear hsa1 hg1 hb1
  go_wp2_with fail
  refine (rof_tuple 1 2 w1 (by unfold I64; omega) (by unfold I64; omega) (by decide)).mono ?_
  rintro e w2 ⟨h, rfl, ho, hsm, hq, hb2⟩
  unfold Rv.val
  have HSM := Lib.hid hsm
  have HQ := Lib.hid hq
  obtain ⟨w3, hw3⟩ : ∃ w3, w2.alloc (.cells #[.bool h.s, .slice h.a h.l h.c, .slice h.b h.m h.d] 51) = w3 := ⟨_, rfl⟩
  obtain ⟨tb, htb⟩ : ∃ tb, w2.heap.size = tb := ⟨_, rfl⟩
  have hf3 : FSX w s1b (⟨[], [], 0, 0⟩ : AS) tb h w3 := by
    have hb3 := belowBox w2 (.cells #[.bool h.s, .slice h.a h.l h.c, .slice h.b h.m h.d] 51)
    have hsz := hb2.size
    rw [hw3] at hb3
    refine ⟨G1, (HSA1.out.below hb2).below hb3, HG1.out, (HB1.out.trans (hb2.mono HB1.out.size)).trans (hb3.mono (HB1.out.trans (hb2.mono HB1.out.size)).size), fun hk => by have := HSA1.out.lt _ hk; omega, ⟨?_, ?_, ?_⟩, ho.below hb3⟩
    · rw [← hw3, ← htb]; simp
    · rw [← hw3, ← htb]; simp
    · rw [← hw3, ← htb]; simp
  have HF3 := Lib.hid hf3
  have HW3 := Lib.hid hw3
  have HTB := Lib.hid htb
  clear ho hsm hq hb2 hf3 hw3 htb
  go_upto_region 5 with fail
  (try simp only [HW3.out, HTB.out])
  clear HW3 HTB
  go_wp2_with fail
  refine (vint_any 1 w3 (by unfold I64; omega)).mono ?_
  rintro e w4 ⟨v1, rfl, ho, hsm, hq, hb⟩
  unfold Rv.val
  have HF4 := Lib.hid (HF3.out.below hb)
  have HV := Lib.hid (show v1.ok w4 ∧ v1.small ∧ v1.q = 1 from ⟨ho, hsm, hq⟩)
  clear ho hsm hq hb
  go_wp2_with fail
  refine HF4.out.act (s1 := (⟨[], [⟨1, 1⟩], 0, 1⟩ : AS)) (P := fun _ e _ => e = .returned (.tuple #[.int .i64 1, .nilIface])) (fun G hs => (as_addCol hs WF.new v1 [] none 0 (sl_nil w4) HV.out.1 HV.out.2.1 (fun _ h => by cases h) (by decide)).mono fun e W' h9 => by rw [HV.out.2.2] at h9; exact add_split (e01 ▸ h9)) ?_
  rintro e w5 rfl hf
  have HF5 := Lib.hid hf
  obtain ⟨k1, k2, k3⟩ := hf.cells
  clear hf HV
  go_wp2_with fail
  refine HF5.out.act (s1 := (⟨[], [⟨1, 1⟩, ⟨2, (Rat.divInt 1 2)⟩], 0, 2⟩ : AS)) (P := fun _ e _ => e = .returned (.tuple #[.int .i64 2, .nilIface])) (fun G hs => (as_addCol hs wf1 h [] none 0 (sl_nil w5) HF5.out.ok HSM.out (fun _ h => by cases h) (by decide)).mono fun e W' h9 => by rw [HQ.out] at h9; exact add_split (e12 ▸ h9)) ?_
  rintro e w6 rfl hf
  have HF6 := Lib.hid hf
  clear hf k1 k2 k3
  go_wp2_with fail
  refine (vint_any 4 w6 (by unfold I64; omega)).mono ?_
  rintro e w7 ⟨v4, rfl, ho, hsm, hq, hb⟩
  unfold Rv.val
  have HF7 := Lib.hid (HF6.out.below hb)
  have HV := Lib.hid (show v4.ok w7 ∧ v4.small ∧ v4.q = 4 from ⟨ho, hsm, hq⟩)
  clear ho hsm hq hb
  go_wp2_with fail
  refine (vint_any 3 w7 (by unfold I64; omega)).mono ?_
  rintro e w8 ⟨v3, rfl, ho, hsm, hq, hb⟩
  unfold Rv.val
  have HF8 := Lib.hid (HF7.out.below hb)
  have HV3 := Lib.hid (show v3.ok w8 ∧ v3.small ∧ v3.q = 3 from ⟨ho, hsm, hq⟩)
  have HV4 := Lib.hid (HV.out.1.below hb)
  clear ho hsm hq hb
  have hbx := belowBox w8 (.cells #[.int .i64 2, .bool v3.s, .slice v3.a v3.l v3.c, .slice v3.b v3.m v3.d] 87)
  have HSL := Lib.hid (Sl.lit w8 87 4 1 [.int .i64 2, .bool v3.s, .slice v3.a v3.l v3.c, .slice v3.b v3.m v3.d] (by unfold maxLen; omega) rfl)
  have HF9 := Lib.hid (HF8.out.below hbx)
  have HV9 := Lib.hid (HV4.out.below hbx)
  have HV39 := Lib.hid (HV3.out.1.below hbx)
  clear hbx
  go_wp2_with fail
  refine HF9.out.act (s1 := (⟨[⟨1, 2, 4, [0, 3]⟩], [⟨1, 1⟩, ⟨2, (Rat.divInt 1 2)⟩], 1, 2⟩ : AS)) (P := fun _ e _ => e = .returned (.tuple #[.int .i64 1, .nilIface])) (fun G hs => (as_addRow hs wf2 2 v4 [⟨2, v3⟩] (some ⟨w8.heap.size, 0, none⟩) 1 HSL.out HV9.out HV.out.2.1 (fun e he => by rw [List.mem_singleton.1 he]; exact ⟨HV39.out, HV3.out.2.1⟩) (by decide)).mono fun e W' h9 => by
    rw [HV.out.2.2, show [(⟨2, v3⟩ : Cl)].map Cl.ac = [⟨2, 3⟩] by show [(⟨2, v3.q⟩ : AC)] = _; rw [HV3.out.2.2]] at h9; exact add_split (e23 ▸ h9)) ?_
  rintro e w9 rfl hf
  have HF10 := Lib.hid hf
  clear hf
  go_wp2_with fail
  refine HF10.out.act (s1 := (⟨[⟨1, 2, 4, [0, 3]⟩], [⟨1, 1⟩, ⟨2, (Rat.divInt 1 2)⟩], 1, 2⟩ : AS)) (P := fun _ e _ => e = .returned (.int .i64 12)) (fun G hs => (as_bits hs wf3).mono fun e W' ⟨h9, hb⟩ => ⟨by rw [h9, bits3]; rfl, SAct.of_below hs hb⟩) ?_
  rintro e w10 rfl hf
  have HF11 := Lib.hid hf
  clear hf HF3 HF4 HF5 HF6 HF7 HF8 HF9 HV9 HV39 HV3 HV4 HSL
  go_wp2_with fail
  refine HF11.out.act (s1 := (⟨[⟨1, 2, 4, [3]⟩], [⟨2, (Rat.divInt 1 2)⟩], 1, 2⟩ : AS)) (P := fun _ e _ => e = .returned .nilIface) (fun G hs => (as_dropCol hs wf3 1).mono fun e W' h9 => set_split (e34 ▸ h9)) ?_
  rintro e w10 rfl hf
  replace HF11 := Lib.hid hf
  clear hf
  go_wp2_with fail
  refine (vint_any 5 w10 (by unfold I64; omega)).mono ?_
  rintro e w12 ⟨v5, rfl, ho, hsm, hq, hb⟩
  unfold Rv.val
  have HF12 := Lib.hid (HF11.out.below hb)
  have HV5 := Lib.hid (show v5.ok w12 ∧ v5.small ∧ v5.q = 5 from ⟨ho, hsm, hq⟩)
  clear ho hsm hq hb
  go_wp2_with fail
  refine HF12.out.act (s1 := (⟨[⟨1, 2, 4, [3, 0]⟩], [⟨2, (Rat.divInt 1 2)⟩, ⟨3, 5⟩], 1, 3⟩ : AS)) (P := fun _ e _ => e = .returned (.tuple #[.int .i64 3, .nilIface])) (fun G hs => (as_addCol hs wf4 v5 [] none 0 (sl_nil w12) HV5.out.1 HV5.out.2.1 (fun _ h => by cases h) (by decide)).mono fun e W' h9 => by rw [HV5.out.2.2] at h9; exact add_split (e45 ▸ h9)) ?_
  rintro e w13 rfl hf
  have HF13 := Lib.hid hf
  obtain ⟨k1, k2, k3⟩ := hf.cells
  clear hf
  go_wp2_with fail
  refine (setCoef_bad w13 s1b h HF13.out).mono ?_
  rintro e w11 ⟨b1, rfl, hi, hb, hl⟩
  unfold eF
  replace HF11 := Lib.hid (HF13.out.below hb)
  have HI11 := Lib.hid hi
  clear hi hb hl k1 k2 k3 HF12 HF13
  have HF11d := Lib.hid (HF11.out.below (Below.drawn w11 1))
  have HI11d := Lib.hid (HI11.out.below (Below.drawn w11 1) HI11.out.lt)
  go_upto_region 12 with fail
  refine wp_region_held_drew (S := fun W => W.cell? ⟨tb, 0, none⟩ = some (.bool h.s) ∧ W.cell? ⟨tb, 1, none⟩ = some (.slice h.a h.l h.c) ∧ W.cell? ⟨tb, 2, none⟩ = some (.slice h.b h.m h.d)) (by kernel_rfl) (HF11.out.cells) (fun hHeld => ?_)
  refine tk 0 (some 58) (v := ?_) rfl rfl ?_ ?_
  rotate_left
  · (intro w _; go_simp; (try with_reducible rfl))
  simp only [Act.put, stB, stZ, stS]
  refine tk 2 (some 60) (v := ?_) rfl rfl ?_ ?_
  rotate_left
  · (intro w hSw; (try dsimp only at hSw); ((try obtain ⟨hSw1, hSw2, hSw3⟩ := hSw); go_simp); (try with_reducible rfl))
  simp only [Act.put, stB, stZ, stS]
  refine tk 3 (some 61) (v := ?_) rfl rfl ?_ ?_
  rotate_left
  · (intro w _; go_simp; (try with_reducible rfl))
  simp only [Act.put, stB, stZ, stS]
  refine tk 4 (some 62) (v := ?_) rfl rfl ?_ ?_
  rotate_left
  · (intro w hSw; (try dsimp only at hSw); ((try obtain ⟨hSw1, hSw2, hSw3⟩ := hSw); go_simp); (try with_reducible rfl))
  simp only [Act.put, stB, stZ, stS]
  refine tk 5 (some 63) (v := ?_) rfl rfl ?_ ?_
  rotate_left
  · (intro w _; go_simp; (try with_reducible rfl))
  simp only [Act.put, stB, stZ, stS]
  refine wpAnyH_ready (rs := [1, 6]) (by kernel_rfl) (by simp) ?_
  refine (AllReadyH.cons (o := { dst := some 59, op := Op.call { callee := Callee.value (Operand.func 16), args := #[Operand.const (Value.int IntKind.i64 0)], argTypes := #[3] }, type := 51, pos := "law.go:42", after := #[], guard := none }) rfl (fun K hK => ?_) (AllReadyH.cons (o := { dst := some 64, op := Op.buildSlice 94 2 #[(0, Operand.tmp 61), (1, Operand.tmp 63)], type := 94, pos := "law.go:42", after := #[{ on := 3, ground := Ground.data }, { on := 5, ground := Ground.data }], guard := none }) rfl (fun K hK => ?_) AllReadyH.nil))
  · skip
    go_simp
    refine (vint_any 0 w11.drew (by unfold I64; omega)).mono ?_
    rintro e w14 ⟨v0, rfl, ho, hsm, hq, hb⟩
    unfold Rv.val
    have HF14 := Lib.hid (HF11d.out.below hb)
    have HI14 := Lib.hid (HI11d.out.below hb HI11d.out.lt)
    have HO0 := Lib.hid ho
    have HQ0 := Lib.hid hq
    have HSM0 := Lib.hid hsm
    have k14 := HF14.out.cells
    clear ho hq hsm hb
    refine hK.out _ _ (k14) (fun hHeld2 => ?_)
    clear hK K hHeld
    rename _ => hHeld
    try simp only [Act.put, stB, stZ, stS]
    refine wpAnyH_ready (rs := [6]) (by kernel_rfl) (by simp) ?_
    refine (AllReadyH.cons (o := { dst := some 64, op := Op.buildSlice 94 2 #[(0, Operand.tmp 61), (1, Operand.tmp 63)], type := 94, pos := "law.go:42", after := #[{ on := 3, ground := Ground.data }, { on := 5, ground := Ground.data }], guard := none }) rfl (fun K hK => ?_) AllReadyH.nil)
    go_simp
    obtain ⟨slb, hslb⟩ : ∃ slb, w14.heap.size = slb := ⟨_, rfl⟩
    have hbb : Below w14.heap.size w14 (w14.alloc (.cells #[.int .i64 2, .bool h.s, .slice h.a h.l h.c, .slice h.b h.m h.d, .int .i64 2, .bool h.s, .slice h.a h.l h.c, .slice h.b h.m h.d] 87)) := (belowBox w14 (.cells #[.int .i64 2, .bool h.s, .slice h.a h.l h.c, .slice h.b h.m h.d, .int .i64 2, .bool h.s, .slice h.a h.l h.c, .slice h.b h.m h.d] 87))
    have HF15 := Lib.hid (HF14.out.below hbb)
    have HI15 := Lib.hid (HI14.out.below hbb HI14.out.lt)
    have k15 := HF15.out.cells
    obtain ⟨w15, hw15⟩ : ∃ w15, (w14.alloc (.cells #[.int .i64 2, .bool h.s, .slice h.a h.l h.c, .slice h.b h.m h.d, .int .i64 2, .bool h.s, .slice h.a h.l h.c, .slice h.b h.m h.d] 87)) = w15 := ⟨_, rfl⟩
    have hsl : Sl w15 4 (.slice (some ⟨slb, 0, none⟩) 2 2) 2 [.int .i64 2, .bool h.s, .slice h.a h.l h.c, .slice h.b h.m h.d, .int .i64 2, .bool h.s, .slice h.a h.l h.c, .slice h.b h.m h.d] := by rw [← hw15, ← hslb]; exact (show Sl (w14.alloc (.cells #[.int .i64 2, .bool h.s, .slice h.a h.l h.c, .slice h.b h.m h.d, .int .i64 2, .bool h.s, .slice h.a h.l h.c, .slice h.b h.m h.d] 87)) 4 _ 2 _ from Sl.lit w14 87 4 2 [.int .i64 2, .bool h.s, .slice h.a h.l h.c, .slice h.b h.m h.d, .int .i64 2, .bool h.s, .slice h.a h.l h.c, .slice h.b h.m h.d] (by unfold maxLen; omega) rfl)
    have HO15 := Lib.hid (HO0.out.below (belowBox w14 (.cells #[.int .i64 2, .bool h.s, .slice h.a h.l h.c, .slice h.b h.m h.d, .int .i64 2, .bool h.s, .slice h.a h.l h.c, .slice h.b h.m h.d] 87)))
    rw [hw15] at HO15
    have HSL := Lib.hid hsl
    rw [hw15] at HF15 HI15 k15
    simp only [hw15, hslb]
    clear hsl hw15 hslb hbb
    refine hK.out _ _ (k15) (fun hHeld2 => ?_)
    clear hK K hHeld
    rename _ => hHeld
    try simp only [Act.put, stB, stZ, stS]
    refine wpAnyH_ready (rs := [7]) (by kernel_rfl) (by simp) ?_
    refine (AllReadyH.cons (o := { dst := some 65, op := Op.call { callee := Callee.value (Operand.func 15), args := #[Operand.tmp 58, Operand.const (Value.int IntKind.i64 1), Operand.tmp 59, Operand.tmp 64], argTypes := #[24, 34, 51, 94] }, type := 43, pos := "law.go:42", after := #[{ on := 0, ground := Ground.data }, { on := 1, ground := Ground.data }, { on := 6, ground := Ground.data }, { on := 1, ground := Ground.chain }], guard := none }) rfl (fun K hK => ?_) AllReadyH.nil)
    go_simp
    refine (addRow_bad w15 s1b h v0 (some ⟨slb, 0, none⟩) 2 HF15.out HSL.out).mono ?_
    rintro e w16 ⟨b2, rfl, hi2, hb2, hl2⟩
    unfold eF
    have HF16 := Lib.hid (HF15.out.below hb2)
    have HI16 := Lib.hid (HI15.out.below hb2 HI15.out.lt)
    have HI2 := Lib.hid hi2
    have k16 := HF16.out.cells
    clear hi2 hb2 hl2
    refine hK.out _ _ (k16) (fun hHeld2 => ?_)
    clear hK K hHeld
    rename _ => hHeld
    try simp only [Act.put, stB, stZ, stS]
    refine tk 8 (some 57) (v := ?_) rfl rfl ?_ ?_
    rotate_left
    · (intro w _; go_simp; (try with_reducible rfl))
    simp only [Act.put, stB, stZ, stS]
    refine tk 9 (some 66) (v := ?_) rfl rfl ?_ ?_
    rotate_left
    · (intro w _; go_simp; (try with_reducible rfl))
    simp only [Act.put, stB, stZ, stS]
    refine tk 10 (some 67) (v := ?_) rfl rfl ?_ ?_
    rotate_left
    · (intro w _; go_simp; (try with_reducible rfl))
    simp only [Act.put, stB, stZ, stS]
    refine tk 11 (some 14) (v := ?_) rfl rfl ?_ ?_
    rotate_left
    · (intro w _; go_simp; (try with_reducible rfl))
    simp only [Act.put, stB, stZ, stS]
    refine tk 12 (some 15) (v := ?_) rfl rfl ?_ ?_
    rotate_left
    · (intro w _; go_simp; (try with_reducible rfl))
    simp only [Act.put, stB, stZ, stS]
    refine wpAnyH_done (by kernel_rfl) ?_ _
    (try simp only [Exit.inBlock, Exit.then])
    clear hHeld k16
    have hb16 := HF16.out.bl
    have HG16 := Lib.hid (HG.out.below hb16 HG.out.lt)
    have HT1 := Lib.hid (told_any (231, ⟨#[99, 111, 108, 117, 109, 110]⟩, 1) (231, ⟨#[99, 111, 108, 117, 109, 110]⟩, 1) (eF b1) 0 w16 HG16.out (ErrV.place (by decide) whCol_ne (Nat.zero_le _) HI16.out))
    unfold eF at HT1
    clear hb16
    go_wp2_with fail
    refine HT1.out.mono ?_
    rintro e w17 ⟨t1, rfl, ht1, hb17⟩
    obtain rfl : t1 = true := ht1 (by simp)
    have HF17 := Lib.hid (HF16.out.below hb17)
    have HT2 := Lib.hid (told_any (1, ⟨#[99, 111, 108, 117, 109, 110]⟩, 2) (1, ⟨#[99, 111, 108, 117, 109, 110]⟩, 2) (eF b2) 0 w17 (HG.out.below HF17.out.bl HG.out.lt) (ErrV.place (by decide) whCol_ne (Nat.zero_le _) (HI2.out.below hb17 HI2.out.lt)))
    unfold eF at HT2
    clear ht1 hb17
    go_wp2_with fail
    refine HT2.out.mono ?_
    rintro e w18 ⟨t2, rfl, ht2, hb18⟩
    obtain rfl : t2 = true := ht2 (by simp)
    have HF18 := Lib.hid (HF17.out.below hb18)
    clear ht2 hb18
    go_wp2_with fail
    go_ret
    exact ⟨rfl, HF18.out.bl⟩
  · skip
    go_simp
    obtain ⟨slb, hslb⟩ : ∃ slb, w11.heap.size = slb := ⟨_, rfl⟩
    have hbb : Below w11.heap.size w11 ((w11.alloc (.cells #[.int .i64 2, .bool h.s, .slice h.a h.l h.c, .slice h.b h.m h.d, .int .i64 2, .bool h.s, .slice h.a h.l h.c, .slice h.b h.m h.d] 87)).drew) := (((Below.refl _ _).alloc (Nat.le_refl _) _).drew)
    have HF15 := Lib.hid (HF11.out.below hbb)
    have HI15 := Lib.hid (HI11.out.below hbb HI11.out.lt)
    have k15 := HF15.out.cells
    obtain ⟨w15, hw15⟩ : ∃ w15, ((w11.alloc (.cells #[.int .i64 2, .bool h.s, .slice h.a h.l h.c, .slice h.b h.m h.d, .int .i64 2, .bool h.s, .slice h.a h.l h.c, .slice h.b h.m h.d] 87)).drew) = w15 := ⟨_, rfl⟩
    have hsl : Sl w15 4 (.slice (some ⟨slb, 0, none⟩) 2 2) 2 [.int .i64 2, .bool h.s, .slice h.a h.l h.c, .slice h.b h.m h.d, .int .i64 2, .bool h.s, .slice h.a h.l h.c, .slice h.b h.m h.d] := by rw [← hw15, ← hslb]; exact (show Sl ((w11.alloc (.cells #[.int .i64 2, .bool h.s, .slice h.a h.l h.c, .slice h.b h.m h.d, .int .i64 2, .bool h.s, .slice h.a h.l h.c, .slice h.b h.m h.d] 87)).drew) 4 _ 2 _ from Sl.lit w11 87 4 2 [.int .i64 2, .bool h.s, .slice h.a h.l h.c, .slice h.b h.m h.d, .int .i64 2, .bool h.s, .slice h.a h.l h.c, .slice h.b h.m h.d] (by unfold maxLen; omega) rfl)
    have HSL := Lib.hid hsl
    rw [hw15] at HF15 HI15 k15
    simp only [hw15, hslb]
    clear hsl hw15 hslb hbb
    refine hK.out _ _ (k15) (fun hHeld2 => ?_)
    clear hK K hHeld
    rename _ => hHeld
    try simp only [Act.put, stB, stZ, stS]
    refine wpAnyH_ready (rs := [1]) (by kernel_rfl) (by simp) ?_
    refine (AllReadyH.cons (o := { dst := some 59, op := Op.call { callee := Callee.value (Operand.func 16), args := #[Operand.const (Value.int IntKind.i64 0)], argTypes := #[3] }, type := 51, pos := "law.go:42", after := #[], guard := none }) rfl (fun K hK => ?_) AllReadyH.nil)
    go_simp
    refine (vint_any 0 w15 (by unfold I64; omega)).mono ?_
    rintro e w14 ⟨v0, rfl, ho, hsm, hq, hb⟩
    unfold Rv.val
    have HF14 := Lib.hid (HF15.out.below hb)
    have HI14 := Lib.hid (HI15.out.below hb HI15.out.lt)
    replace HSL := Lib.hid (HSL.out.below hb)
    have HO0 := Lib.hid ho
    have HQ0 := Lib.hid hq
    have HSM0 := Lib.hid hsm
    have k14 := HF14.out.cells
    clear ho hq hsm hb
    refine hK.out _ _ (k14) (fun hHeld2 => ?_)
    clear hK K hHeld
    rename _ => hHeld
    try simp only [Act.put, stB, stZ, stS]
    refine wpAnyH_ready (rs := [7]) (by kernel_rfl) (by simp) ?_
    refine (AllReadyH.cons (o := { dst := some 65, op := Op.call { callee := Callee.value (Operand.func 15), args := #[Operand.tmp 58, Operand.const (Value.int IntKind.i64 1), Operand.tmp 59, Operand.tmp 64], argTypes := #[24, 34, 51, 94] }, type := 43, pos := "law.go:42", after := #[{ on := 0, ground := Ground.data }, { on := 1, ground := Ground.data }, { on := 6, ground := Ground.data }, { on := 1, ground := Ground.chain }], guard := none }) rfl (fun K hK => ?_) AllReadyH.nil)
    go_simp
    refine (addRow_bad w14 s1b h v0 (some ⟨slb, 0, none⟩) 2 HF14.out HSL.out).mono ?_
    rintro e w16 ⟨b2, rfl, hi2, hb2, hl2⟩
    unfold eF
    have HF16 := Lib.hid (HF14.out.below hb2)
    have HI16 := Lib.hid (HI14.out.below hb2 HI14.out.lt)
    have HI2 := Lib.hid hi2
    have k16 := HF16.out.cells
    clear hi2 hb2 hl2
    refine hK.out _ _ (k16) (fun hHeld2 => ?_)
    clear hK K hHeld
    rename _ => hHeld
    try simp only [Act.put, stB, stZ, stS]
    refine tk 8 (some 57) (v := ?_) rfl rfl ?_ ?_
    rotate_left
    · (intro w _; go_simp; (try with_reducible rfl))
    simp only [Act.put, stB, stZ, stS]
    refine tk 9 (some 66) (v := ?_) rfl rfl ?_ ?_
    rotate_left
    · (intro w _; go_simp; (try with_reducible rfl))
    simp only [Act.put, stB, stZ, stS]
    refine tk 10 (some 67) (v := ?_) rfl rfl ?_ ?_
    rotate_left
    · (intro w _; go_simp; (try with_reducible rfl))
    simp only [Act.put, stB, stZ, stS]
    refine tk 11 (some 14) (v := ?_) rfl rfl ?_ ?_
    rotate_left
    · (intro w _; go_simp; (try with_reducible rfl))
    simp only [Act.put, stB, stZ, stS]
    refine tk 12 (some 15) (v := ?_) rfl rfl ?_ ?_
    rotate_left
    · (intro w _; go_simp; (try with_reducible rfl))
    simp only [Act.put, stB, stZ, stS]
    refine wpAnyH_done (by kernel_rfl) ?_ _
    (try simp only [Exit.inBlock, Exit.then])
    clear hHeld k16
    have hb16 := HF16.out.bl
    have HG16 := Lib.hid (HG.out.below hb16 HG.out.lt)
    have HT1 := Lib.hid (told_any (231, ⟨#[99, 111, 108, 117, 109, 110]⟩, 1) (231, ⟨#[99, 111, 108, 117, 109, 110]⟩, 1) (eF b1) 0 w16 HG16.out (ErrV.place (by decide) whCol_ne (Nat.zero_le _) HI16.out))
    unfold eF at HT1
    clear hb16
    go_wp2_with fail
    refine HT1.out.mono ?_
    rintro e w17 ⟨t1, rfl, ht1, hb17⟩
    obtain rfl : t1 = true := ht1 (by simp)
    have HF17 := Lib.hid (HF16.out.below hb17)
    have HT2 := Lib.hid (told_any (1, ⟨#[99, 111, 108, 117, 109, 110]⟩, 2) (1, ⟨#[99, 111, 108, 117, 109, 110]⟩, 2) (eF b2) 0 w17 (HG.out.below HF17.out.bl HG.out.lt) (ErrV.place (by decide) whCol_ne (Nat.zero_le _) (HI2.out.below hb17 HI2.out.lt)))
    unfold eF at HT2
    clear ht1 hb17
    go_wp2_with fail
    refine HT2.out.mono ?_
    rintro e w18 ⟨t2, rfl, ht2, hb18⟩
    obtain rfl : t2 = true := ht2 (by simp)
    have HF18 := Lib.hid (HF17.out.below hb18)
    clear ht2 hb18
    go_wp2_with fail
    go_ret
    exact ⟨rfl, HF18.out.bl⟩
end Go.Proofs.YtaehklhbokocbaaGreatDoor
