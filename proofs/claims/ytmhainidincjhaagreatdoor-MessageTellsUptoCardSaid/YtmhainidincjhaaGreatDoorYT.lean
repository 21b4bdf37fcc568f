/-
 What the laws stand on, part T: contracts and plain laws of RMem, RNext, RPick, RId, Rnd2, RRat, ROB, REnts, RdL, REnd; the conditions are each law's own.
-/
import Derived.Test.YtmhainidincjhaaGreatDoorYP
import Derived.Deep.QuietTactic
import Derived.BigQuiet
import Derived.IntWalk
import Derived.Test.YtmhainidincjhaaGreatDoorYL
import Derived.Test.YtmhainidincjhaaGreatDoorYA
import Derived.Lib.ReflectliteSwap
import Derived.Test.YtmhainidincjhaaGreatDoorYN
set_option linter.unusedVariables false
set_option linter.unusedSimpArgs false
set_option maxRecDepth 100000
set_option maxHeartbeats 16000000
namespace Go.Proofs.YtmhainidincjhaaGreatDoor
open Go.RowKit Go.Extern.Stop Go.Stop Go.Extern
abbrev rBox (pb : Nat) (ba : Option Addr) (n c : Nat) (k : Nat) (ev : Value) : Bk := ⟨pb, 158, [.slice ba n c, .int .i64 k, ev]⟩
def RSt (w : World) (pb n k : Nat) (ev : Value) (st : RS) : Prop := match st with
 | .ok a => ev = .nilIface ∧ k = a ∧ a ≤ n
 | .error x => ErrB w (fun b => b ≠ pb) ev x.1 x.2
def RdW (w0 : World) (bs : List Bk) (ns : List Nm) (pb : Nat) (ba : Option Addr) (n c : Nat) (st : RS) (w : World) : Prop := ∃ k ev, BS w0 (rBox pb ba n c k ev :: bs) ns w ∧ RSt w pb n k ev st ∧ k ≤ n
def rfailed (st : RS) (e : Int) (k : Nat) : RS := match st with
 | .ok _ => .error (e, k)
 | .error x => .error x
theorem rfail_first {w0 : World} {bs : List Bk} {ns : List Nm} {pb : Nat} {ba : Option Addr} {n c : Nat} (k : Nat) (T : TypeId) (u : Value) (w : World) (h : BS w0 (rBox pb ba n c k .nilIface :: bs) ns w) :
  Calls Tryz.prog 129 #[.pointer (some ⟨pb, 0, none⟩), .iface T u] w fun e w' => e = .returned (.tuple #[]) ∧ BS w0 (rBox pb ba n c k (eF w.heap.size) :: bs) ns w' ∧ IsAt w' w.heap.size k (.iface T u) ∧ Keeps w w' (fun b => b = pb) := by
 have k1 := h.cell 0 1 rfl rfl
 have k2 := h.cell 0 2 rfl rfl
 have f2 := h.free 0 2 rfl
 have lp := h.lt 0 rfl
 have HY := Lib.hid h
 clear h
 go_enter Tryz.func129, Tryz.ntmps129
 go_wp2_with fail
 refine (wrap_gen T u _ _ _).mono ?_
 rintro e w1 ⟨rfl, hw⟩
 unfold eF
 have hb1 := belowBox w (.cells #[.string ⟨#[98, 121, 116, 101]⟩, .int .i64 k, .iface T u] 215)
 have hnew := heap_alloc_new w (.cells #[.string ⟨#[98, 121, 116, 101]⟩, .int .i64 k, .iface T u] 215)
 rw [← hw] at hb1 hnew
 have HY1 := Lib.hid (HY.out.call hb1)
 have HB1 := Lib.hid hb1
 have HNW := Lib.hid hnew
 clear hb1 hnew hw k1 k2 f2
 have k2 := HY1.out.cell 0 2 rfl rfl
 have f2 := HY1.out.free 0 2 rfl
 go_wp2_with fail
 go_end0
 have hk := Keeps.setCell w1 ⟨pb, 2, none⟩ (eF w.heap.size) (S := fun z => z = pb) rfl
 refine ⟨rfl, HY1.out.set 0 2 rfl rfl (fun _ => by simp) (eF w.heap.size), ?_, ?_⟩
 ·
  have hne : ¬ (w.heap.size = pb) := by omega
  exact (show IsAt w1 w.heap.size k (.iface T u) from ⟨cell_of_block HNW.out rfl, cell_of_block HNW.out rfl, cell_of_block HNW.out rfl⟩).keeps hk hne
 ·
  exact (Keeps.of_below HB1.out fun b hb hl => by omega).trans hk fun _ _ h => h
theorem rfail_more {w0 : World} {bs : List Bk} {ns : List Nm} {pb : Nat} {ba : Option Addr} {n c : Nat} (k eb : Nat) (v : Value) (w : World) (h : BS w0 (rBox pb ba n c k (eF eb) :: bs) ns w) :
  Calls Tryz.prog 129 #[.pointer (some ⟨pb, 0, none⟩), v] w fun e w' => e = .returned (.tuple #[]) ∧ w' = w := by
 have k2 := h.cell 0 2 rfl rfl
 clear h
 unfold eF at k2
 go_enter Tryz.func129, Tryz.ntmps129
 go_wp2_with fail
 go_end0
 exact ⟨rfl, rfl⟩
theorem rfail_any {w0 : World} {bs : List Bk} {ns : List Nm} {pb : Nat} {ba : Option Addr} {n c : Nat} (k : Nat) (ev : Value) (st : RS) (T : TypeId) (u : Value) (e : Int) (w : World) (h : BS w0 (rBox pb ba n c k ev :: bs) ns w) (hs : RSt w pb n k ev st) (hu : Value.iface T u = eE e ∨ ∃ fb s j, Value.iface T u = eF fb ∧ fb ≠ pb ∧ IsF w fb s j e) :
  Calls Tryz.prog 129 #[.pointer (some ⟨pb, 0, none⟩), .iface T u] w fun r w' => ∃ ev', r = .returned (.tuple #[]) ∧ BS w0 (rBox pb ba n c k ev' :: bs) ns w' ∧ RSt w' pb n k ev' (rfailed st e k) := by
 cases st with
 | ok a =>
  obtain ⟨rfl, rfl, _⟩ := hs
  have hpb : pb < w.heap.size := h.lt 0 rfl
  refine (rfail_first k T u w h).mono fun r w' hh => ?_
  obtain ⟨he, hy, hb, hk⟩ := hh
  refine ⟨_, he, hy, ⟨w.heap.size, _, rfl, by omega, hb, ?_⟩⟩
  rcases hu with hu | ⟨fb, s, j, hu, hne, hf⟩
  ·
   exact .inl hu
  ·
   exact .inr ⟨fb, s, j, hu, hne, hf.keeps' hk hne⟩
 | error x =>
  have hs0 := hs
  obtain ⟨eb, u2, rfl, hr⟩ := hs
  refine (rfail_more k eb _ w h).mono fun r w' hh => ?_
  obtain ⟨he, rfl⟩ := hh
  exact ⟨_, he, h, hs0⟩
def NextR (w0 : World) (bs : List Bk) (ns : List Nm) (pb : Nat) (ba : Option Addr) (n c m : Nat) (ys : List Nat) (st : RS) (e : Ending) (w' : World) : Prop := ∃ a' c', e = .returned (.slice a' m c') ∧ BytesN w' (.slice a' m c') ys ∧ RdW w0 bs ns pb ba n c st w' ∧ ((∃ k, st = .ok k) → BytesN w0 (.slice a' m c') ys)
theorem RdW.call {w0 w w' : World} {bs : List Bk} {ns : List Nm} {pb : Nat} {ba : Option Addr} {n c : Nat} {st : RS} (h : RdW w0 bs ns pb ba n c st w) (hb : Below w.heap.size w w') : RdW w0 bs ns pb ba n c st w' := by
 obtain ⟨k, ev, hy, hs, hk⟩ := h
 refine ⟨k, ev, hy.call hb, ?_, hk⟩
 cases st with
 | ok a => exact hs
 | error x => exact ErrB.keeps hs (Keeps.of_below hb (S := fun k => w.heap.size ≤ k) fun b h1 _ => h1) (fun b hl _ h2 => by have h2 : w.heap.size ≤ b := h2; omega) (fun b _ h => h)
theorem zeros_bytes (m : Nat) (W : World) (hm : m ≤ 9223372036854775807) : BytesN (W.alloc (.cells (zeroB m) 5)) (.slice (some ⟨W.heap.size, 0, none⟩) m m) (List.replicate m 0) := by
 have h := Sl.lit W 5 1 m ((List.replicate m 0).map BN) (by unfold maxLen; omega) (by simp)
 have hl : (List.replicate m 0).length = m := List.length_replicate
 unfold BytesN
 rw [hl]
 exact h
theorem rnext_err {w0 : World} {bs : List Bk} {ns : List Nm} {pb : Nat} {ba : Option Addr} {n c : Nat} (m k eb : Nat) (x : Int × Nat) (w : World) (h : BS w0 (rBox pb ba n c k (eF eb) :: bs) ns w) (hs : RSt w pb n k (eF eb) (.error x)) (hk : k ≤ n) (hm : m ≤ 1099511627776) :
  Calls Tryz.prog 111 #[.pointer (some ⟨pb, 0, none⟩), .int .i64 m] w (NextR w0 bs ns pb ba n c m (List.replicate m 0) (.error x)) := by
 have HF := Lib.hid fun (w : World) (h : BS w0 (rBox pb ba n c k (eF eb) :: bs) ns w) => rfail_more k eb (.iface 52 (.int .i64 90)) w h
 have hmk := make_bytes (m : Int) m rfl (by omega)
 have k2 := h.cell 0 2 rfl rfl
 have HY := Lib.hid h
 have HR := Lib.hid (show RdW w0 bs ns pb ba n c (.error x) w from ⟨k, _, h, hs, hk⟩)
 unfold eF at k2
 clear h hs
 go_enter Tryz.func111, Tryz.ntmps111
 go_wp2_with fail
 go_quiet (fail)
 go_wp2_with fail
 refine (HF.out _ (HY.out.drewN _)).mono ?_
 rintro e w2 ⟨rfl, hw2⟩
 have HR2 := Lib.hid (show RdW w0 bs ns pb ba n c (.error x) w2 from by rw [hw2]; exact HR.out.call (belowDrawn (Below.refl _ _) _))
 clear HF hw2 k2
 go_wp2_with fail
 go_ret
 exact ⟨_, _, rfl, zeros_bytes m w2 (by omega), HR2.out.call (belowBox _ _), fun ⟨_, h⟩ => by cases h⟩
theorem rnext_short {w0 : World} {bs : List Bk} {ns : List Nm} {pb : Nat} {ba : Option Addr} {n c : Nat} (m k : Nat) (w : World) (h : BS w0 (rBox pb ba n c k .nilIface :: bs) ns w) (hk : k ≤ n) (hn : n ≤ 1099511627776) (hm : m ≤ 1099511627776) (hlt : n - k < m) :
  Calls Tryz.prog 111 #[.pointer (some ⟨pb, 0, none⟩), .int .i64 m] w (NextR w0 bs ns pb ba n c m (List.replicate m 0) (.error (90, k))) := by
 have HF := Lib.hid fun (w : World) (h : BS w0 (rBox pb ba n c k .nilIface :: bs) ns w) => rfail_any k .nilIface (.ok k) 52 (.int .i64 90) 90 w h ⟨rfl, rfl, hk⟩ (.inl rfl)
 have hmk := make_bytes (m : Int) m rfl (by omega)
 have k0 := h.cell 0 0 rfl rfl
 have k1 := h.cell 0 1 rfl rfl
 have k2 := h.cell 0 2 rfl rfl
 have HY := Lib.hid h
 have e1 : IntKind.i64.wrap ((n : Int) - (k : Int)) = (n : Int) - (k : Int) := IntWalk.i64_in _ (by omega)
 have e2 : decide ((n : Int) - (k : Int) < (m : Int)) = true := decide_eq_true (by omega)
 clear h
 go_enter Tryz.func111, Tryz.ntmps111
 go_wp2_with fail
 go_quiet (fail)
 go_wp2_with fail
 refine (HF.out _ (HY.out.drewN _)).mono ?_
 rintro e w2 ⟨ev, rfl, hy2, hs2⟩
 have HR2 := Lib.hid (show RdW w0 bs ns pb ba n c (.error (90, k)) w2 from ⟨k, ev, hy2, hs2, hk⟩)
 clear HF hy2 hs2 k0 k1 k2 e1 e2
 go_wp2_with fail
 go_ret
 exact ⟨_, _, rfl, zeros_bytes m w2 (by omega), HR2.out.call (belowBox _ _), fun ⟨_, h⟩ => by cases h⟩
theorem rnext_good {w0 : World} {bs : List Bk} {ns : List Nm} {pb : Nat} {ba : Option Addr} {n c : Nat} (m k : Nat) (data : List Nat) (w : World) (h : BS w0 (rBox pb ba n c k .nilIface :: bs) ns w) (hd : BytesN w0 (.slice ba n c) data) (hk : k ≤ n) (hn : n ≤ 1099511627776) (hm : m ≤ 1099511627776) (hle : k + m ≤ n) :
  Calls Tryz.prog 111 #[.pointer (some ⟨pb, 0, none⟩), .int .i64 m] w (NextR w0 bs ns pb ba n c m ((data.drop k).take m) (.ok (k + m))) := by
 have hsub := hd.sub k (k + m) (by omega) (by omega)
 rw [show k + m - k = m by omega, show (data.take (k + m)).drop k = (data.drop k).take m by rw [List.drop_take]; congr 1; omega] at hsub
 have HSB := Lib.hid hsub
 have hcap := hd.len
 have k0 := h.cell 0 0 rfl rfl
 have k1 := h.cell 0 1 rfl rfl
 have k2 := h.cell 0 2 rfl rfl
 have f1 := h.free 0 1 rfl
 have HY := Lib.hid h
 have e1 : IntKind.i64.wrap ((n : Int) - (k : Int)) = (n : Int) - (k : Int) := IntWalk.i64_in _ (by omega)
 have e2 : decide ((n : Int) - (k : Int) < (m : Int)) = false := decide_eq_false (by omega)
 have c1 : n ≤ c := hcap.2.1
 have c2 : c ≤ 9223372036854775807 := hcap.2.2.1
 clear h hsub hd hcap
 go_enter Tryz.func111, Tryz.ntmps111
 go_wp2_with fail
 go_quiet (fail)
 go_upto_region 5 with fail
 obtain ⟨w1, hw1⟩ : ∃ w1, w1 = w.drewN nq := ⟨_, rfl⟩
 rw [← hw1]
 have hy1 : BS w0 (rBox pb ba n c k .nilIface :: bs) ns w1 := hw1 ▸ HY.out.drewN nq
 have hy2 := hy1.set 0 1 rfl rfl (fun _ => by simp) (.int .i64 ((k : Int) + (m : Int)))
 obtain ⟨w2, hw2⟩ : ∃ w2, w2 = w1.setCell ⟨pb, 1, none⟩ (.int .i64 ((k : Int) + (m : Int))) := ⟨_, rfl⟩
 rw [← hw2] at hy2 ⊢
 clear k0 k1 k2 f1 e1 e2 hw1 hw2 hy1
 have k0 := hy2.cell 0 0 rfl rfl
 have k1 := hy2.cell 0 1 rfl rfl
 have HY2 := Lib.hid hy2
 have HC := Lib.hid (show ((k + m : Nat) : Int) = (k : Int) + (m : Int) by omega)
 clear hy2
 have e3 : IntKind.i64.wrap ((k : Int) + (m : Int) - (m : Int)) = (k : Int) := by rw [show (k : Int) + (m : Int) - (m : Int) = (k : Int) by omega]; exact IntWalk.i64_in _ (by omega)
 have e4 : (k : Int) + (m : Int) ≤ (c : Int) := by omega
 have e5 : (k : Int) ≤ (k : Int) + (m : Int) := by omega
 have e6 : (0 : Int) ≤ (k : Int) + (m : Int) := by omega
 have e7 : ((k : Int) + (m : Int)).toNat = k + m := by omega
 go_quiet (fail)
 clear k0 k1 e3 e4 e5 e6 e7
 generalize (if c = k then ba else Option.map (fun x => x.add k) ba) = va at HSB ⊢
 generalize c - k = vc at HSB ⊢
 go_wp2_with fail
 go_ret
 exact ⟨_, _, rfl, HSB.out.below (HY2.out.drewN _).bel, ⟨k + m, .nilIface, by have h := HY2.out.drewN nq; rw [← HC.out] at h; exact h, ⟨rfl, rfl, by omega⟩, by omega⟩, fun _ => HSB.out⟩
theorem rnext_any {w0 : World} {bs : List Bk} {ns : List Nm} {pb : Nat} {ba : Option Addr} {n c : Nat} (m : Nat) (data : List Nat) (st : RS) (w : World) (h : RdW w0 bs ns pb ba n c st w) (hd : BytesN w0 (.slice ba n c) data) (hn : n ≤ 1099511627776) (hm : m ≤ 1099511627776) :
  Calls Tryz.prog 111 #[.pointer (some ⟨pb, 0, none⟩), .int .i64 m] w (NextR w0 bs ns pb ba n c m (rNext data m st).1 (rNext data m st).2) := by
 obtain ⟨k, ev, hy, hs, hk⟩ := h
 have hl := hd.len.1
 cases st with
 | error x =>
  have hs0 := hs
  obtain ⟨eb, u, rfl, _⟩ := hs
  exact rnext_err m k eb x w hy hs0 hk hm
 | ok a =>
  obtain ⟨rfl, rfl, _⟩ := hs
  unfold rNext
  simp only
  by_cases hlt : data.length - k < m
  ·
   rw [if_pos hlt]
   exact rnext_short m k w hy hk hn hm (by omega)
  ·
   rw [if_neg hlt]
   exact rnext_good m k data w hy hd hk hn hm (by omega)
def IntR (w0 : World) (bs : List Bk) (ns : List Nm) (pb : Nat) (ba : Option Addr) (n c : Nat) (v : Int) (st : RS) (e : Ending) (w' : World) : Prop := e = .returned (.int .i64 v) ∧ RdW w0 bs ns pb ba n c st w'
theorem rpick_err {w0 : World} {bs : List Bk} {ns : List Nm} {pb : Nat} {ba : Option Addr} {n c : Nat} (x : Nat) (lo hi : Int) (z : Int × Nat) (w : World) (hx : x < 256) (HNX : Hid (Calls Tryz.prog 111 #[.pointer (some ⟨pb, 0, none⟩), .int .i64 1] w (NextR w0 bs ns pb ba n c 1 [x] (.error z)))) :
  Calls Tryz.prog 63 #[.pointer (some ⟨pb, 0, none⟩), .int .i64 lo, .int .i64 hi] w (IntR w0 bs ns pb ba n c x (.error z)) := by
 go_enter Tryz.func63, Tryz.ntmps63
 go_wp2_with fail
 refine HNX.out.mono ?_
 rintro e w1 ⟨a1, c1, rfl, hby, hr, _⟩
 obtain ⟨bb, oo, rfl, hbl, hcell⟩ := hby.get 0 (x := x) rfl
 have hc1 := hby.len
 have hc2 : 1 ≤ c1 := hc1.2.1
 rw [Nat.add_zero] at hcell
 clear hby hc1 HNX
 have HR := Lib.hid hr
 obtain ⟨k, ev, hy, hs, hk⟩ := hr
 obtain ⟨eb, u, rfl, _⟩ := hs
 have k2 := hy.cell 0 2 rfl rfl
 unfold eF at k2
 clear hy hk
 go_wp2_with fail
 go_ret
 exact ⟨rfl, HR.out⟩
theorem rpick_ok {w0 : World} {bs : List Bk} {ns : List Nm} {pb : Nat} {ba : Option Addr} {n c : Nat} (x : Nat) (lo hi : Int) (k : Nat) (w : World) (hx : x < 256) (HNX : Hid (Calls Tryz.prog 111 #[.pointer (some ⟨pb, 0, none⟩), .int .i64 1] w (NextR w0 bs ns pb ba n c 1 [x] (.ok k)))) (hlo : lo ≤ (x : Int)) (hhi : (x : Int) ≤ hi) :
  Calls Tryz.prog 63 #[.pointer (some ⟨pb, 0, none⟩), .int .i64 lo, .int .i64 hi] w (IntR w0 bs ns pb ba n c x (.ok k)) := by
 go_enter Tryz.func63, Tryz.ntmps63
 go_wp2_with fail
 refine HNX.out.mono ?_
 rintro e w1 ⟨a1, c1, rfl, hby, hr, _⟩
 obtain ⟨bb, oo, rfl, hbl, hcell⟩ := hby.get 0 (x := x) rfl
 have hc1 := hby.len
 have hc2 : 1 ≤ c1 := hc1.2.1
 rw [Nat.add_zero] at hcell
 clear hby hc1 HNX
 have HR := Lib.hid hr
 obtain ⟨k', ev, hy, hs, hk⟩ := hr
 obtain ⟨rfl, rfl, _⟩ := hs
 have k2 := hy.cell 0 2 rfl rfl
 clear hy hk
 go_wp2_with fail
 go_ret
 exact ⟨rfl, HR.out⟩
theorem rpick_bad {w0 : World} {bs : List Bk} {ns : List Nm} {pb : Nat} {ba : Option Addr} {n c : Nat} (x : Nat) (lo hi : Int) (k : Nat) (w : World) (hx : x < 256) (HNX : Hid (Calls Tryz.prog 111 #[.pointer (some ⟨pb, 0, none⟩), .int .i64 1] w (NextR w0 bs ns pb ba n c 1 [x] (.ok k)))) (hk1 : 1 ≤ k) (hn : n ≤ 1099511627776) (hbad : (x : Int) < lo ∨ (lo ≤ (x : Int) ∧ hi < (x : Int))) :
  Calls Tryz.prog 63 #[.pointer (some ⟨pb, 0, none⟩), .int .i64 lo, .int .i64 hi] w (IntR w0 bs ns pb ba n c x (.error (270, k - 1))) := by
 rcases hbad with hb1 | ⟨hb1, hb2⟩
 all_goals
  go_enter Tryz.func63, Tryz.ntmps63
  go_wp2_with fail
  refine HNX.out.mono ?_
  rintro e w1 ⟨a1, c1, rfl, hby, hr, _⟩
  obtain ⟨bb, oo, rfl, hbl, hcell⟩ := hby.get 0 (x := x) rfl
  have hc1 := hby.len
  have hc2 : 1 ≤ c1 := hc1.2.1
  rw [Nat.add_zero] at hcell
  clear hby hc1 HNX
  obtain ⟨k', ev, hy, hs, hk⟩ := hr
  obtain ⟨rfl, rfl, _⟩ := hs
  have k1 := hy.cell 0 1 rfl rfl
  have k2 := hy.cell 0 2 rfl rfl
  have f1 := hy.free 0 1 rfl
  have HY := Lib.hid hy
  clear hy
  go_wp2_with fail
  have hy2 := HY.out.set 0 1 rfl rfl (fun _ => by simp) (.int .i64 ((k' : Int) - 1))
  obtain ⟨w2, hw2⟩ : ∃ w2, w2 = w1.setCell ⟨pb, 1, none⟩ (.int .i64 ((k' : Int) - 1)) := ⟨_, rfl⟩
  rw [← hw2] at hy2 ⊢
  rw [show (k' : Int) - 1 = ((k' - 1 : Nat) : Int) by omega] at hy2
  refine (rfail_any (k' - 1) .nilIface (.ok (k' - 1)) 52 (.int .i64 270) 270 w2 hy2 ⟨rfl, rfl, by omega⟩ (.inl rfl)).mono ?_
  rintro e w3 ⟨ev, rfl, hy3, hs3⟩
  have HR := Lib.hid (show RdW w0 bs ns pb ba n c (.error (270, k' - 1)) w3 from ⟨k' - 1, ev, hy3, hs3, by omega⟩)
  clear hy2 hw2 hy3 hs3 k1 k2 f1
  go_wp2_with fail
  go_ret
  exact ⟨rfl, HR.out⟩
theorem rNext_len (data : List Nat) (m : Nat) (st : RS) : (rNext data m st).1.length = m := by
 unfold rNext
 cases st with
 | error x => simp
 | ok a =>
  simp only
  by_cases h : data.length - a < m
  ·
   rw [if_pos h]; simp
  ·
   rw [if_neg h]; simp only [List.length_take, List.length_drop]; omega
theorem rNext_lt {data : List Nat} (hb : ∀ x, x ∈ data → x < 256) (m : Nat) (st : RS) : ∀ x, x ∈ (rNext data m st).1 → x < 256 := by
 intro x hx
 unfold rNext at hx
 cases st with
 | error z => rw [List.eq_of_mem_replicate hx]; omega
 | ok a =>
  simp only at hx
  by_cases h : data.length - a < m
  ·
   rw [if_pos h] at hx; rw [List.eq_of_mem_replicate hx]; omega
  ·
   rw [if_neg h] at hx; exact hb x (List.mem_of_mem_drop (List.mem_of_mem_take hx))
theorem rpick_any {w0 : World} {bs : List Bk} {ns : List Nm} {pb : Nat} {ba : Option Addr} {n c : Nat} (lo hi : Int) (data : List Nat) (st : RS) (w : World) (h : RdW w0 bs ns pb ba n c st w) (hd : BytesN w0 (.slice ba n c) data) (hb : ∀ x, x ∈ data → x < 256) (hn : n ≤ 1099511627776) :
  Calls Tryz.prog 63 #[.pointer (some ⟨pb, 0, none⟩), .int .i64 lo, .int .i64 hi] w (IntR w0 bs ns pb ba n c (rPick data lo hi st).1 (rPick data lo hi st).2) := by
 have hnx := rnext_any 1 data st w h hd hn (by omega)
 have hl := rNext_len data 1 st
 have h8 := rNext_lt hb 1 st
 have hk1 : ∀ k, (rNext data 1 st).2 = .ok k → 1 ≤ k := fun k hk => by
  unfold rNext at hk
  cases st with
  | error z => cases hk
  | ok a =>
   simp only at hk
   by_cases hlt : data.length - a < 1
   ·
    rw [if_pos hlt] at hk; cases hk
   ·
    rw [if_neg hlt] at hk; injection hk with hk; omega
 unfold rPick
 cases hx : rNext data 1 st with
 | mk b s1 =>
  rw [hx] at hnx hl h8 hk1
  match b, hl with
  | [x], _ =>
   have hx8 : x < 256 := h8 x (List.mem_singleton.2 rfl)
   cases s1 with
   | error z => exact rpick_err x lo hi z w hx8 (Lib.hid hnx)
   | ok k =>
    show Calls Tryz.prog 63 #[.pointer (some ⟨pb, 0, none⟩), .int .i64 lo, .int .i64 hi] w (IntR w0 bs ns pb ba n c (x : Int) (if (x : Int) < lo ∨ hi < (x : Int) then (.error (270, k - 1) : RS) else .ok k))
    by_cases hc : (x : Int) < lo ∨ hi < (x : Int)
    ·
     rw [if_pos hc]; exact rpick_bad x lo hi k w hx8 (Lib.hid hnx) (hk1 k rfl) hn (by omega)
    ·
     rw [if_neg hc]; exact rpick_ok x lo hi k w hx8 (Lib.hid hnx) (by omega) (by omega)
def StrR (w0 : World) (bs : List Bk) (ns : List Nm) (pb : Nat) (ba : Option Addr) (n c : Nat) (t : List Nat) (st : RS) (e : Ending) (w' : World) : Prop := e = .returned (.string (strB t)) ∧ RdW w0 bs ns pb ba n c st w'
theorem rtok_go {w0 : World} {bs : List Bk} {ns : List Nm} {pb : Nat} {ba : Option Addr} {n c : Nat} (ys : List Nat) (st : RS) (w : World) (HNX : Hid (Calls Tryz.prog 111 #[.pointer (some ⟨pb, 0, none⟩), .int .i64 8] w (NextR w0 bs ns pb ba n c 8 ys st))) :
  Calls Tryz.prog 64 #[.pointer (some ⟨pb, 0, none⟩)] w (StrR w0 bs ns pb ba n c ys st) := by
 go_enter Tryz.func64, Tryz.ntmps64
 go_wp2_with fail
 refine HNX.out.mono ?_
 rintro e w1 ⟨a1, c1, rfl, hby, hr, _⟩
 have HR := Lib.hid hr
 have hcv := conv_any a1 8 c1 ys w1 hby
 clear hby HNX hr
 go_wp2_with fail
 go_ret
 exact ⟨rfl, HR.out⟩
theorem rtok_any {w0 : World} {bs : List Bk} {ns : List Nm} {pb : Nat} {ba : Option Addr} {n c : Nat} (data : List Nat) (st : RS) (w : World) (h : RdW w0 bs ns pb ba n c st w) (hd : BytesN w0 (.slice ba n c) data) (hn : n ≤ 1099511627776) :
  Calls Tryz.prog 64 #[.pointer (some ⟨pb, 0, none⟩)] w (StrR w0 bs ns pb ba n c (rTok data st).1 (rTok data st).2) :=
 rtok_go _ _ w (Lib.hid (rnext_any 8 data st w h hd hn (by omega)))
theorem BS.gotk {w W : World} {bs : List Bk} {ns : List Nm} {a : Option Addr} {c n : Nat} (h : BS w bs ns W) (k : Nat) (hn : NatW W a c n) : BS w bs (ns.take k ++ ⟨a, c, n⟩ :: ns.drop k) W :=
 ⟨h.bel, h.box, h.nod, fun x hx => by
  rcases List.mem_append.1 hx with hx | hx
  ·
   exact h.num x (List.mem_of_mem_take hx)
  ·
   rcases List.mem_cons.1 hx with rfl | hx
   ·
    exact hn
   ·
    exact h.num x (List.mem_of_mem_drop hx)⟩
def EV (w : World) (e : Int) (v : Value) : Prop := v = eE e ∨ ∃ fb s j, v = eF fb ∧ IsF w fb s j e
theorem EV.of {w : World} {v : Value} {f : Flt} (h : ErrW w v f) : EV w f.n v := by
 obtain ⟨n, at9⟩ := f
 cases at9 with
 | none => exact .inl h
 | some x =>
  obtain ⟨b, hv, hf⟩ := h
  exact .inr ⟨b, _, _, hv, hf⟩
theorem EV.iface {w : World} {e : Int} {v : Value} (h : EV w e v) : ∃ T u, v = .iface T u := by
 rcases h with h | ⟨fb, s, j, h, _⟩
 ·
  exact ⟨_, _, h⟩
 ·
  exact ⟨_, _, h⟩
theorem EV.below {w w' : World} {e : Int} {v : Value} (h : EV w e v) (hb : Below w.heap.size w w') : EV w' e v := by
 rcases h with h | ⟨fb, s, j, h, hf⟩
 ·
  exact .inl h
 ·
  exact .inr ⟨fb, s, j, h, hf.below hb hf.lt⟩
theorem EV.ne {w W : World} {bs : List Bk} {ns : List Nm} {e : Int} {v : Value} (h : EV W e v) (hb : BS w bs ns W) (i : Nat) {b : Bk} {c0 : Value} (hi : bs[i]? = some b) (h0 : b.cs[0]? = some c0) (hn : ∀ s, c0 ≠ .string s) : v = eE e ∨ ∃ fb s j, v = eF fb ∧ fb ≠ b.p ∧ IsF W fb s j e := by
 rcases h with h | ⟨fb, s, j, h, hf⟩
 ·
  exact .inl h
 ·
  refine .inr ⟨fb, s, j, h, fun hne => ?_, hf⟩
  subst hne
  have h1 := hb.cell i 0 hi h0
  rw [hf.1] at h1
  injection h1 with h1
  exact hn s h1.symm
theorem EV.set {w W : World} {bs : List Bk} {ns : List Nm} {e : Int} {v : Value} (h : EV W e v) (hb : BS w bs ns W) (i j : Nat) (x : Value) {b : Bk} {c0 : Value} (hi : bs[i]? = some b) (h0 : b.cs[0]? = some c0) (hn : ∀ s, c0 ≠ .string s) : EV (W.setCell ⟨b.p, j, none⟩ x) e v := by
 rcases h.ne hb i hi h0 hn with h | ⟨fb, s, k, h, hne, hf⟩
 ·
  exact .inl h
 ·
  exact .inr ⟨fb, s, k, h, hf.keeps' (Keeps.setCell W ⟨b.p, j, none⟩ x (S := fun z => z = b.p) rfl) hne⟩
theorem BS.front {w W : World} {bs : List Bk} {ns : List Nm} (h : BS w bs ns W) (k : Nat) {x : Bk} (hk : bs[k]? = some x) : BS w (x :: bs.eraseIdx k) ns W := by
 obtain ⟨hl, rfl⟩ := List.getElem?_eq_some_iff.1 hk
 have hp : (bs[k] :: bs.eraseIdx k).Perm bs := by
  rw [List.eraseIdx_eq_take_drop_succ]
  have h1 : (bs[k] :: (bs.take k ++ bs.drop (k + 1))).Perm (bs.take k ++ bs[k] :: bs.drop (k + 1)) := List.perm_middle.symm
  rw [← List.drop_eq_getElem_cons hl, List.take_append_drop] at h1
  exact h1
 exact ⟨h.bel, fun b hb => h.box b (hp.mem_iff.1 hb), (hp.pairwise_iff (fun {a b} e => fun e2 => e e2.symm)).2 h.nod, h.num⟩
theorem IsAt.set {w W : World} {bs : List Bk} {ns : List Nm} {eb k9 : Nat} {u : Value} (h : IsAt W eb k9 u) (hb : BS w bs ns W) (i j : Nat) (x : Value) {b : Bk} {c0 : Value} (hi : bs[i]? = some b) (h0 : b.cs[0]? = some c0) (hn : ∀ s, c0 ≠ .string s) : IsAt (W.setCell ⟨b.p, j, none⟩ x) eb k9 u := by
 have hne : eb ≠ b.p := fun hne => by
  subst hne
  have h1 := hb.cell i 0 hi h0
  rw [h.1] at h1
  injection h1 with h1
  exact hn _ h1.symm
 exact h.keeps (Keeps.setCell W ⟨b.p, j, none⟩ x (S := fun z => z = b.p) rfl) hne
theorem RSt.set {w W : World} {bs : List Bk} {ns : List Nm} {pb n k : Nat} {ev : Value} {st : RS} (h : RSt W pb n k ev st) (hb : BS w bs ns W) (i j : Nat) (x : Value) {b : Bk} {c0 : Value} (hi : bs[i]? = some b) (h0 : b.cs[0]? = some c0) (hn : ∀ s, c0 ≠ .string s) : RSt (W.setCell ⟨b.p, j, none⟩ x) pb n k ev st := by
 cases st with
 | ok a => exact h
 | error y =>
  obtain ⟨eb, u, he, hp, hA, hu⟩ := h
  refine ⟨eb, u, he, hp, hA.set hb i j x hi h0 hn, ?_⟩
  rcases hu with hu | ⟨fb, s, q, hu, hpf, hf⟩
  ·
   exact .inl hu
  ·
   refine .inr ⟨fb, s, q, hu, hpf, ?_⟩
   rcases (show EV W y.1 (eF fb) from .inr ⟨fb, s, q, rfl, hf⟩).ne hb i hi h0 hn with h9 | ⟨fb', _, _, h9, hne, _⟩
   ·
    exact (by unfold eF eE at h9; injection h9 with _ h9; cases h9)
   ·
    unfold Go.Proofs.YtmhainidincjhaaGreatDoor.eF at h9
    injection h9 with _ h9
    injection h9 with h9
    injection h9 with h9
    injection h9 with h9
    subst h9
    exact hf.keeps' (Keeps.setCell W ⟨b.p, j, none⟩ x (S := fun z => z = b.p) rfl) hne
theorem RSt.below {W W' : World} {pb n k : Nat} {ev : Value} {st : RS} (h : RSt W pb n k ev st) (hb : Below W.heap.size W W') : RSt W' pb n k ev st := by
 cases st with
 | ok a => exact h
 | error x => exact ErrB.keeps h (Keeps.of_below hb (S := fun k => W.heap.size ≤ k) fun b h1 _ => h1) (fun b hl _ h2 => by have h2 : W.heap.size ≤ b := h2; omega) (fun b _ h => h)
theorem results_cell1 {fn : Func} {p : Tmp} {ty : TypeId} (h : fn.results = #[.cell p ty]) (tmps : Array Value) (P : Program) (w : World) :
  (results fn tmps).run P w = ((asAddr (tmps.getD p undef)).run P w).andThen fun a w1 => (loadVar ty a).run P w1 := by
 simp only [results, h]
 simp [Sem.run_bind, Result.andThen]
section
variable {w : World} {base : Nat} {e : TypeId} {size n : Nat} {v : Value} {xs : List Value}
theorem run_append_at {P : Program} (t tx ty : TypeId) (i : TypeInfo) (z : Value) (bytes : Nat) (ht : P.underlying t = some (.slice e)) (hi : P.info? e = some i) (hz : i.zero = some z)
  (hsize : i.size = size) (hby : i.bytes = bytes) (hzs : z.cells.size = size)
  (h : Mid w base e size v n xs) (x : Value) (m : Nat) (news : List Value) (hs : Src P size tx x m news w)
  (h63 : n + m ≤ maxLen) (hbytes : ((n + m) + (n + m) / 4 + 192) * bytes ≤ 281474976710656) {v' : Value} {w' : World}
  (hrun : (Builtin.append_ #[t, tx] ty #[v, x]).run P w = .ok v' w') : ∀ {a0 a' : Option Addr} {n0 c0 n' c' : Nat}, v = .slice a0 n0 c0 → v' = .slice a' n' c' → a' = a0 ∨ a' = some ⟨w.heap.size, 0, none⟩ := by
 subst hsize
 subst hby
 have hsmall : n + m ≤ 9223372036854775807 := by simp only [maxLen] at h63; omega
 intro a0 a' n0 c0 n' c' e0 e1
 subst e0 e1
 rcases h.2 with ⟨hv, rfl⟩ | ⟨g, o, cap, cur, hv, hbg, hg, hnc, hcm, hcs, htake⟩
 ·
  cases hv
  have hx : xs = [] := List.eq_nil_of_length_eq_zero (by simpa using h.1)
  subst hx
  by_cases hm : m = 0
  ·
   subst hm
   have hn : news = [] := List.eq_nil_of_length_eq_zero (by simpa using hs.newsLen)
   subst hn
   have hr : (Builtin.append_ #[t, tx] ty #[.slice none 0 0, x]).run P w = .ok (.slice none 0 0) w := by
    rcases hs.kind with ⟨e', hk⟩ | hk <;> simp [Builtin.append_, run_underlying ht, run_underlying hk, sizeOf, typeInfo, hi, hs.len, hs.cells]
   rw [hr] at hrun
   injection hrun with h1 _
   injection h1 with h1
   exact .inl h1.symm
  ·
   have hfit : Builtin.nextslicecap (0 + m) 0 * i.bytes ≤ 281474976710656 := growslice_fits_wide (by omega) hbytes
   have hr := run_append_grow_src (P := P) w t tx ty e i z ht hi hz none 0 0 [] (by simp [Builtin.firstCells]) x m news hs (by omega) (by omega) hfit
   rw [hr] at hrun
   injection hrun with h1 _
   injection h1 with h1
   exact .inr h1.symm
 ·
  cases hv
  by_cases hroom : n + m ≤ c0
  ·
   have hfit : o + n * i.size + news.length ≤ cur.size := by
    have : n * i.size + m * i.size ≤ c0 * i.size := by rw [← Nat.add_mul]; exact Nat.mul_le_mul_right _ hroom
    rw [hs.newsLen]; omega
   have hst := run_storeCells_at P g (o + n * i.size) e news 0 cur w hg (by simpa using hfit) hs.one
   simp only [Nat.add_zero] at hst
   have hr : (Builtin.append_ #[t, tx] ty #[.slice (some ⟨g, o, none⟩) n c0, x]).run P w = .ok (.slice (some ⟨g, o, none⟩) (n + m) c0) (w.setRow g (cur.toList.take (o + n * i.size) ++ news ++ cur.toList.drop (o + n * i.size + news.length)).toArray) := by
    rcases hs.kind with ⟨e', hk⟩ | hk <;> simp [Builtin.append_, run_underlying ht, run_underlying hk, sizeOf, typeInfo, hi, hs.len, hroom, hs.cells, Addr.add_lit, hst]
   rw [hr] at hrun
   injection hrun with h1 _
   injection h1 with h1
   exact .inl h1.symm
  ·
   have holds : (Builtin.firstCells i.size n (.slice (some ⟨g, o, none⟩) n c0)).run P w.drew = .ok xs.toArray w.drew := by
    have hc : ∀ j u, xs[j]? = some u → w.drew.cell? ((⟨g, o, none⟩ : Addr).add j) = some u := fun j u hj => by
     rw [World.cell?_drew, Addr.add_lit]; exact h.cell j u hj
    exact run_firstCells_some (P := P) w.drew i.size n ⟨g, o, none⟩ n c0 xs h.1 hc
   have hr := run_append_grow_src (P := P) w t tx ty e i z ht hi hz (some ⟨g, o, none⟩) n c0 xs holds x m news hs (by omega) (by omega) (growslice_fits_wide (by omega) hbytes)
   rw [hr] at hrun
   injection hrun with h1 _
   injection h1 with h1
   exact .inr h1.symm
end
structure OB (w : World) (bs : List Bk) (ns : List Nm) (T : TypeId) (sz : Nat) (a : Option Addr) (n c : Nat) (cs : List Value) (W : World) : Prop where
 st : BS w bs ns W
 mid : Mid W w.heap.size T sz (.slice a n c) n cs
 nod : ∀ k, (Value.slice a n c).ownBlock = some k → ∀ b, b ∈ bs → b.p ≠ k
 hd : a = none ∨ ∃ g, a = some ⟨g, 0, none⟩ ∧ 1 ≤ n
section
variable {w W W' : World} {bs : List Bk} {ns : List Nm} {T : TypeId} {sz : Nat} {a : Option Addr} {n c : Nat} {cs : List Value}
theorem OB.start (h : BS w bs ns W) : OB w bs ns T sz none 0 0 [] W := ⟨h, Mid.nil _ _ _ _, (fun k hk => by cases hk), .inl rfl⟩
theorem OB.push (h : OB w bs ns T sz a n c cs W) (hT : T ≠ 164) {ob : Obj} {a' : Option Addr} {c' : Nat} {ys : List Value} {m : Nat} (h1 : 1 ≤ m) (hm : Mid W' w.heap.size T sz (.slice a' (n + m) c') (n + m) (cs ++ ys)) (hg : (W.alloc ob).grownBy W' (Value.slice a n c).ownBlock) (hb : (Value.slice a' (n + m) c').ownBlock = (Value.slice a n c).ownBlock ∨ (Value.slice a' (n + m) c').ownBlock = some (W.alloc ob).heap.size) (ha : a' = a ∨ a' = some ⟨(W.alloc ob).heap.size, 0, none⟩) : OB w bs ns T sz a' (n + m) c' (cs ++ ys) W' := by
 refine ⟨h.st.keeps (grown_keeps hg) (fun k hk => (h.mid.lt k hk).1) (fun k hk => h.nod k hk) (fun k hk => h.mid.noWord hT k hk), hm, fun k hk b hbb => ?_, ?_⟩
 ·
  rcases hb with e | e
  ·
   exact h.nod k (by rw [← e]; exact hk) b hbb
  ·
   rw [hk] at e
   injection e with e
   have := lt_of_block (h.st.box b hbb).1
   simp at e
   omega
 ·
  rcases ha with rfl | rfl
  ·
   rcases h.hd with rfl | ⟨g, rfl, _⟩
   ·
    rcases hm.2 with ⟨hv, h0⟩ | ⟨g, o, cap, cur, hv, _⟩
    ·
     omega
    ·
     cases hv
   ·
    exact .inr ⟨g, rfl, by omega⟩
  ·
   exact .inr ⟨_, rfl, by omega⟩
theorem OB.first (h : OB w bs ns T sz a n c cs W) (hs : 1 ≤ sz) (h0 : ∀ s, cs[0]? ≠ some (.string s)) : ∀ b, (Value.slice a n c).ownBlock = some b → ∀ s, W.cell? ⟨b, 0, none⟩ ≠ some (.string s) := fun b hb s hc => by
 rcases h.hd with rfl | ⟨g, rfl, hn⟩
 ·
  cases hb
 ·
  have hb : g = b := by injection hb
  subst hb
  have hl := h.mid.1
  have h1 : 1 ≤ n * sz := Nat.mul_le_mul hn hs
  have hx : cs[0]? = some cs[0] := List.getElem?_eq_getElem (by omega)
  have h2 := h.mid.cell 0 _ hx
  rw [Nat.add_zero] at h2
  rw [h2] at hc
  injection hc with hc
  exact h0 s (by rw [hx, hc])
end
theorem RSt.keeps {W W' : World} {pb n k : Nat} {ev : Value} {st : RS} {S : Nat → Prop} (h : RSt W pb n k ev st) (hk : Keeps W W' S) (hc : ∀ b, S b → ∀ s, W.cell? ⟨b, 0, none⟩ ≠ some (.string s)) : RSt W' pb n k ev st := by
 cases st with
 | ok a => exact h
 | error y =>
  obtain ⟨eb, u, he, hp, hA, hu⟩ := h
  refine ⟨eb, u, he, hp, hA.keeps hk (fun hs => hc eb hs _ hA.1), ?_⟩
  rcases hu with hu | ⟨fb, s, q, hu, hpf, hf⟩
  ·
   exact .inl hu
  ·
   exact .inr ⟨fb, s, q, hu, hpf, hf.keeps' hk (fun hs => hc fb hs _ hf.1)⟩
theorem Tryz.infoEnt : (Tryz.prog.info? 146).map (fun i => (i.zero, i.size, i.bytes)) = some (some (.agg #[.int .i64 0, .bool false, .slice none 0 0, .slice none 0 0]), 4, 64) := by kernel_rfl
structure Rv.sh (v : Rv) : Prop where
 s : v.s = decide (v.q.num < 0)
 l : v.l = lenW v.q.num.natAbs
 m : v.m = lenW (denN v.q.den)
 num : lenW v.q.num.natAbs ≤ 1099511627776
 den : lenW v.q.den ≤ 1099511627776
def Rv.nums (v : Rv) : List Nm := [⟨v.a, v.c, v.q.num.natAbs⟩, ⟨v.b, v.d, denN v.q.den⟩]
theorem Rv.sh.ok {v : Rv} (h : v.sh) {w W : World} {bs : List Bk} {ns : List Nm} (hb : BS w bs ns W) (hn : ∀ x, x ∈ v.nums → x ∈ ns) : v.ok W :=
 ⟨h.s, h.l, h.m, hb.num ⟨v.a, v.c, v.q.num.natAbs⟩ (hn _ (by unfold Rv.nums; simp)), hb.num ⟨v.b, v.d, denN v.q.den⟩ (hn _ (by unfold Rv.nums; simp))⟩
theorem Tryz.underlyingEs : Tryz.prog.underlying 46 = some (.slice 146) := by kernel_rfl
def numsE (vs : List EntV) : List Nm := vs.flatMap fun v => v.r.nums
theorem numsE_snoc (vs : List EntV) (v : EntV) : numsE (vs ++ [v]) = numsE vs ++ v.r.nums := by unfold numsE; simp
section
variable {w0 : World} {bs : List Bk} {ns : List Nm} {pb : Nat} {ba : Option Addr} {n c : Nat} {st : RS} {w w' : World}
theorem RdW.get (h : RdW w0 bs ns pb ba n c st w) : ∃ k ev, BS w0 (rBox pb ba n c k ev :: bs) ns w ∧ RSt w pb n k ev st ∧ k ≤ n := h
theorem RdW.tl (h : RdW w0 bs ns pb ba n c st w) : BS w0 bs ns w := by
 obtain ⟨k, ev, hy, _, _⟩ := h
 exact hy.only (List.sublist_cons_self _ _) fun _ h => h
theorem RdW.cell (h : RdW w0 bs ns pb ba n c st w) (i j : Nat) {b : Bk} {v : Value} (hi : bs[i]? = some b) (hj : b.cs[j]? = some v) : w.cell? ⟨b.p, j, none⟩ = some v := h.tl.cell i j hi hj
theorem RdW.free (h : RdW w0 bs ns pb ba n c st w) (i j : Nat) {b : Bk} (hi : bs[i]? = some b) : w.frozen? ⟨b.p, j, none⟩ = false := h.tl.free i j hi
theorem RdW.at (h : RdW w0 bs ns pb ba n c st w) (i : Nat) {b : Bk} (hi : bs[i]? = some b) : w.heap[b.p]? = some (.cells b.cs.toArray b.T (0, 0)) := h.tl.at i hi
theorem RdW.bel (h : RdW w0 bs ns pb ba n c st w) : Below w0.heap.size w0 w := h.tl.bel
theorem RdW.alloc (h : RdW w0 bs ns pb ba n c st w) {p : Nat} (hp : w.heap.size = p) (T : TypeId) (cs : List Value) {o : Obj} (ho : o = .cells cs.toArray T (0, 0)) : RdW w0 (bs ++ [⟨p, T, cs⟩]) ns pb ba n c st (w.alloc o) := by
 obtain ⟨k, ev, hy, hs, hk⟩ := h
 exact ⟨k, ev, hy.alloc hp T cs ho, hs.below (by rw [ho]; exact belowBox _ _), hk⟩
theorem RdW.ins {x : Bk} (k : Nat) (h : RdW w0 (bs ++ [x]) ns pb ba n c st w) : RdW w0 (bs.take k ++ x :: bs.drop k) ns pb ba n c st w := by
 obtain ⟨q, ev, hy, hs, hk⟩ := h
 exact ⟨q, ev, BS.ins (k + 1) (bs := rBox pb ba n c q ev :: bs) hy, hs, hk⟩
theorem RdW.gotk (h : RdW w0 bs ns pb ba n c st w) {a : Option Addr} {c9 m : Nat} (k : Nat) (hn : NatW w a c9 m) : RdW w0 bs (ns.take k ++ ⟨a, c9, m⟩ :: ns.drop k) pb ba n c st w := by
 obtain ⟨q, ev, hy, hs, hk⟩ := h
 exact ⟨q, ev, hy.gotk k hn, hs, hk⟩
theorem RdW.only (h : RdW w0 bs ns pb ba n c st w) {bs' : List Bk} {ns' : List Nm} (hb : bs'.Sublist bs) (hn : ∀ x, x ∈ ns' → x ∈ ns) : RdW w0 bs' ns' pb ba n c st w := by
 obtain ⟨q, ev, hy, hs, hk⟩ := h
 exact ⟨q, ev, hy.only (.cons_cons _ hb) hn, hs, hk⟩
theorem RdW.set (h : RdW w0 bs ns pb ba n c st w) (i j : Nat) {b : Bk} {u0 : Value} (hi : bs[i]? = some b) (hj : b.cs[j]? = some u0) (h0 : ∀ x, u0 ≠ .int .u64 x) (v : Value) (hc : ∀ s, b.cs[0]? ≠ some (.string s) := by intro s; simp) : RdW w0 (bs.set i ⟨b.p, b.T, b.cs.set j v⟩) ns pb ba n c st (w.setCell ⟨b.p, j, none⟩ v) := by
 obtain ⟨k, ev, hy, hs, hk⟩ := h
 refine ⟨k, ev, hy.set (i + 1) j hi hj h0 v, ?_, hk⟩
 refine hs.keeps (Keeps.setCell w ⟨b.p, j, none⟩ v (S := fun z => z = b.p) rfl) fun z hz s hcell => ?_
 subst hz
 have hat := hy.at (i + 1) (b := b) hi
 have h1 : w.cell? ⟨b.p, 0, none⟩ = b.cs[0]? := by simp [World.cell?, hat]
 rw [h1] at hcell
 exact hc s hcell
def RdX (w0 : World) (bs : List Bk) (ns : List Nm) (pb : Nat) (ba : Option Addr) (n c : Nat) (st : RS) (k : Nat) (ev : Value) (w : World) : Prop := BS w0 (rBox pb ba n c k ev :: bs) ns w ∧ RSt w pb n k ev st ∧ k ≤ n
theorem RdX.rd {k : Nat} {ev : Value} (h : RdX w0 bs ns pb ba n c st k ev w) : RdW w0 bs ns pb ba n c st w := ⟨k, ev, h⟩
theorem RdX.cell {k : Nat} {ev : Value} (h : RdX w0 bs ns pb ba n c st k ev w) (i j : Nat) {b : Bk} {v : Value} (hi : bs[i]? = some b) (hj : b.cs[j]? = some v) : w.cell? ⟨b.p, j, none⟩ = some v := h.rd.cell i j hi hj
theorem RdX.free {k : Nat} {ev : Value} (h : RdX w0 bs ns pb ba n c st k ev w) (i j : Nat) {b : Bk} (hi : bs[i]? = some b) : w.frozen? ⟨b.p, j, none⟩ = false := h.rd.free i j hi
theorem RdX.at {k : Nat} {ev : Value} (h : RdX w0 bs ns pb ba n c st k ev w) (i : Nat) {b : Bk} (hi : bs[i]? = some b) : w.heap[b.p]? = some (.cells b.cs.toArray b.T (0, 0)) := h.rd.at i hi
theorem RdX.set {k : Nat} {ev : Value} (h : RdX w0 bs ns pb ba n c st k ev w) (i j : Nat) {b : Bk} {u0 : Value} (hi : bs[i]? = some b) (hj : b.cs[j]? = some u0) (h0 : ∀ x, u0 ≠ .int .u64 x) (v : Value) (hc : ∀ s, b.cs[0]? ≠ some (.string s) := by intro s; simp) : RdX w0 (bs.set i ⟨b.p, b.T, b.cs.set j v⟩) ns pb ba n c st k ev (w.setCell ⟨b.p, j, none⟩ v) := by
 obtain ⟨hy, hs, hk⟩ := h
 refine ⟨hy.set (i + 1) j hi hj h0 v, ?_, hk⟩
 refine hs.keeps (Keeps.setCell w ⟨b.p, j, none⟩ v (S := fun z => z = b.p) rfl) fun z hz s hcell => ?_
 subst hz
 have hat := hy.at (i + 1) (b := b) hi
 have h1 : w.cell? ⟨b.p, 0, none⟩ = b.cs[0]? := by simp [World.cell?, hat]
 rw [h1] at hcell
 exact hc s hcell
theorem RdX.err {k : Nat} {eb : Nat} {x : Int × Nat} (h : RdX w0 bs ns pb ba n c (.error x) k (eF eb) w) : ErrB w (fun _ => True) (eF eb) x.1 x.2 := by
 obtain ⟨e2, u, he, _, hA, hu⟩ := h.2.1
 refine ⟨e2, u, he, trivial, hA, ?_⟩
 rcases hu with hu | ⟨fb, s, j, hu, _, hf⟩
 ·
  exact .inl hu
 ·
  exact .inr ⟨fb, s, j, hu, trivial, hf⟩
end
def Rv.hd (r : Rv) : List Value := [.bool r.s, .slice r.a r.l r.c, .slice r.b r.m r.d]
theorem Rv.zero_sh : Rv.zero.sh := ⟨rfl, lenW_zero.symm, lenW_zero.symm, by show lenW 0 ≤ _; rw [lenW_zero]; omega, by
 show lenW 1 ≤ _
 exact Nat.le_trans (lenW_le (show (1 : Nat) < W64 ^ 1 by rw [Nat.pow_one]; unfold W64; omega)) (by omega)⟩
theorem RdW.zero {w0 : World} {bs : List Bk} {ns : List Nm} {pb : Nat} {ba : Option Addr} {n c : Nat} {st : RS} {w : World} (h : RdW w0 bs ns pb ba n c st w) : RdW w0 bs (Rv.zero.nums ++ ns) pb ba n c st w := (h.gotk 0 (NatW.zero w)).gotk 0 (NatW.zero w)
def rEndS (data : List Nat) (st : RS) : RS := match st with
 | .error x => .error x
 | .ok a => if a = data.length then .ok a else .error (270, a)
def EndR (w0 : World) (bs : List Bk) (ns : List Nm) (pb : Nat) (ba : Option Addr) (n c : Nat) (st : RS) (e : Ending) (w' : World) : Prop := ∃ k ev, e = .returned ev ∧ BS w0 (rBox pb ba n c k ev :: bs) ns w' ∧ RSt w' pb n k ev st ∧ k ≤ n
theorem rend_err {w0 : World} {bs : List Bk} {ns : List Nm} {pb : Nat} {ba : Option Addr} {n c : Nat} (k eb : Nat) (x : Int × Nat) (w : World) (h : BS w0 (rBox pb ba n c k (eF eb) :: bs) ns w) (hs : RSt w pb n k (eF eb) (.error x)) (hk : k ≤ n) :
  Calls Tryz.prog 67 #[.pointer (some ⟨pb, 0, none⟩)] w (EndR w0 bs ns pb ba n c (.error x)) := by
 have k2 := h.cell 0 2 rfl rfl
 have HY := Lib.hid h
 have HS := Lib.hid hs
 unfold eF at k2
 clear h hs
 go_enter Tryz.func67, Tryz.ntmps67
 go_wp2_with fail
 go_quiet (fail)
 go_wp2_with fail
 go_ret
 exact ⟨k, eF eb, rfl, HY.out.drewN _, HS.out.below (Below.drawn _ _), hk⟩
theorem rend_all {w0 : World} {bs : List Bk} {ns : List Nm} {pb : Nat} {ba : Option Addr} {n c : Nat} (w : World) (h : BS w0 (rBox pb ba n c n .nilIface :: bs) ns w) (hn : n ≤ 1099511627776) :
  Calls Tryz.prog 67 #[.pointer (some ⟨pb, 0, none⟩)] w (EndR w0 bs ns pb ba n c (.ok n)) := by
 have k0 := h.cell 0 0 rfl rfl
 have k1 := h.cell 0 1 rfl rfl
 have k2 := h.cell 0 2 rfl rfl
 have HY := Lib.hid h
 clear h
 go_enter Tryz.func67, Tryz.ntmps67
 go_wp2_with fail
 go_quiet (fail)
 go_wp2_with fail
 go_ret
 exact ⟨n, .nilIface, rfl, HY.out.drewN _, ⟨rfl, rfl, Nat.le_refl _⟩, Nat.le_refl _⟩
theorem rend_part {w0 : World} {bs : List Bk} {ns : List Nm} {pb : Nat} {ba : Option Addr} {n c : Nat} (k : Nat) (w : World) (h : BS w0 (rBox pb ba n c k .nilIface :: bs) ns w) (hk : k ≤ n) (hne : k ≠ n) (hn : n ≤ 1099511627776) :
  Calls Tryz.prog 67 #[.pointer (some ⟨pb, 0, none⟩)] w (EndR w0 bs ns pb ba n c (.error (270, k))) := by
 have HF := Lib.hid fun (w : World) (h : BS w0 (rBox pb ba n c k .nilIface :: bs) ns w) => rfail_any k .nilIface (.ok k) 52 (.int .i64 270) 270 w h ⟨rfl, rfl, hk⟩ (.inl rfl)
 have k0 := h.cell 0 0 rfl rfl
 have k1 := h.cell 0 1 rfl rfl
 have k2 := h.cell 0 2 rfl rfl
 have e1 : ((k : Int) != (n : Int)) = true := bne_iff_ne.2 (by omega)
 have e2 : (k != n) = true := bne_iff_ne.2 hne
 have HY := Lib.hid h
 have HK := Lib.hid hk
 clear h hne hk
 go_enter Tryz.func67, Tryz.ntmps67
 go_wp2_with fail
 go_quiet (fail)
 go_wp2_with fail
 refine (HF.out _ (HY.out.drewN _)).mono ?_
 rintro e w2 ⟨ev, rfl, hy2, hs2⟩
 have HR2 := Lib.hid (And.intro hy2 hs2)
 have k2 := hy2.cell 0 2 rfl rfl
 clear HF hy2 hs2 k0 k1 e1 e2
 go_wp2_with fail
 go_ret
 exact ⟨k, ev, rfl, HR2.out.1, HR2.out.2, HK.out⟩
theorem rend_any {w0 : World} {bs : List Bk} {ns : List Nm} {pb : Nat} {ba : Option Addr} {n c : Nat} (data : List Nat) (st : RS) (w : World) (h : RdW w0 bs ns pb ba n c st w) (hd : BytesN w0 (.slice ba n c) data) (hn : n ≤ 1099511627776) :
  Calls Tryz.prog 67 #[.pointer (some ⟨pb, 0, none⟩)] w (EndR w0 bs ns pb ba n c (rEndS data st)) := by
 obtain ⟨k, ev, hy, hs, hk⟩ := h
 have hl := hd.len.1
 cases st with
 | error x =>
  have hs0 := hs
  obtain ⟨eb, u, rfl, _⟩ := hs
  exact rend_err k eb x w hy hs0 hk
 | ok a =>
  obtain ⟨rfl, rfl, _⟩ := hs
  unfold rEndS
  simp only
  by_cases hc : k = data.length
  ·
   rw [if_pos hc]
   obtain rfl : k = n := by omega
   exact rend_all w hy hn
  ·
   rw [if_neg hc]
   exact rend_part k w hy hk (by omega) hn
end Go.Proofs.YtmhainidincjhaaGreatDoor
