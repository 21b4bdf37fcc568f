/-
 What the laws stand on, part Re: contracts and plain laws of FQst2, FParts, FEncM; the conditions are each law's own.
-/
import Derived.Test.YtmhainidincjhaaGreatDoorYRd
set_option linter.unusedVariables false
set_option linter.unusedSimpArgs false
set_option maxRecDepth 100000
set_option maxHeartbeats 16000000
namespace Go.Proofs.YtmhainidincjhaaGreatDoor
open Go.RowKit Go.Extern.Stop Go.Stop Go.Extern
theorem two_len (l : List VE) : (l.flatMap VE.two).length = 2 * l.length := by
 induction l with
 | nil => rfl
 | cons x l ih => rw [List.flatMap_cons, List.length_append, ih, List.length_cons]; show 2 + _ = _; omega
theorem f27qst_1 (m0 m1 m2 m4 m5 m6 : Int) (t1 t2 : ByteArray) (q : Rat) (qs : Bool) (qa qb ea : Option Addr) (qn qc qm qd en ec : Nat) (vs : List VE) (w : World) (hen : en ≤ 1000) (HES : Hid (EsR w ea en ec vs)) (hec : en ≤ ec ∧ ec ≤ 9223372036854775807)
  (HOK : Hid (∀ W, Below w.heap.size w W → ∀ p, p ∈ (((([VP.num (1) 1 12] ++ [VP.num (m6) 0 3]) ++ [VP.rat q qs qa qn qc qb qm qd, VP.num (en) 0 64]) ++ vs.flatMap VE.two) : List VP) → p.ok W)) :
  Calls Tryz.prog 128 #[.agg #[.int .i64 m0, .int .i64 m1, .int .i64 m2, .string t1, .string t2, .int .i64 1, .int .i64 m4, .int .i64 m5, .int .i64 m6, .bool qs, .slice qa qn qc, .slice qb qm qd, .slice ea en ec]] w fun e w' => ∃ a c, e = .returned (.slice a (4 + 2 * en) c) ∧ PSW w' a (4 + 2 * en) c ((([VP.num (1) 1 12] ++ [VP.num (m6) 0 3]) ++ [VP.rat q qs qa qn qc qb qm qd, VP.num (en) 0 64]) ++ vs.flatMap VE.two) ∧ Below w.heap.size w w' := by
 obtain ⟨i0, hi, hz0, hz1, hz2⟩ := info_parts Tryz.infoPart
 obtain ⟨W0, hW0⟩ : ∃ W0, W0 = w.alloc (.cells #[.int .i64 m0, .int .i64 m1, .int .i64 m2, .string t1, .string t2, .int .i64 1, .int .i64 m4, .int .i64 m5, .int .i64 m6, .bool qs, .slice qa qn qc, .slice qb qm qd, .slice ea en ec] 63) := ⟨_, rfl⟩
 have HN := Lib.hid (show BS w [⟨w.heap.size, 63, [.int .i64 m0, .int .i64 m1, .int .i64 m2, .string t1, .string t2, .int .i64 1, .int .i64 m4, .int .i64 m5, .int .i64 m6, .bool qs, .slice qa qn qc, .slice qb qm qd, .slice ea en ec]⟩] [] W0 from by rw [hW0]; exact (BS.start w).alloc (p := w.heap.size) rfl 63 [.int .i64 m0, .int .i64 m1, .int .i64 m2, .string t1, .string t2, .int .i64 1, .int .i64 m4, .int .i64 m5, .int .i64 m6, .bool qs, .slice qa qn qc, .slice qb qm qd, .slice ea en ec] rfl)
 have HW0 := Lib.hid hW0
 have HMX := Lib.hid (fun (W : World) (hb : Below W0.heap.size W0 W) => (⟨(hb.cell (p := ⟨w.heap.size, 0, none⟩) (HN.out.lt 0 rfl)).trans (HN.out.cell 0 0 rfl rfl), (hb.cell (p := ⟨w.heap.size, 1, none⟩) (HN.out.lt 0 rfl)).trans (HN.out.cell 0 1 rfl rfl), (hb.cell (p := ⟨w.heap.size, 2, none⟩) (HN.out.lt 0 rfl)).trans (HN.out.cell 0 2 rfl rfl), (hb.cell (p := ⟨w.heap.size, 3, none⟩) (HN.out.lt 0 rfl)).trans (HN.out.cell 0 3 rfl rfl), (hb.cell (p := ⟨w.heap.size, 4, none⟩) (HN.out.lt 0 rfl)).trans (HN.out.cell 0 4 rfl rfl), (hb.cell (p := ⟨w.heap.size, 5, none⟩) (HN.out.lt 0 rfl)).trans (HN.out.cell 0 5 rfl rfl), (hb.cell (p := ⟨w.heap.size, 6, none⟩) (HN.out.lt 0 rfl)).trans (HN.out.cell 0 6 rfl rfl), (hb.cell (p := ⟨w.heap.size, 7, none⟩) (HN.out.lt 0 rfl)).trans (HN.out.cell 0 7 rfl rfl), (hb.cell (p := ⟨w.heap.size, 8, none⟩) (HN.out.lt 0 rfl)).trans (HN.out.cell 0 8 rfl rfl), (hb.cell (p := ⟨w.heap.size, 9, none⟩) (HN.out.lt 0 rfl)).trans (HN.out.cell 0 9 rfl rfl), (hb.cell (p := ⟨w.heap.size, 10, none⟩) (HN.out.lt 0 rfl)).trans (HN.out.cell 0 10 rfl rfl), (hb.cell (p := ⟨w.heap.size, 11, none⟩) (HN.out.lt 0 rfl)).trans (HN.out.cell 0 11 rfl rfl), (hb.cell (p := ⟨w.heap.size, 12, none⟩) (HN.out.lt 0 rfl)).trans (HN.out.cell 0 12 rfl rfl)⟩ : W.cell? ⟨w.heap.size, 0, none⟩ = some (.int .i64 m0) ∧ W.cell? ⟨w.heap.size, 1, none⟩ = some (.int .i64 m1) ∧ W.cell? ⟨w.heap.size, 2, none⟩ = some (.int .i64 m2) ∧ W.cell? ⟨w.heap.size, 3, none⟩ = some (.string t1) ∧ W.cell? ⟨w.heap.size, 4, none⟩ = some (.string t2) ∧ W.cell? ⟨w.heap.size, 5, none⟩ = some (.int .i64 1) ∧ W.cell? ⟨w.heap.size, 6, none⟩ = some (.int .i64 m4) ∧ W.cell? ⟨w.heap.size, 7, none⟩ = some (.int .i64 m5) ∧ W.cell? ⟨w.heap.size, 8, none⟩ = some (.int .i64 m6) ∧ W.cell? ⟨w.heap.size, 9, none⟩ = some (.bool qs) ∧ W.cell? ⟨w.heap.size, 10, none⟩ = some (.slice qa qn qc) ∧ W.cell? ⟨w.heap.size, 11, none⟩ = some (.slice qb qm qd) ∧ W.cell? ⟨w.heap.size, 12, none⟩ = some (.slice ea en ec)))
 clear hW0
 go_enter Tryz.func128, Tryz.ntmps128
 go_upto_region 1 with fail
 rw [← HW0.out]
 have HO := Lib.hid (PL.nil W0)
 have ⟨k0, k1, k2, k3, k4, k5, k6, k7, k8, k9, k10, k11, k12⟩ := HMX.out _ HO.out.bel
 go_wp2_with fail
 clear k0 k1 k2 k3 k4 k5 k6 k7 k8 k9 k10 k11 k12
 refine (f27num (1) 1 12 _).mono ?_
 rintro e w1 ⟨rfl, hb⟩
 replace HO := Lib.hid (HO.out.call hb)
 clear hb
 replace HO := Lib.hid (show PL W0 (some ⟨w1.heap.size, 0, none⟩) 1 1 [VP.num (1) 1 12] (w1.alloc (.cells #[.int .i64 1, .int .i64 1, .int .i64 12, .int .i64 1, .string ⟨#[]⟩, .bool false, .slice none 0 0, .slice none 0 0] 152)) from HO.out.lit [VP.num (1) 1 12] 1 rfl rfl)
 have ⟨k0, k1, k2, k3, k4, k5, k6, k7, k8, k9, k10, k11, k12⟩ := HMX.out _ HO.out.bel
 go_wp2_with fail
 clear k0 k1 k2 k3 k4 k5 k6 k7 k8 k9 k10 k11 k12
 obtain ⟨p2, hp⟩ : ∃ p2, w1.heap.size = p2 := ⟨_, rfl⟩
 rw [hp] at HO
 (try simp only [hp])
 clear hp
 generalize w1.alloc (.cells #[.int .i64 1, .int .i64 1, .int .i64 12, .int .i64 1, .string ⟨#[]⟩, .bool false, .slice none 0 0, .slice none 0 0] 152) = w2 at HO ⊢
 refine (f27num (m6) 0 3 _).mono ?_
 rintro e w3 ⟨rfl, hb⟩
 replace HO := Lib.hid (HO.out.call hb)
 clear hb
 have HS3 := Lib.hid (show Src Tryz.prog 8 147 (.slice (some ⟨w3.heap.size, 0, none⟩) 1 1) 1 ([VP.num (m6) 0 3].flatMap VP.cells) (w3.alloc (.cells #[.int .i64 1, .int .i64 0, .int .i64 3, .int .i64 m6, .string ⟨#[]⟩, .bool false, .slice none 0 0, .slice none 0 0] 152)) from (Sl.lit w3 152 8 1 ([VP.num (m6) 0 3].flatMap VP.cells) (by unfold maxLen; omega) rfl).src (P := Tryz.prog) Tryz.underlying147 (one_VP [VP.num (m6) 0 3]))
 have HM3 := Lib.hid (HO.out.mid.alloc (.cells #[.int .i64 1, .int .i64 0, .int .i64 3, .int .i64 m6, .string ⟨#[]⟩, .bool false, .slice none 0 0, .slice none 0 0] 152))
 have HW3 := Lib.hid (Nat.le_trans HO.out.bel.size (belowBox w3 (.cells #[.int .i64 1, .int .i64 0, .int .i64 3, .int .i64 m6, .string ⟨#[]⟩, .bool false, .slice none 0 0, .slice none 0 0] 152)).size)
 go_wp2_with (at_builtin; refine wpList_append_mid (v := .slice (some ⟨p2, 0, none⟩) 1 1) rfl _ _ 147 147 rfl i0 (.agg #[.int .i64 0, .int .i64 0, .int .i64 0, .int .i64 0, .string ⟨#[]⟩, .bool false, .slice none 0 0, .slice none 0 0]) 104 Tryz.underlying147 hi hz0 hz1 hz2 rfl rfl HM3.out _ rfl 1 _ HS3.out (by unfold maxLen; omega) (by omega) HW3.out ?_; intro a4 c4 w4 hmo hgo hbo; have HP := Lib.hid (HO.out.push (ys := [VP.num (m6) 0 3]) hmo hgo); clear hmo hgo hbo HM3 HW3 HS3 HO; have ⟨k0, k1, k2, k3, k4, k5, k6, k7, k8, k9, k10, k11, k12⟩ := HMX.out _ HP.out.bel; go_upto_region 7 with fail)
 have HO := HP
 clear HP k0 k1 k2 k3 k4 k5 k6 k7 k8 k9 k10 k11 k12
 have hcl0 := HO.out.len
 go_cut [3] (fun v3 wx => ∃ a5 c5, v3 = .slice a5 ((1 + 1) + 2) c5 ∧ PL W0 a5 ((1 + 1) + 2) c5 (([VP.num (1) 1 12] ++ [VP.num (m6) 0 3]) ++ [VP.rat q qs qa qn qc qb qm qd, VP.num (en) 0 64]) wx)
 case first =>
  replace HO := Lib.hid (show PL W0 a4 (1 + 1) c4 ([VP.num (1) 1 12] ++ [VP.num (m6) 0 3]) w4.drew from HO.out.call (Below.drawn w4 1))
  refine wp_region_held_drew (S := fun W => W.cell? ⟨w.heap.size, 0, none⟩ = some (.int .i64 m0) ∧ W.cell? ⟨w.heap.size, 1, none⟩ = some (.int .i64 m1) ∧ W.cell? ⟨w.heap.size, 2, none⟩ = some (.int .i64 m2) ∧ W.cell? ⟨w.heap.size, 3, none⟩ = some (.string t1) ∧ W.cell? ⟨w.heap.size, 4, none⟩ = some (.string t2) ∧ W.cell? ⟨w.heap.size, 5, none⟩ = some (.int .i64 1) ∧ W.cell? ⟨w.heap.size, 6, none⟩ = some (.int .i64 m4) ∧ W.cell? ⟨w.heap.size, 7, none⟩ = some (.int .i64 m5) ∧ W.cell? ⟨w.heap.size, 8, none⟩ = some (.int .i64 m6) ∧ W.cell? ⟨w.heap.size, 9, none⟩ = some (.bool qs) ∧ W.cell? ⟨w.heap.size, 10, none⟩ = some (.slice qa qn qc) ∧ W.cell? ⟨w.heap.size, 11, none⟩ = some (.slice qb qm qd) ∧ W.cell? ⟨w.heap.size, 12, none⟩ = some (.slice ea en ec)) (by kernel_rfl) (HMX.out _ HO.out.bel) (fun hHeld => ?_)
  generalize w4.drew = wd at HO hHeld ⊢
  refine tm 0 (some 23) ?_
  refine tm 1 (some 24) ?_
  refine tl 2 (some 25) ?_
  refine tm 4 (some 27) ?_
  refine tl 5 (some 28) ?_
  refine tm 6 (some 29) ?_
  refine wpAnyH_ready (rs := [3]) (by kernel_rfl) (by simp) ?_
  refine (AllReadyH.cons (o := { dst := some 26, op := Op.call { callee := Callee.value (Operand.func 176), args := #[Operand.tmp 25], argTypes := #[60] }, type := 152, pos := "ref.go:48", after := #[{ on := 2, ground := Ground.data }], guard := none }) rfl (fun K hK => ?_) AllReadyH.nil)
  go_simp
  refine (f27rat qs qa qb qn qc qm qd _).mono ?_
  rintro e wd ⟨rfl, hb⟩
  replace HO := Lib.hid (HO.out.call hb)
  clear hb
  go_wp2_with fail
  refine hK.out _ _ (HMX.out _ HO.out.bel) (fun hHeld2 => ?_)
  clear hK K hHeld
  rename _ => hHeld
  try simp only [Act.put, stB, stZ, stS]
  refine wpAnyH_ready (rs := [7]) (by kernel_rfl) (by simp) ?_
  refine (AllReadyH.cons (o := { dst := some 30, op := Op.call { callee := Callee.value (Operand.func 125), args := #[Operand.tmp 29, Operand.const (Value.int IntKind.i64 0), Operand.const (Value.int IntKind.i64 64)], argTypes := #[3, 3, 3] }, type := 152, pos := "ref.go:48", after := #[{ on := 6, ground := Ground.data }, { on := 3, ground := Ground.chain }], guard := none }) rfl (fun K hK => ?_) AllReadyH.nil)
  go_simp
  refine (f27num (en) 0 64 _).mono ?_
  rintro e wd ⟨rfl, hb⟩
  replace HO := Lib.hid (HO.out.call hb)
  clear hb
  go_wp2_with fail
  refine hK.out _ _ (HMX.out _ HO.out.bel) (fun hHeld2 => ?_)
  clear hK K hHeld
  rename _ => hHeld
  try simp only [Act.put, stB, stZ, stS]
  refine wpAnyH_ready (rs := [8]) (by kernel_rfl) (by simp) ?_
  refine (AllReadyH.cons (o := { dst := some 31, op := Op.buildSlice 147 2 #[(0, Operand.tmp 26), (1, Operand.tmp 30)], type := 147, pos := "ref.go:48", after := #[{ on := 3, ground := Ground.data }, { on := 7, ground := Ground.data }], guard := none }) rfl (fun K hK => ?_) AllReadyH.nil)
  go_simp
  refine hK.out _ _ (HMX.out _ (bthen HO.out.bel (belowBox _ (.cells #[.int .i64 4, .int .i64 0, .int .i64 0, .int .i64 0, .string ⟨#[]⟩, .bool qs, .slice qa qn qc, .slice qb qm qd, .int .i64 1, .int .i64 0, .int .i64 64, .int .i64 en, .string ⟨#[]⟩, .bool false, .slice none 0 0, .slice none 0 0] 152)))) (fun hHeld2 => ?_)
  clear hK K hHeld
  rename _ => hHeld
  try simp only [Act.put, stB, stZ, stS]
  refine wpAnyH_ready (rs := [9]) (by kernel_rfl) (by simp) ?_
  refine (AllReadyH.cons (o := { dst := some 32, op := Op.call { callee := Callee.builtin Builtin.append, args := #[Operand.tmp 23, Operand.tmp 31], argTypes := #[147, 147] }, type := 147, pos := "ref.go:48", after := #[{ on := 0, ground := Ground.data }, { on := 8, ground := Ground.data }, { on := 7, ground := Ground.chain }], guard := none }) rfl (fun K hK => ?_) AllReadyH.nil)
  refine step_append_mid (v := .slice a4 (1 + 1) c4) rfl _ _ 147 147 rfl i0 (.agg #[.int .i64 0, .int .i64 0, .int .i64 0, .int .i64 0, .string ⟨#[]⟩, .bool false, .slice none 0 0, .slice none 0 0]) 104 Tryz.underlying147 hi hz0 hz1 hz2 rfl rfl (HO.out.mid.alloc (.cells #[.int .i64 4, .int .i64 0, .int .i64 0, .int .i64 0, .string ⟨#[]⟩, .bool qs, .slice qa qn qc, .slice qb qm qd, .int .i64 1, .int .i64 0, .int .i64 64, .int .i64 en, .string ⟨#[]⟩, .bool false, .slice none 0 0, .slice none 0 0] 152)) _ rfl 2 ([VP.rat q qs qa qn qc qb qm qd, VP.num (en) 0 64].flatMap VP.cells) ((Sl.lit _ 152 8 2 ([VP.rat q qs qa qn qc qb qm qd, VP.num (en) 0 64].flatMap VP.cells) (by unfold maxLen; omega) rfl).src (P := Tryz.prog) Tryz.underlying147 (one_VP [VP.rat q qs qa qn qc qb qm qd, VP.num (en) 0 64])) (by unfold maxLen; omega) (by omega) (Nat.le_trans HO.out.bel.size (belowBox _ _).size) ?_
  intro a5 c5 w5 hmo hgo hbo
  have HO6 := Lib.hid (HO.out.push (ys := [VP.rat q qs qa qn qc qb qm qd, VP.num (en) 0 64]) hmo hgo)
  replace HO := HO6
  clear HO6 hmo hgo hbo
  refine hK.out _ _ (HMX.out _ HO.out.bel) (fun hHeld2 => ?_)
  clear hK K hHeld
  rename _ => hHeld
  try simp only [Act.put, stB, stZ, stS]
  refine tm 10 (some 3) ?_
  refine wpAnyH_done (by kernel_rfl) ?_ _
  clear hHeld
  go_wp2_with fail
  go_meet
  exact ⟨_, _, rfl, HO.out⟩
 case rest =>
  obtain ⟨w6, rfl⟩ : ∃ w6 : World, w6 = wc := ⟨_, rfl⟩
  obtain ⟨a5, c5, rfl, ho⟩ := hcut
  have HO := Lib.hid ho
  have hcl := ho.len
  clear ho
  have ⟨k0, k1, k2, k3, k4, k5, k6, k7, k8, k9, k10, k11, k12⟩ := HMX.out _ HO.out.bel
  go_wp2_with fail
  clear k0 k1 k2 k3 k4 k5 k6 k7 k8 k9 k10 k11 k12
  go_loopw [3, 4] (fun v3 v4 wr => ∃ (k nn : Nat) (a9 : Option Addr) (c9 : Nat), k ≤ en ∧ v4 = .int .i64 k ∧ nn = 4 + 2 * k ∧ v3 = .slice a9 nn c9 ∧ PL W0 a9 nn c9 ((([VP.num (1) 1 12] ++ [VP.num (m6) 0 3]) ++ [VP.rat q qs qa qn qc qb qm qd, VP.num (en) 0 64]) ++ (vs.take k).flatMap VE.two) wr) (fun _ v4 _ => en - (intOf v4).toNat)
  case atStart => exact ⟨0, 4, a5, c5, Nat.zero_le _, rfl, rfl, rfl, by rw [List.take_zero, List.flatMap_nil, List.append_nil]; exact HO.out⟩
  case round =>
   obtain ⟨k, nn, a9, c9, hk, rfl, hnn, rfl, ho⟩ := hrel
   have hcl := ho.len
   have hnb : nn ≤ 1000000 := by omega
   replace HO := Lib.hid ho
   have HNN := Lib.hid hnn
   clear ho hnn
   by_cases hlt : k < en
   ·
    obtain ⟨x, eb, eo, hx, rfl, hlt8, c0, c1, c2, c3⟩ := HES.out.get k hlt
    have HTK := Lib.hid (show (vs.take (k + 1)).flatMap VE.two = (vs.take k).flatMap VE.two ++ x.two by rw [List.take_add_one, hx, List.flatMap_append]; simp)
    have HMY := Lib.hid (fun (W : World) (hb : Below W0.heap.size W0 W) => (by
     have hbw := bthen (belowBox w (.cells #[.int .i64 m0, .int .i64 m1, .int .i64 m2, .string t1, .string t2, .int .i64 1, .int .i64 m4, .int .i64 m5, .int .i64 m6, .bool qs, .slice qa qn qc, .slice qb qm qd, .slice (some ⟨eb, eo, none⟩) en ec] 63)) (by rw [← HW0.out]; exact hb : Below (w.alloc (.cells #[.int .i64 m0, .int .i64 m1, .int .i64 m2, .string t1, .string t2, .int .i64 1, .int .i64 m4, .int .i64 m5, .int .i64 m6, .bool qs, .slice qa qn qc, .slice qb qm qd, .slice (some ⟨eb, eo, none⟩) en ec] 63)).heap.size (w.alloc (.cells #[.int .i64 m0, .int .i64 m1, .int .i64 m2, .string t1, .string t2, .int .i64 1, .int .i64 m4, .int .i64 m5, .int .i64 m6, .bool qs, .slice qa qn qc, .slice qb qm qd, .slice (some ⟨eb, eo, none⟩) en ec] 63)) W)
     exact ⟨HMX.out W hb, (hbw.cell (p := ⟨eb, eo + k * 4, none⟩) hlt8).trans c0, (hbw.cell (p := ⟨eb, eo + k * 4 + 1, none⟩) hlt8).trans c1, (hbw.cell (p := ⟨eb, eo + k * 4 + 2, none⟩) hlt8).trans c2, (hbw.cell (p := ⟨eb, eo + k * 4 + 3, none⟩) hlt8).trans c3⟩ :
     (W.cell? ⟨w.heap.size, 0, none⟩ = some (.int .i64 m0) ∧ W.cell? ⟨w.heap.size, 1, none⟩ = some (.int .i64 m1) ∧ W.cell? ⟨w.heap.size, 2, none⟩ = some (.int .i64 m2) ∧ W.cell? ⟨w.heap.size, 3, none⟩ = some (.string t1) ∧ W.cell? ⟨w.heap.size, 4, none⟩ = some (.string t2) ∧ W.cell? ⟨w.heap.size, 5, none⟩ = some (.int .i64 1) ∧ W.cell? ⟨w.heap.size, 6, none⟩ = some (.int .i64 m4) ∧ W.cell? ⟨w.heap.size, 7, none⟩ = some (.int .i64 m5) ∧ W.cell? ⟨w.heap.size, 8, none⟩ = some (.int .i64 m6) ∧ W.cell? ⟨w.heap.size, 9, none⟩ = some (.bool qs) ∧ W.cell? ⟨w.heap.size, 10, none⟩ = some (.slice qa qn qc) ∧ W.cell? ⟨w.heap.size, 11, none⟩ = some (.slice qb qm qd) ∧ W.cell? ⟨w.heap.size, 12, none⟩ = some (.slice (some ⟨eb, eo, none⟩) en ec)) ∧ W.cell? ⟨eb, eo + k * 4, none⟩ = some (.int .i64 x.id) ∧ W.cell? ⟨eb, eo + k * 4 + 1, none⟩ = some (.bool x.s) ∧ W.cell? ⟨eb, eo + k * 4 + 2, none⟩ = some (.slice x.a x.n x.c) ∧ W.cell? ⟨eb, eo + k * 4 + 3, none⟩ = some (.slice x.b x.m x.d)))
    clear c0 c1 c2 c3 hx hlt8
    have ⟨k0, k1, k2, k3, k4, k5, k6, k7, k8, k9, k10, k11, k12⟩ := HMX.out _ HO.out.bel
    go_upto_region 11 with fail
    clear k0 k1 k2 k3 k4 k5 k6 k7 k8 k9 k10 k11 k12
    replace HO := Lib.hid (show PL W0 a9 nn c9 ((([VP.num (1) 1 12] ++ [VP.num (m6) 0 3]) ++ [VP.rat q qs qa qn qc qb qm qd, VP.num (en) 0 64]) ++ (vs.take k).flatMap VE.two) wr.drew from HO.out.call (Below.drawn wr 1))
    refine wp_region_held_drew (S := fun W => (W.cell? ⟨w.heap.size, 0, none⟩ = some (.int .i64 m0) ∧ W.cell? ⟨w.heap.size, 1, none⟩ = some (.int .i64 m1) ∧ W.cell? ⟨w.heap.size, 2, none⟩ = some (.int .i64 m2) ∧ W.cell? ⟨w.heap.size, 3, none⟩ = some (.string t1) ∧ W.cell? ⟨w.heap.size, 4, none⟩ = some (.string t2) ∧ W.cell? ⟨w.heap.size, 5, none⟩ = some (.int .i64 1) ∧ W.cell? ⟨w.heap.size, 6, none⟩ = some (.int .i64 m4) ∧ W.cell? ⟨w.heap.size, 7, none⟩ = some (.int .i64 m5) ∧ W.cell? ⟨w.heap.size, 8, none⟩ = some (.int .i64 m6) ∧ W.cell? ⟨w.heap.size, 9, none⟩ = some (.bool qs) ∧ W.cell? ⟨w.heap.size, 10, none⟩ = some (.slice qa qn qc) ∧ W.cell? ⟨w.heap.size, 11, none⟩ = some (.slice qb qm qd) ∧ W.cell? ⟨w.heap.size, 12, none⟩ = some (.slice (some ⟨eb, eo, none⟩) en ec)) ∧ W.cell? ⟨eb, eo + k * 4, none⟩ = some (.int .i64 x.id) ∧ W.cell? ⟨eb, eo + k * 4 + 1, none⟩ = some (.bool x.s) ∧ W.cell? ⟨eb, eo + k * 4 + 2, none⟩ = some (.slice x.a x.n x.c) ∧ W.cell? ⟨eb, eo + k * 4 + 3, none⟩ = some (.slice x.b x.m x.d)) (by kernel_rfl) (HMY.out _ HO.out.bel) (fun hHeld => ?_)
    generalize wr.drew = wd at HO hHeld ⊢
    refine tm 0 (some 40) ?_
    refine tm 1 (some 41) ?_
    refine tl 2 (some 42) ?_
    refine tm 3 (some 43) ?_
    refine tl 4 (some 44) ?_
    refine tm 5 (some 45) ?_
    refine tl 6 (some 46) ?_
    refine tm 8 (some 48) ?_
    refine tl 9 (some 49) ?_
    refine tm 10 (some 50) ?_
    refine tl 11 (some 51) ?_
    refine tm 12 (some 52) ?_
    refine tl 13 (some 53) ?_
    refine wpAnyH_ready (rs := [7]) (by kernel_rfl) (by simp) ?_
    refine (AllReadyH.cons (o := { dst := some 47, op := Op.call { callee := Callee.value (Operand.func 127), args := #[Operand.tmp 46], argTypes := #[3] }, type := 152, pos := "ref.go:50", after := #[{ on := 6, ground := Ground.data }], guard := none }) rfl (fun K hK => ?_) AllReadyH.nil)
    go_simp
    refine (f27idn x.id _).mono ?_
    rintro e wd ⟨rfl, hb⟩
    replace HO := Lib.hid (HO.out.call hb)
    clear hb
    go_wp2_with fail
    refine hK.out _ _ (HMY.out _ HO.out.bel) (fun hHeld2 => ?_)
    clear hK K hHeld
    rename _ => hHeld
    try simp only [Act.put, stB, stZ, stS]
    refine wpAnyH_ready (rs := [14]) (by kernel_rfl) (by simp) ?_
    refine (AllReadyH.cons (o := { dst := some 54, op := Op.call { callee := Callee.value (Operand.func 176), args := #[Operand.tmp 53], argTypes := #[60] }, type := 152, pos := "ref.go:50", after := #[{ on := 13, ground := Ground.data }, { on := 7, ground := Ground.chain }], guard := none }) rfl (fun K hK => ?_) AllReadyH.nil)
    go_simp
    refine (f27rat x.s x.a x.b x.n x.c x.m x.d _).mono ?_
    rintro e wd ⟨rfl, hb⟩
    replace HO := Lib.hid (HO.out.call hb)
    clear hb
    go_wp2_with fail
    refine hK.out _ _ (HMY.out _ HO.out.bel) (fun hHeld2 => ?_)
    clear hK K hHeld
    rename _ => hHeld
    try simp only [Act.put, stB, stZ, stS]
    refine wpAnyH_ready (rs := [15]) (by kernel_rfl) (by simp) ?_
    refine (AllReadyH.cons (o := { dst := some 55, op := Op.buildSlice 147 2 #[(0, Operand.tmp 47), (1, Operand.tmp 54)], type := 147, pos := "ref.go:50", after := #[{ on := 7, ground := Ground.data }, { on := 14, ground := Ground.data }], guard := none }) rfl (fun K hK => ?_) AllReadyH.nil)
    go_simp
    refine hK.out _ _ (HMY.out _ (bthen HO.out.bel (belowBox _ (.cells #[.int .i64 2, .int .i64 0, .int .i64 0, .int .i64 x.id, .string ⟨#[]⟩, .bool false, .slice none 0 0, .slice none 0 0, .int .i64 4, .int .i64 0, .int .i64 0, .int .i64 0, .string ⟨#[]⟩, .bool x.s, .slice x.a x.n x.c, .slice x.b x.m x.d] 152)))) (fun hHeld2 => ?_)
    clear hK K hHeld
    rename _ => hHeld
    try simp only [Act.put, stB, stZ, stS]
    refine wpAnyH_ready (rs := [16]) (by kernel_rfl) (by simp) ?_
    refine (AllReadyH.cons (o := { dst := some 56, op := Op.call { callee := Callee.builtin Builtin.append, args := #[Operand.tmp 40, Operand.tmp 55], argTypes := #[147, 147] }, type := 147, pos := "ref.go:50", after := #[{ on := 0, ground := Ground.data }, { on := 15, ground := Ground.data }, { on := 14, ground := Ground.chain }], guard := none }) rfl (fun K hK => ?_) AllReadyH.nil)
    refine step_append_mid (v := .slice a9 nn c9) rfl _ _ 147 147 rfl i0 (.agg #[.int .i64 0, .int .i64 0, .int .i64 0, .int .i64 0, .string ⟨#[]⟩, .bool false, .slice none 0 0, .slice none 0 0]) 104 Tryz.underlying147 hi hz0 hz1 hz2 rfl rfl (HO.out.mid.alloc (.cells #[.int .i64 2, .int .i64 0, .int .i64 0, .int .i64 x.id, .string ⟨#[]⟩, .bool false, .slice none 0 0, .slice none 0 0, .int .i64 4, .int .i64 0, .int .i64 0, .int .i64 0, .string ⟨#[]⟩, .bool x.s, .slice x.a x.n x.c, .slice x.b x.m x.d] 152)) _ rfl 2 ([VP.idn x.id, VP.rat x.q x.s x.a x.n x.c x.b x.m x.d].flatMap VP.cells) ((Sl.lit _ 152 8 2 ([VP.idn x.id, VP.rat x.q x.s x.a x.n x.c x.b x.m x.d].flatMap VP.cells) (by unfold maxLen; omega) rfl).src (P := Tryz.prog) Tryz.underlying147 (one_VP [VP.idn x.id, VP.rat x.q x.s x.a x.n x.c x.b x.m x.d])) (by unfold maxLen; omega) (by omega) (Nat.le_trans HO.out.bel.size (belowBox _ _).size) ?_
    intro a7 c7 w7 hmo hgo hbo
    have HO6 := Lib.hid (HO.out.push (ys := [VP.idn x.id, VP.rat x.q x.s x.a x.n x.c x.b x.m x.d]) hmo hgo)
    replace HO := HO6
    clear HO6 hmo hgo hbo
    refine hK.out _ _ (HMY.out _ HO.out.bel) (fun hHeld2 => ?_)
    clear hK K hHeld
    rename _ => hHeld
    try simp only [Act.put, stB, stZ, stS]
    refine tm 17 (some 3) ?_
    refine wpAnyH_done (by kernel_rfl) ?_ _
    clear hHeld
    go_wp2_with fail
    go_roundw
    case rel => exact ⟨k + 1, nn + 2, a7, c7, by omega, by go_num, by have := HNN.out; omega, rfl, by rw [HTK.out, ← List.append_assoc]; exact HO.out⟩
    case measure => simp [intOf]; omega
   ·
    obtain rfl : k = en := by omega
    have ⟨k0, k1, k2, k3, k4, k5, k6, k7, k8, k9, k10, k11, k12⟩ := HMX.out _ HO.out.bel
    go_wp2_with fail
    go_ret
    have h9 := HO.out
    rw [List.take_of_length_le (by rw [HES.out.len]; exact Nat.le_refl _)] at h9
    have h8 := HNN.out
    subst h8
    exact ⟨_, _, rfl, h9.psw HOK.out (by rw [List.length_append, two_len, HES.out.len]; rfl) (by rw [HW0.out]; exact belowBox _ _), bthen (belowBox w (.cells #[.int .i64 m0, .int .i64 m1, .int .i64 m2, .string t1, .string t2, .int .i64 1, .int .i64 m4, .int .i64 m5, .int .i64 m6, .bool qs, .slice qa qn qc, .slice qb qm qd, .slice ea k ec] 63)) (by rw [← HW0.out]; exact h9.bel)⟩
theorem f27qst_2 (m0 m1 m2 m4 m5 m6 : Int) (t1 t2 : ByteArray) (q : Rat) (qs : Bool) (qa qb ea : Option Addr) (qn qc qm qd en ec : Nat) (vs : List VE) (w : World) (hen : en ≤ 1000) (HES : Hid (EsR w ea en ec vs)) (hec : en ≤ ec ∧ ec ≤ 9223372036854775807)
  (HOK : Hid (∀ W, Below w.heap.size w W → ∀ p, p ∈ ((([VP.num (2) 1 12] ++ [VP.rat q qs qa qn qc qb qm qd, VP.num (en) 0 64]) ++ vs.flatMap VE.two) : List VP) → p.ok W)) :
  Calls Tryz.prog 128 #[.agg #[.int .i64 m0, .int .i64 m1, .int .i64 m2, .string t1, .string t2, .int .i64 2, .int .i64 m4, .int .i64 m5, .int .i64 m6, .bool qs, .slice qa qn qc, .slice qb qm qd, .slice ea en ec]] w fun e w' => ∃ a c, e = .returned (.slice a (3 + 2 * en) c) ∧ PSW w' a (3 + 2 * en) c (([VP.num (2) 1 12] ++ [VP.rat q qs qa qn qc qb qm qd, VP.num (en) 0 64]) ++ vs.flatMap VE.two) ∧ Below w.heap.size w w' := by
 obtain ⟨i0, hi, hz0, hz1, hz2⟩ := info_parts Tryz.infoPart
 obtain ⟨W0, hW0⟩ : ∃ W0, W0 = w.alloc (.cells #[.int .i64 m0, .int .i64 m1, .int .i64 m2, .string t1, .string t2, .int .i64 2, .int .i64 m4, .int .i64 m5, .int .i64 m6, .bool qs, .slice qa qn qc, .slice qb qm qd, .slice ea en ec] 63) := ⟨_, rfl⟩
 have HN := Lib.hid (show BS w [⟨w.heap.size, 63, [.int .i64 m0, .int .i64 m1, .int .i64 m2, .string t1, .string t2, .int .i64 2, .int .i64 m4, .int .i64 m5, .int .i64 m6, .bool qs, .slice qa qn qc, .slice qb qm qd, .slice ea en ec]⟩] [] W0 from by rw [hW0]; exact (BS.start w).alloc (p := w.heap.size) rfl 63 [.int .i64 m0, .int .i64 m1, .int .i64 m2, .string t1, .string t2, .int .i64 2, .int .i64 m4, .int .i64 m5, .int .i64 m6, .bool qs, .slice qa qn qc, .slice qb qm qd, .slice ea en ec] rfl)
 have HW0 := Lib.hid hW0
 have HMX := Lib.hid (fun (W : World) (hb : Below W0.heap.size W0 W) => (⟨(hb.cell (p := ⟨w.heap.size, 0, none⟩) (HN.out.lt 0 rfl)).trans (HN.out.cell 0 0 rfl rfl), (hb.cell (p := ⟨w.heap.size, 1, none⟩) (HN.out.lt 0 rfl)).trans (HN.out.cell 0 1 rfl rfl), (hb.cell (p := ⟨w.heap.size, 2, none⟩) (HN.out.lt 0 rfl)).trans (HN.out.cell 0 2 rfl rfl), (hb.cell (p := ⟨w.heap.size, 3, none⟩) (HN.out.lt 0 rfl)).trans (HN.out.cell 0 3 rfl rfl), (hb.cell (p := ⟨w.heap.size, 4, none⟩) (HN.out.lt 0 rfl)).trans (HN.out.cell 0 4 rfl rfl), (hb.cell (p := ⟨w.heap.size, 5, none⟩) (HN.out.lt 0 rfl)).trans (HN.out.cell 0 5 rfl rfl), (hb.cell (p := ⟨w.heap.size, 6, none⟩) (HN.out.lt 0 rfl)).trans (HN.out.cell 0 6 rfl rfl), (hb.cell (p := ⟨w.heap.size, 7, none⟩) (HN.out.lt 0 rfl)).trans (HN.out.cell 0 7 rfl rfl), (hb.cell (p := ⟨w.heap.size, 8, none⟩) (HN.out.lt 0 rfl)).trans (HN.out.cell 0 8 rfl rfl), (hb.cell (p := ⟨w.heap.size, 9, none⟩) (HN.out.lt 0 rfl)).trans (HN.out.cell 0 9 rfl rfl), (hb.cell (p := ⟨w.heap.size, 10, none⟩) (HN.out.lt 0 rfl)).trans (HN.out.cell 0 10 rfl rfl), (hb.cell (p := ⟨w.heap.size, 11, none⟩) (HN.out.lt 0 rfl)).trans (HN.out.cell 0 11 rfl rfl), (hb.cell (p := ⟨w.heap.size, 12, none⟩) (HN.out.lt 0 rfl)).trans (HN.out.cell 0 12 rfl rfl)⟩ : W.cell? ⟨w.heap.size, 0, none⟩ = some (.int .i64 m0) ∧ W.cell? ⟨w.heap.size, 1, none⟩ = some (.int .i64 m1) ∧ W.cell? ⟨w.heap.size, 2, none⟩ = some (.int .i64 m2) ∧ W.cell? ⟨w.heap.size, 3, none⟩ = some (.string t1) ∧ W.cell? ⟨w.heap.size, 4, none⟩ = some (.string t2) ∧ W.cell? ⟨w.heap.size, 5, none⟩ = some (.int .i64 2) ∧ W.cell? ⟨w.heap.size, 6, none⟩ = some (.int .i64 m4) ∧ W.cell? ⟨w.heap.size, 7, none⟩ = some (.int .i64 m5) ∧ W.cell? ⟨w.heap.size, 8, none⟩ = some (.int .i64 m6) ∧ W.cell? ⟨w.heap.size, 9, none⟩ = some (.bool qs) ∧ W.cell? ⟨w.heap.size, 10, none⟩ = some (.slice qa qn qc) ∧ W.cell? ⟨w.heap.size, 11, none⟩ = some (.slice qb qm qd) ∧ W.cell? ⟨w.heap.size, 12, none⟩ = some (.slice ea en ec)))
 clear hW0
 go_enter Tryz.func128, Tryz.ntmps128
 go_upto_region 1 with fail
 rw [← HW0.out]
 have HO := Lib.hid (PL.nil W0)
 have ⟨k0, k1, k2, k3, k4, k5, k6, k7, k8, k9, k10, k11, k12⟩ := HMX.out _ HO.out.bel
 go_wp2_with fail
 clear k0 k1 k2 k3 k4 k5 k6 k7 k8 k9 k10 k11 k12
 refine (f27num (2) 1 12 _).mono ?_
 rintro e w1 ⟨rfl, hb⟩
 replace HO := Lib.hid (HO.out.call hb)
 clear hb
 replace HO := Lib.hid (show PL W0 (some ⟨w1.heap.size, 0, none⟩) 1 1 [VP.num (2) 1 12] (w1.alloc (.cells #[.int .i64 1, .int .i64 1, .int .i64 12, .int .i64 2, .string ⟨#[]⟩, .bool false, .slice none 0 0, .slice none 0 0] 152)) from HO.out.lit [VP.num (2) 1 12] 1 rfl rfl)
 have ⟨k0, k1, k2, k3, k4, k5, k6, k7, k8, k9, k10, k11, k12⟩ := HMX.out _ HO.out.bel
 go_upto_region 7 with fail
 clear k0 k1 k2 k3 k4 k5 k6 k7 k8 k9 k10 k11 k12
 obtain ⟨p2, hp⟩ : ∃ p2, w1.heap.size = p2 := ⟨_, rfl⟩
 rw [hp] at HO
 (try simp only [hp])
 clear hp
 generalize w1.alloc (.cells #[.int .i64 1, .int .i64 1, .int .i64 12, .int .i64 2, .string ⟨#[]⟩, .bool false, .slice none 0 0, .slice none 0 0] 152) = w2 at HO ⊢
 go_cut [3] (fun v3 wx => ∃ a3 c3, v3 = .slice a3 (1 + 2) c3 ∧ PL W0 a3 (1 + 2) c3 ([VP.num (2) 1 12] ++ [VP.rat q qs qa qn qc qb qm qd, VP.num (en) 0 64]) wx)
 case first =>
  replace HO := Lib.hid (show PL W0 (some ⟨p2, 0, none⟩) 1 1 [VP.num (2) 1 12] w2.drew from HO.out.call (Below.drawn w2 1))
  refine wp_region_held_drew (S := fun W => W.cell? ⟨w.heap.size, 0, none⟩ = some (.int .i64 m0) ∧ W.cell? ⟨w.heap.size, 1, none⟩ = some (.int .i64 m1) ∧ W.cell? ⟨w.heap.size, 2, none⟩ = some (.int .i64 m2) ∧ W.cell? ⟨w.heap.size, 3, none⟩ = some (.string t1) ∧ W.cell? ⟨w.heap.size, 4, none⟩ = some (.string t2) ∧ W.cell? ⟨w.heap.size, 5, none⟩ = some (.int .i64 2) ∧ W.cell? ⟨w.heap.size, 6, none⟩ = some (.int .i64 m4) ∧ W.cell? ⟨w.heap.size, 7, none⟩ = some (.int .i64 m5) ∧ W.cell? ⟨w.heap.size, 8, none⟩ = some (.int .i64 m6) ∧ W.cell? ⟨w.heap.size, 9, none⟩ = some (.bool qs) ∧ W.cell? ⟨w.heap.size, 10, none⟩ = some (.slice qa qn qc) ∧ W.cell? ⟨w.heap.size, 11, none⟩ = some (.slice qb qm qd) ∧ W.cell? ⟨w.heap.size, 12, none⟩ = some (.slice ea en ec)) (by kernel_rfl) (HMX.out _ HO.out.bel) (fun hHeld => ?_)
  generalize w2.drew = wd at HO hHeld ⊢
  refine tm 0 (some 23) ?_
  refine tm 1 (some 24) ?_
  refine tl 2 (some 25) ?_
  refine tm 4 (some 27) ?_
  refine tl 5 (some 28) ?_
  refine tm 6 (some 29) ?_
  refine wpAnyH_ready (rs := [3]) (by kernel_rfl) (by simp) ?_
  refine (AllReadyH.cons (o := { dst := some 26, op := Op.call { callee := Callee.value (Operand.func 176), args := #[Operand.tmp 25], argTypes := #[60] }, type := 152, pos := "ref.go:48", after := #[{ on := 2, ground := Ground.data }], guard := none }) rfl (fun K hK => ?_) AllReadyH.nil)
  go_simp
  refine (f27rat qs qa qb qn qc qm qd _).mono ?_
  rintro e wd ⟨rfl, hb⟩
  replace HO := Lib.hid (HO.out.call hb)
  clear hb
  go_wp2_with fail
  refine hK.out _ _ (HMX.out _ HO.out.bel) (fun hHeld2 => ?_)
  clear hK K hHeld
  rename _ => hHeld
  try simp only [Act.put, stB, stZ, stS]
  refine wpAnyH_ready (rs := [7]) (by kernel_rfl) (by simp) ?_
  refine (AllReadyH.cons (o := { dst := some 30, op := Op.call { callee := Callee.value (Operand.func 125), args := #[Operand.tmp 29, Operand.const (Value.int IntKind.i64 0), Operand.const (Value.int IntKind.i64 64)], argTypes := #[3, 3, 3] }, type := 152, pos := "ref.go:48", after := #[{ on := 6, ground := Ground.data }, { on := 3, ground := Ground.chain }], guard := none }) rfl (fun K hK => ?_) AllReadyH.nil)
  go_simp
  refine (f27num (en) 0 64 _).mono ?_
  rintro e wd ⟨rfl, hb⟩
  replace HO := Lib.hid (HO.out.call hb)
  clear hb
  go_wp2_with fail
  refine hK.out _ _ (HMX.out _ HO.out.bel) (fun hHeld2 => ?_)
  clear hK K hHeld
  rename _ => hHeld
  try simp only [Act.put, stB, stZ, stS]
  refine wpAnyH_ready (rs := [8]) (by kernel_rfl) (by simp) ?_
  refine (AllReadyH.cons (o := { dst := some 31, op := Op.buildSlice 147 2 #[(0, Operand.tmp 26), (1, Operand.tmp 30)], type := 147, pos := "ref.go:48", after := #[{ on := 3, ground := Ground.data }, { on := 7, ground := Ground.data }], guard := none }) rfl (fun K hK => ?_) AllReadyH.nil)
  go_simp
  refine hK.out _ _ (HMX.out _ (bthen HO.out.bel (belowBox _ (.cells #[.int .i64 4, .int .i64 0, .int .i64 0, .int .i64 0, .string ⟨#[]⟩, .bool qs, .slice qa qn qc, .slice qb qm qd, .int .i64 1, .int .i64 0, .int .i64 64, .int .i64 en, .string ⟨#[]⟩, .bool false, .slice none 0 0, .slice none 0 0] 152)))) (fun hHeld2 => ?_)
  clear hK K hHeld
  rename _ => hHeld
  try simp only [Act.put, stB, stZ, stS]
  refine wpAnyH_ready (rs := [9]) (by kernel_rfl) (by simp) ?_
  refine (AllReadyH.cons (o := { dst := some 32, op := Op.call { callee := Callee.builtin Builtin.append, args := #[Operand.tmp 23, Operand.tmp 31], argTypes := #[147, 147] }, type := 147, pos := "ref.go:48", after := #[{ on := 0, ground := Ground.data }, { on := 8, ground := Ground.data }, { on := 7, ground := Ground.chain }], guard := none }) rfl (fun K hK => ?_) AllReadyH.nil)
  refine step_append_mid (v := .slice (some ⟨p2, 0, none⟩) 1 1) rfl _ _ 147 147 rfl i0 (.agg #[.int .i64 0, .int .i64 0, .int .i64 0, .int .i64 0, .string ⟨#[]⟩, .bool false, .slice none 0 0, .slice none 0 0]) 104 Tryz.underlying147 hi hz0 hz1 hz2 rfl rfl (HO.out.mid.alloc (.cells #[.int .i64 4, .int .i64 0, .int .i64 0, .int .i64 0, .string ⟨#[]⟩, .bool qs, .slice qa qn qc, .slice qb qm qd, .int .i64 1, .int .i64 0, .int .i64 64, .int .i64 en, .string ⟨#[]⟩, .bool false, .slice none 0 0, .slice none 0 0] 152)) _ rfl 2 ([VP.rat q qs qa qn qc qb qm qd, VP.num (en) 0 64].flatMap VP.cells) ((Sl.lit _ 152 8 2 ([VP.rat q qs qa qn qc qb qm qd, VP.num (en) 0 64].flatMap VP.cells) (by unfold maxLen; omega) rfl).src (P := Tryz.prog) Tryz.underlying147 (one_VP [VP.rat q qs qa qn qc qb qm qd, VP.num (en) 0 64])) (by unfold maxLen; omega) (by omega) (Nat.le_trans HO.out.bel.size (belowBox _ _).size) ?_
  intro a3 c3 w3 hmo hgo hbo
  have HO6 := Lib.hid (HO.out.push (ys := [VP.rat q qs qa qn qc qb qm qd, VP.num (en) 0 64]) hmo hgo)
  replace HO := HO6
  clear HO6 hmo hgo hbo
  refine hK.out _ _ (HMX.out _ HO.out.bel) (fun hHeld2 => ?_)
  clear hK K hHeld
  rename _ => hHeld
  try simp only [Act.put, stB, stZ, stS]
  refine tm 10 (some 3) ?_
  refine wpAnyH_done (by kernel_rfl) ?_ _
  clear hHeld
  go_wp2_with fail
  go_meet
  exact ⟨_, _, rfl, HO.out⟩
 case rest =>
  obtain ⟨w4, rfl⟩ : ∃ w4 : World, w4 = wc := ⟨_, rfl⟩
  obtain ⟨a3, c3, rfl, ho⟩ := hcut
  have HO := Lib.hid ho
  have hcl := ho.len
  clear ho
  have ⟨k0, k1, k2, k3, k4, k5, k6, k7, k8, k9, k10, k11, k12⟩ := HMX.out _ HO.out.bel
  go_wp2_with fail
  clear k0 k1 k2 k3 k4 k5 k6 k7 k8 k9 k10 k11 k12
  go_loopw [3, 4] (fun v3 v4 wr => ∃ (k nn : Nat) (a9 : Option Addr) (c9 : Nat), k ≤ en ∧ v4 = .int .i64 k ∧ nn = 3 + 2 * k ∧ v3 = .slice a9 nn c9 ∧ PL W0 a9 nn c9 (([VP.num (2) 1 12] ++ [VP.rat q qs qa qn qc qb qm qd, VP.num (en) 0 64]) ++ (vs.take k).flatMap VE.two) wr) (fun _ v4 _ => en - (intOf v4).toNat)
  case atStart => exact ⟨0, 3, a3, c3, Nat.zero_le _, rfl, rfl, rfl, by rw [List.take_zero, List.flatMap_nil, List.append_nil]; exact HO.out⟩
  case round =>
   obtain ⟨k, nn, a9, c9, hk, rfl, hnn, rfl, ho⟩ := hrel
   have hcl := ho.len
   have hnb : nn ≤ 1000000 := by omega
   replace HO := Lib.hid ho
   have HNN := Lib.hid hnn
   clear ho hnn
   by_cases hlt : k < en
   ·
    obtain ⟨x, eb, eo, hx, rfl, hlt8, c0, c1, c2, c3⟩ := HES.out.get k hlt
    have HTK := Lib.hid (show (vs.take (k + 1)).flatMap VE.two = (vs.take k).flatMap VE.two ++ x.two by rw [List.take_add_one, hx, List.flatMap_append]; simp)
    have HMY := Lib.hid (fun (W : World) (hb : Below W0.heap.size W0 W) => (by
     have hbw := bthen (belowBox w (.cells #[.int .i64 m0, .int .i64 m1, .int .i64 m2, .string t1, .string t2, .int .i64 2, .int .i64 m4, .int .i64 m5, .int .i64 m6, .bool qs, .slice qa qn qc, .slice qb qm qd, .slice (some ⟨eb, eo, none⟩) en ec] 63)) (by rw [← HW0.out]; exact hb : Below (w.alloc (.cells #[.int .i64 m0, .int .i64 m1, .int .i64 m2, .string t1, .string t2, .int .i64 2, .int .i64 m4, .int .i64 m5, .int .i64 m6, .bool qs, .slice qa qn qc, .slice qb qm qd, .slice (some ⟨eb, eo, none⟩) en ec] 63)).heap.size (w.alloc (.cells #[.int .i64 m0, .int .i64 m1, .int .i64 m2, .string t1, .string t2, .int .i64 2, .int .i64 m4, .int .i64 m5, .int .i64 m6, .bool qs, .slice qa qn qc, .slice qb qm qd, .slice (some ⟨eb, eo, none⟩) en ec] 63)) W)
     exact ⟨HMX.out W hb, (hbw.cell (p := ⟨eb, eo + k * 4, none⟩) hlt8).trans c0, (hbw.cell (p := ⟨eb, eo + k * 4 + 1, none⟩) hlt8).trans c1, (hbw.cell (p := ⟨eb, eo + k * 4 + 2, none⟩) hlt8).trans c2, (hbw.cell (p := ⟨eb, eo + k * 4 + 3, none⟩) hlt8).trans c3⟩ :
     (W.cell? ⟨w.heap.size, 0, none⟩ = some (.int .i64 m0) ∧ W.cell? ⟨w.heap.size, 1, none⟩ = some (.int .i64 m1) ∧ W.cell? ⟨w.heap.size, 2, none⟩ = some (.int .i64 m2) ∧ W.cell? ⟨w.heap.size, 3, none⟩ = some (.string t1) ∧ W.cell? ⟨w.heap.size, 4, none⟩ = some (.string t2) ∧ W.cell? ⟨w.heap.size, 5, none⟩ = some (.int .i64 2) ∧ W.cell? ⟨w.heap.size, 6, none⟩ = some (.int .i64 m4) ∧ W.cell? ⟨w.heap.size, 7, none⟩ = some (.int .i64 m5) ∧ W.cell? ⟨w.heap.size, 8, none⟩ = some (.int .i64 m6) ∧ W.cell? ⟨w.heap.size, 9, none⟩ = some (.bool qs) ∧ W.cell? ⟨w.heap.size, 10, none⟩ = some (.slice qa qn qc) ∧ W.cell? ⟨w.heap.size, 11, none⟩ = some (.slice qb qm qd) ∧ W.cell? ⟨w.heap.size, 12, none⟩ = some (.slice (some ⟨eb, eo, none⟩) en ec)) ∧ W.cell? ⟨eb, eo + k * 4, none⟩ = some (.int .i64 x.id) ∧ W.cell? ⟨eb, eo + k * 4 + 1, none⟩ = some (.bool x.s) ∧ W.cell? ⟨eb, eo + k * 4 + 2, none⟩ = some (.slice x.a x.n x.c) ∧ W.cell? ⟨eb, eo + k * 4 + 3, none⟩ = some (.slice x.b x.m x.d)))
    clear c0 c1 c2 c3 hx hlt8
    have ⟨k0, k1, k2, k3, k4, k5, k6, k7, k8, k9, k10, k11, k12⟩ := HMX.out _ HO.out.bel
    go_upto_region 11 with fail
    clear k0 k1 k2 k3 k4 k5 k6 k7 k8 k9 k10 k11 k12
    replace HO := Lib.hid (show PL W0 a9 nn c9 (([VP.num (2) 1 12] ++ [VP.rat q qs qa qn qc qb qm qd, VP.num (en) 0 64]) ++ (vs.take k).flatMap VE.two) wr.drew from HO.out.call (Below.drawn wr 1))
    refine wp_region_held_drew (S := fun W => (W.cell? ⟨w.heap.size, 0, none⟩ = some (.int .i64 m0) ∧ W.cell? ⟨w.heap.size, 1, none⟩ = some (.int .i64 m1) ∧ W.cell? ⟨w.heap.size, 2, none⟩ = some (.int .i64 m2) ∧ W.cell? ⟨w.heap.size, 3, none⟩ = some (.string t1) ∧ W.cell? ⟨w.heap.size, 4, none⟩ = some (.string t2) ∧ W.cell? ⟨w.heap.size, 5, none⟩ = some (.int .i64 2) ∧ W.cell? ⟨w.heap.size, 6, none⟩ = some (.int .i64 m4) ∧ W.cell? ⟨w.heap.size, 7, none⟩ = some (.int .i64 m5) ∧ W.cell? ⟨w.heap.size, 8, none⟩ = some (.int .i64 m6) ∧ W.cell? ⟨w.heap.size, 9, none⟩ = some (.bool qs) ∧ W.cell? ⟨w.heap.size, 10, none⟩ = some (.slice qa qn qc) ∧ W.cell? ⟨w.heap.size, 11, none⟩ = some (.slice qb qm qd) ∧ W.cell? ⟨w.heap.size, 12, none⟩ = some (.slice (some ⟨eb, eo, none⟩) en ec)) ∧ W.cell? ⟨eb, eo + k * 4, none⟩ = some (.int .i64 x.id) ∧ W.cell? ⟨eb, eo + k * 4 + 1, none⟩ = some (.bool x.s) ∧ W.cell? ⟨eb, eo + k * 4 + 2, none⟩ = some (.slice x.a x.n x.c) ∧ W.cell? ⟨eb, eo + k * 4 + 3, none⟩ = some (.slice x.b x.m x.d)) (by kernel_rfl) (HMY.out _ HO.out.bel) (fun hHeld => ?_)
    generalize wr.drew = wd at HO hHeld ⊢
    refine tm 0 (some 40) ?_
    refine tm 1 (some 41) ?_
    refine tl 2 (some 42) ?_
    refine tm 3 (some 43) ?_
    refine tl 4 (some 44) ?_
    refine tm 5 (some 45) ?_
    refine tl 6 (some 46) ?_
    refine tm 8 (some 48) ?_
    refine tl 9 (some 49) ?_
    refine tm 10 (some 50) ?_
    refine tl 11 (some 51) ?_
    refine tm 12 (some 52) ?_
    refine tl 13 (some 53) ?_
    refine wpAnyH_ready (rs := [7]) (by kernel_rfl) (by simp) ?_
    refine (AllReadyH.cons (o := { dst := some 47, op := Op.call { callee := Callee.value (Operand.func 127), args := #[Operand.tmp 46], argTypes := #[3] }, type := 152, pos := "ref.go:50", after := #[{ on := 6, ground := Ground.data }], guard := none }) rfl (fun K hK => ?_) AllReadyH.nil)
    go_simp
    refine (f27idn x.id _).mono ?_
    rintro e wd ⟨rfl, hb⟩
    replace HO := Lib.hid (HO.out.call hb)
    clear hb
    go_wp2_with fail
    refine hK.out _ _ (HMY.out _ HO.out.bel) (fun hHeld2 => ?_)
    clear hK K hHeld
    rename _ => hHeld
    try simp only [Act.put, stB, stZ, stS]
    refine wpAnyH_ready (rs := [14]) (by kernel_rfl) (by simp) ?_
    refine (AllReadyH.cons (o := { dst := some 54, op := Op.call { callee := Callee.value (Operand.func 176), args := #[Operand.tmp 53], argTypes := #[60] }, type := 152, pos := "ref.go:50", after := #[{ on := 13, ground := Ground.data }, { on := 7, ground := Ground.chain }], guard := none }) rfl (fun K hK => ?_) AllReadyH.nil)
    go_simp
    refine (f27rat x.s x.a x.b x.n x.c x.m x.d _).mono ?_
    rintro e wd ⟨rfl, hb⟩
    replace HO := Lib.hid (HO.out.call hb)
    clear hb
    go_wp2_with fail
    refine hK.out _ _ (HMY.out _ HO.out.bel) (fun hHeld2 => ?_)
    clear hK K hHeld
    rename _ => hHeld
    try simp only [Act.put, stB, stZ, stS]
    refine wpAnyH_ready (rs := [15]) (by kernel_rfl) (by simp) ?_
    refine (AllReadyH.cons (o := { dst := some 55, op := Op.buildSlice 147 2 #[(0, Operand.tmp 47), (1, Operand.tmp 54)], type := 147, pos := "ref.go:50", after := #[{ on := 7, ground := Ground.data }, { on := 14, ground := Ground.data }], guard := none }) rfl (fun K hK => ?_) AllReadyH.nil)
    go_simp
    refine hK.out _ _ (HMY.out _ (bthen HO.out.bel (belowBox _ (.cells #[.int .i64 2, .int .i64 0, .int .i64 0, .int .i64 x.id, .string ⟨#[]⟩, .bool false, .slice none 0 0, .slice none 0 0, .int .i64 4, .int .i64 0, .int .i64 0, .int .i64 0, .string ⟨#[]⟩, .bool x.s, .slice x.a x.n x.c, .slice x.b x.m x.d] 152)))) (fun hHeld2 => ?_)
    clear hK K hHeld
    rename _ => hHeld
    try simp only [Act.put, stB, stZ, stS]
    refine wpAnyH_ready (rs := [16]) (by kernel_rfl) (by simp) ?_
    refine (AllReadyH.cons (o := { dst := some 56, op := Op.call { callee := Callee.builtin Builtin.append, args := #[Operand.tmp 40, Operand.tmp 55], argTypes := #[147, 147] }, type := 147, pos := "ref.go:50", after := #[{ on := 0, ground := Ground.data }, { on := 15, ground := Ground.data }, { on := 14, ground := Ground.chain }], guard := none }) rfl (fun K hK => ?_) AllReadyH.nil)
    refine step_append_mid (v := .slice a9 nn c9) rfl _ _ 147 147 rfl i0 (.agg #[.int .i64 0, .int .i64 0, .int .i64 0, .int .i64 0, .string ⟨#[]⟩, .bool false, .slice none 0 0, .slice none 0 0]) 104 Tryz.underlying147 hi hz0 hz1 hz2 rfl rfl (HO.out.mid.alloc (.cells #[.int .i64 2, .int .i64 0, .int .i64 0, .int .i64 x.id, .string ⟨#[]⟩, .bool false, .slice none 0 0, .slice none 0 0, .int .i64 4, .int .i64 0, .int .i64 0, .int .i64 0, .string ⟨#[]⟩, .bool x.s, .slice x.a x.n x.c, .slice x.b x.m x.d] 152)) _ rfl 2 ([VP.idn x.id, VP.rat x.q x.s x.a x.n x.c x.b x.m x.d].flatMap VP.cells) ((Sl.lit _ 152 8 2 ([VP.idn x.id, VP.rat x.q x.s x.a x.n x.c x.b x.m x.d].flatMap VP.cells) (by unfold maxLen; omega) rfl).src (P := Tryz.prog) Tryz.underlying147 (one_VP [VP.idn x.id, VP.rat x.q x.s x.a x.n x.c x.b x.m x.d])) (by unfold maxLen; omega) (by omega) (Nat.le_trans HO.out.bel.size (belowBox _ _).size) ?_
    intro a5 c5 w5 hmo hgo hbo
    have HO6 := Lib.hid (HO.out.push (ys := [VP.idn x.id, VP.rat x.q x.s x.a x.n x.c x.b x.m x.d]) hmo hgo)
    replace HO := HO6
    clear HO6 hmo hgo hbo
    refine hK.out _ _ (HMY.out _ HO.out.bel) (fun hHeld2 => ?_)
    clear hK K hHeld
    rename _ => hHeld
    try simp only [Act.put, stB, stZ, stS]
    refine tm 17 (some 3) ?_
    refine wpAnyH_done (by kernel_rfl) ?_ _
    clear hHeld
    go_wp2_with fail
    go_roundw
    case rel => exact ⟨k + 1, nn + 2, a5, c5, by omega, by go_num, by have := HNN.out; omega, rfl, by rw [HTK.out, ← List.append_assoc]; exact HO.out⟩
    case measure => simp [intOf]; omega
   ·
    obtain rfl : k = en := by omega
    have ⟨k0, k1, k2, k3, k4, k5, k6, k7, k8, k9, k10, k11, k12⟩ := HMX.out _ HO.out.bel
    go_wp2_with fail
    go_ret
    have h9 := HO.out
    rw [List.take_of_length_le (by rw [HES.out.len]; exact Nat.le_refl _)] at h9
    have h8 := HNN.out
    subst h8
    exact ⟨_, _, rfl, h9.psw HOK.out (by rw [List.length_append, two_len, HES.out.len]; rfl) (by rw [HW0.out]; exact belowBox _ _), bthen (belowBox w (.cells #[.int .i64 m0, .int .i64 m1, .int .i64 m2, .string t1, .string t2, .int .i64 2, .int .i64 m4, .int .i64 m5, .int .i64 m6, .bool qs, .slice qa qn qc, .slice qb qm qd, .slice ea k ec] 63)) (by rw [← HW0.out]; exact h9.bel)⟩
theorem f27parts_0 (m0 m1 m2 m3 m4 m5 m6 : Int) (t1 t2 : ByteArray) (qs : Bool) (qa qb ea : Option Addr) (qn qc qm qd en ec : Nat) (w : World) (h1 : (m0 == 1) = false) (h3 : (m0 == 3) = false) (h4 : (m0 == 4) = false) (h5 : (m0 == 5) = false)
  (HOK : Hid (∀ W, Below w.heap.size w W → ∀ p, p ∈ ([VP.num (m0) 1 5, VP.tok t1] : List VP) → p.ok W)) :
  Calls Tryz.prog 60 #[.agg #[.int .i64 m0, .int .i64 m1, .int .i64 m2, .string t1, .string t2, .int .i64 m3, .int .i64 m4, .int .i64 m5, .int .i64 m6, .bool qs, .slice qa qn qc, .slice qb qm qd, .slice ea en ec]] w fun e w' => ∃ a c, e = .returned (.slice a 2 c) ∧ PSW w' a 2 c [VP.num (m0) 1 5, VP.tok t1] ∧ Below w.heap.size w w' := by
 obtain ⟨i0, hi, hz0, hz1, hz2⟩ := info_parts Tryz.infoPart
 obtain ⟨W0, hW0⟩ : ∃ W0, W0 = w.alloc (.cells #[.int .i64 m0, .int .i64 m1, .int .i64 m2, .string t1, .string t2, .int .i64 m3, .int .i64 m4, .int .i64 m5, .int .i64 m6, .bool qs, .slice qa qn qc, .slice qb qm qd, .slice ea en ec] 63) := ⟨_, rfl⟩
 have HN := Lib.hid (show BS w [⟨w.heap.size, 63, [.int .i64 m0, .int .i64 m1, .int .i64 m2, .string t1, .string t2, .int .i64 m3, .int .i64 m4, .int .i64 m5, .int .i64 m6, .bool qs, .slice qa qn qc, .slice qb qm qd, .slice ea en ec]⟩] [] W0 from by rw [hW0]; exact (BS.start w).alloc (p := w.heap.size) rfl 63 [.int .i64 m0, .int .i64 m1, .int .i64 m2, .string t1, .string t2, .int .i64 m3, .int .i64 m4, .int .i64 m5, .int .i64 m6, .bool qs, .slice qa qn qc, .slice qb qm qd, .slice ea en ec] rfl)
 have HW0 := Lib.hid hW0
 have HMX := Lib.hid (fun (W : World) (hb : Below W0.heap.size W0 W) => (⟨(hb.cell (p := ⟨w.heap.size, 0, none⟩) (HN.out.lt 0 rfl)).trans (HN.out.cell 0 0 rfl rfl), (hb.cell (p := ⟨w.heap.size, 1, none⟩) (HN.out.lt 0 rfl)).trans (HN.out.cell 0 1 rfl rfl), (hb.cell (p := ⟨w.heap.size, 2, none⟩) (HN.out.lt 0 rfl)).trans (HN.out.cell 0 2 rfl rfl), (hb.cell (p := ⟨w.heap.size, 3, none⟩) (HN.out.lt 0 rfl)).trans (HN.out.cell 0 3 rfl rfl), (hb.cell (p := ⟨w.heap.size, 4, none⟩) (HN.out.lt 0 rfl)).trans (HN.out.cell 0 4 rfl rfl), (hb.cell (p := ⟨w.heap.size, 5, none⟩) (HN.out.lt 0 rfl)).trans (HN.out.cell 0 5 rfl rfl), (hb.cell (p := ⟨w.heap.size, 6, none⟩) (HN.out.lt 0 rfl)).trans (HN.out.cell 0 6 rfl rfl), (hb.cell (p := ⟨w.heap.size, 7, none⟩) (HN.out.lt 0 rfl)).trans (HN.out.cell 0 7 rfl rfl), (hb.cell (p := ⟨w.heap.size, 8, none⟩) (HN.out.lt 0 rfl)).trans (HN.out.cell 0 8 rfl rfl), (hb.cell (p := ⟨w.heap.size, 9, none⟩) (HN.out.lt 0 rfl)).trans (HN.out.cell 0 9 rfl rfl), (hb.cell (p := ⟨w.heap.size, 10, none⟩) (HN.out.lt 0 rfl)).trans (HN.out.cell 0 10 rfl rfl), (hb.cell (p := ⟨w.heap.size, 11, none⟩) (HN.out.lt 0 rfl)).trans (HN.out.cell 0 11 rfl rfl), (hb.cell (p := ⟨w.heap.size, 12, none⟩) (HN.out.lt 0 rfl)).trans (HN.out.cell 0 12 rfl rfl)⟩ : W.cell? ⟨w.heap.size, 0, none⟩ = some (.int .i64 m0) ∧ W.cell? ⟨w.heap.size, 1, none⟩ = some (.int .i64 m1) ∧ W.cell? ⟨w.heap.size, 2, none⟩ = some (.int .i64 m2) ∧ W.cell? ⟨w.heap.size, 3, none⟩ = some (.string t1) ∧ W.cell? ⟨w.heap.size, 4, none⟩ = some (.string t2) ∧ W.cell? ⟨w.heap.size, 5, none⟩ = some (.int .i64 m3) ∧ W.cell? ⟨w.heap.size, 6, none⟩ = some (.int .i64 m4) ∧ W.cell? ⟨w.heap.size, 7, none⟩ = some (.int .i64 m5) ∧ W.cell? ⟨w.heap.size, 8, none⟩ = some (.int .i64 m6) ∧ W.cell? ⟨w.heap.size, 9, none⟩ = some (.bool qs) ∧ W.cell? ⟨w.heap.size, 10, none⟩ = some (.slice qa qn qc) ∧ W.cell? ⟨w.heap.size, 11, none⟩ = some (.slice qb qm qd) ∧ W.cell? ⟨w.heap.size, 12, none⟩ = some (.slice ea en ec)))
 clear hW0
 go_enter Tryz.func60, Tryz.ntmps60
 go_upto_region 1 with fail
 rw [← HW0.out]
 have HO := Lib.hid (PL.nil W0)
 go_cut [3] (fun v3 wx => ∃ p3 : Nat, v3 = .slice (some ⟨p3, 0, none⟩) 2 2 ∧ PL W0 (some ⟨p3, 0, none⟩) 2 2 [VP.num (m0) 1 5, VP.tok t1] wx)
 case first =>
  replace HO := Lib.hid (show PL W0 none 0 0 [] W0.drew from HO.out.call (Below.drawn W0 1))
  refine wp_region_held_drew (S := fun W => W.cell? ⟨w.heap.size, 0, none⟩ = some (.int .i64 m0) ∧ W.cell? ⟨w.heap.size, 1, none⟩ = some (.int .i64 m1) ∧ W.cell? ⟨w.heap.size, 2, none⟩ = some (.int .i64 m2) ∧ W.cell? ⟨w.heap.size, 3, none⟩ = some (.string t1) ∧ W.cell? ⟨w.heap.size, 4, none⟩ = some (.string t2) ∧ W.cell? ⟨w.heap.size, 5, none⟩ = some (.int .i64 m3) ∧ W.cell? ⟨w.heap.size, 6, none⟩ = some (.int .i64 m4) ∧ W.cell? ⟨w.heap.size, 7, none⟩ = some (.int .i64 m5) ∧ W.cell? ⟨w.heap.size, 8, none⟩ = some (.int .i64 m6) ∧ W.cell? ⟨w.heap.size, 9, none⟩ = some (.bool qs) ∧ W.cell? ⟨w.heap.size, 10, none⟩ = some (.slice qa qn qc) ∧ W.cell? ⟨w.heap.size, 11, none⟩ = some (.slice qb qm qd) ∧ W.cell? ⟨w.heap.size, 12, none⟩ = some (.slice ea en ec)) (by kernel_rfl) (HMX.out _ HO.out.bel) (fun hHeld => ?_)
  generalize W0.drew = wd at HO hHeld ⊢
  refine tm 0 (some 4) ?_
  refine tl 1 (some 5) ?_
  refine tm 3 (some 7) ?_
  refine tl 4 (some 8) ?_
  refine wpAnyH_ready (rs := [2]) (by kernel_rfl) (by simp) ?_
  refine (AllReadyH.cons (o := { dst := some 6, op := Op.call { callee := Callee.value (Operand.func 125), args := #[Operand.tmp 5, Operand.const (Value.int IntKind.i64 1), Operand.const (Value.int IntKind.i64 5)], argTypes := #[3, 3, 3] }, type := 152, pos := "ref.go:70", after := #[{ on := 1, ground := Ground.data }], guard := none }) rfl (fun K hK => ?_) AllReadyH.nil)
  go_simp
  refine (f27num (m0) 1 5 _).mono ?_
  rintro e wd ⟨rfl, hb⟩
  replace HO := Lib.hid (HO.out.call hb)
  clear hb
  go_wp2_with fail
  refine hK.out _ _ (HMX.out _ HO.out.bel) (fun hHeld2 => ?_)
  clear hK K hHeld
  rename _ => hHeld
  try simp only [Act.put, stB, stZ, stS]
  refine wpAnyH_ready (rs := [5]) (by kernel_rfl) (by simp) ?_
  refine (AllReadyH.cons (o := { dst := some 9, op := Op.call { callee := Callee.value (Operand.func 126), args := #[Operand.tmp 8], argTypes := #[9] }, type := 152, pos := "ref.go:70", after := #[{ on := 4, ground := Ground.data }, { on := 2, ground := Ground.chain }], guard := none }) rfl (fun K hK => ?_) AllReadyH.nil)
  go_simp
  refine (f27tok t1 _).mono ?_
  rintro e wd ⟨rfl, hb⟩
  replace HO := Lib.hid (HO.out.call hb)
  clear hb
  go_wp2_with fail
  refine hK.out _ _ (HMX.out _ HO.out.bel) (fun hHeld2 => ?_)
  clear hK K hHeld
  rename _ => hHeld
  try simp only [Act.put, stB, stZ, stS]
  refine wpAnyH_ready (rs := [6]) (by kernel_rfl) (by simp) ?_
  refine (AllReadyH.cons (o := { dst := some 10, op := Op.buildSlice 147 2 #[(0, Operand.tmp 6), (1, Operand.tmp 9)], type := 147, pos := "ref.go:70", after := #[{ on := 2, ground := Ground.data }, { on := 5, ground := Ground.data }], guard := none }) rfl (fun K hK => ?_) AllReadyH.nil)
  go_simp
  refine hK.out _ _ (HMX.out _ (bthen HO.out.bel (belowBox _ (.cells #[.int .i64 1, .int .i64 1, .int .i64 5, .int .i64 m0, .string ⟨#[]⟩, .bool false, .slice none 0 0, .slice none 0 0, .int .i64 3, .int .i64 0, .int .i64 0, .int .i64 0, .string t1, .bool false, .slice none 0 0, .slice none 0 0] 152)))) (fun hHeld2 => ?_)
  clear hK K hHeld
  rename _ => hHeld
  try simp only [Act.put, stB, stZ, stS]
  refine tm 7 (some 3) ?_
  refine wpAnyH_done (by kernel_rfl) ?_ _
  clear hHeld
  go_wp2_with fail
  go_meet
  exact ⟨_, rfl, HO.out.lit [VP.num (m0) 1 5, VP.tok t1] 2 rfl rfl⟩
 case rest =>
  obtain ⟨w1, rfl⟩ : ∃ w1 : World, w1 = wc := ⟨_, rfl⟩
  obtain ⟨p3, rfl, ho⟩ := hcut
  replace HO := Lib.hid ho
  clear ho
  have ⟨k0, k1, k2, k3, k4, k5, k6, k7, k8, k9, k10, k11, k12⟩ := HMX.out _ HO.out.bel
  go_wp2_with fail
  go_ret
  exact ⟨_, _, rfl, HO.out.psw HOK.out rfl (by rw [HW0.out]; exact belowBox _ _), bthen (belowBox w (.cells #[.int .i64 m0, .int .i64 m1, .int .i64 m2, .string t1, .string t2, .int .i64 m3, .int .i64 m4, .int .i64 m5, .int .i64 m6, .bool qs, .slice qa qn qc, .slice qb qm qd, .slice ea en ec] 63)) (by rw [← HW0.out]; exact HO.out.bel)⟩
theorem f27parts_3 (m1 m2 m3 m4 m5 m6 : Int) (t1 t2 : ByteArray) (qs : Bool) (qa qb ea : Option Addr) (qn qc qm qd en ec : Nat) (w : World)
  (HOK : Hid (∀ W, Below w.heap.size w W → ∀ p, p ∈ (([VP.num (3) 1 5, VP.tok t1] ++ [VP.idn m1]) : List VP) → p.ok W)) :
  Calls Tryz.prog 60 #[.agg #[.int .i64 3, .int .i64 m1, .int .i64 m2, .string t1, .string t2, .int .i64 m3, .int .i64 m4, .int .i64 m5, .int .i64 m6, .bool qs, .slice qa qn qc, .slice qb qm qd, .slice ea en ec]] w fun e w' => ∃ a c, e = .returned (.slice a (2 + 1) c) ∧ PSW w' a (2 + 1) c ([VP.num (3) 1 5, VP.tok t1] ++ [VP.idn m1]) ∧ Below w.heap.size w w' := by
 obtain ⟨i0, hi, hz0, hz1, hz2⟩ := info_parts Tryz.infoPart
 obtain ⟨W0, hW0⟩ : ∃ W0, W0 = w.alloc (.cells #[.int .i64 3, .int .i64 m1, .int .i64 m2, .string t1, .string t2, .int .i64 m3, .int .i64 m4, .int .i64 m5, .int .i64 m6, .bool qs, .slice qa qn qc, .slice qb qm qd, .slice ea en ec] 63) := ⟨_, rfl⟩
 have HN := Lib.hid (show BS w [⟨w.heap.size, 63, [.int .i64 3, .int .i64 m1, .int .i64 m2, .string t1, .string t2, .int .i64 m3, .int .i64 m4, .int .i64 m5, .int .i64 m6, .bool qs, .slice qa qn qc, .slice qb qm qd, .slice ea en ec]⟩] [] W0 from by rw [hW0]; exact (BS.start w).alloc (p := w.heap.size) rfl 63 [.int .i64 3, .int .i64 m1, .int .i64 m2, .string t1, .string t2, .int .i64 m3, .int .i64 m4, .int .i64 m5, .int .i64 m6, .bool qs, .slice qa qn qc, .slice qb qm qd, .slice ea en ec] rfl)
 have HW0 := Lib.hid hW0
 have HMX := Lib.hid (fun (W : World) (hb : Below W0.heap.size W0 W) => (⟨(hb.cell (p := ⟨w.heap.size, 0, none⟩) (HN.out.lt 0 rfl)).trans (HN.out.cell 0 0 rfl rfl), (hb.cell (p := ⟨w.heap.size, 1, none⟩) (HN.out.lt 0 rfl)).trans (HN.out.cell 0 1 rfl rfl), (hb.cell (p := ⟨w.heap.size, 2, none⟩) (HN.out.lt 0 rfl)).trans (HN.out.cell 0 2 rfl rfl), (hb.cell (p := ⟨w.heap.size, 3, none⟩) (HN.out.lt 0 rfl)).trans (HN.out.cell 0 3 rfl rfl), (hb.cell (p := ⟨w.heap.size, 4, none⟩) (HN.out.lt 0 rfl)).trans (HN.out.cell 0 4 rfl rfl), (hb.cell (p := ⟨w.heap.size, 5, none⟩) (HN.out.lt 0 rfl)).trans (HN.out.cell 0 5 rfl rfl), (hb.cell (p := ⟨w.heap.size, 6, none⟩) (HN.out.lt 0 rfl)).trans (HN.out.cell 0 6 rfl rfl), (hb.cell (p := ⟨w.heap.size, 7, none⟩) (HN.out.lt 0 rfl)).trans (HN.out.cell 0 7 rfl rfl), (hb.cell (p := ⟨w.heap.size, 8, none⟩) (HN.out.lt 0 rfl)).trans (HN.out.cell 0 8 rfl rfl), (hb.cell (p := ⟨w.heap.size, 9, none⟩) (HN.out.lt 0 rfl)).trans (HN.out.cell 0 9 rfl rfl), (hb.cell (p := ⟨w.heap.size, 10, none⟩) (HN.out.lt 0 rfl)).trans (HN.out.cell 0 10 rfl rfl), (hb.cell (p := ⟨w.heap.size, 11, none⟩) (HN.out.lt 0 rfl)).trans (HN.out.cell 0 11 rfl rfl), (hb.cell (p := ⟨w.heap.size, 12, none⟩) (HN.out.lt 0 rfl)).trans (HN.out.cell 0 12 rfl rfl)⟩ : W.cell? ⟨w.heap.size, 0, none⟩ = some (.int .i64 3) ∧ W.cell? ⟨w.heap.size, 1, none⟩ = some (.int .i64 m1) ∧ W.cell? ⟨w.heap.size, 2, none⟩ = some (.int .i64 m2) ∧ W.cell? ⟨w.heap.size, 3, none⟩ = some (.string t1) ∧ W.cell? ⟨w.heap.size, 4, none⟩ = some (.string t2) ∧ W.cell? ⟨w.heap.size, 5, none⟩ = some (.int .i64 m3) ∧ W.cell? ⟨w.heap.size, 6, none⟩ = some (.int .i64 m4) ∧ W.cell? ⟨w.heap.size, 7, none⟩ = some (.int .i64 m5) ∧ W.cell? ⟨w.heap.size, 8, none⟩ = some (.int .i64 m6) ∧ W.cell? ⟨w.heap.size, 9, none⟩ = some (.bool qs) ∧ W.cell? ⟨w.heap.size, 10, none⟩ = some (.slice qa qn qc) ∧ W.cell? ⟨w.heap.size, 11, none⟩ = some (.slice qb qm qd) ∧ W.cell? ⟨w.heap.size, 12, none⟩ = some (.slice ea en ec)))
 clear hW0
 go_enter Tryz.func60, Tryz.ntmps60
 go_upto_region 1 with fail
 rw [← HW0.out]
 have HO := Lib.hid (PL.nil W0)
 go_cut [3] (fun v3 wx => ∃ p3 : Nat, v3 = .slice (some ⟨p3, 0, none⟩) 2 2 ∧ PL W0 (some ⟨p3, 0, none⟩) 2 2 [VP.num (3) 1 5, VP.tok t1] wx)
 case first =>
  replace HO := Lib.hid (show PL W0 none 0 0 [] W0.drew from HO.out.call (Below.drawn W0 1))
  refine wp_region_held_drew (S := fun W => W.cell? ⟨w.heap.size, 0, none⟩ = some (.int .i64 3) ∧ W.cell? ⟨w.heap.size, 1, none⟩ = some (.int .i64 m1) ∧ W.cell? ⟨w.heap.size, 2, none⟩ = some (.int .i64 m2) ∧ W.cell? ⟨w.heap.size, 3, none⟩ = some (.string t1) ∧ W.cell? ⟨w.heap.size, 4, none⟩ = some (.string t2) ∧ W.cell? ⟨w.heap.size, 5, none⟩ = some (.int .i64 m3) ∧ W.cell? ⟨w.heap.size, 6, none⟩ = some (.int .i64 m4) ∧ W.cell? ⟨w.heap.size, 7, none⟩ = some (.int .i64 m5) ∧ W.cell? ⟨w.heap.size, 8, none⟩ = some (.int .i64 m6) ∧ W.cell? ⟨w.heap.size, 9, none⟩ = some (.bool qs) ∧ W.cell? ⟨w.heap.size, 10, none⟩ = some (.slice qa qn qc) ∧ W.cell? ⟨w.heap.size, 11, none⟩ = some (.slice qb qm qd) ∧ W.cell? ⟨w.heap.size, 12, none⟩ = some (.slice ea en ec)) (by kernel_rfl) (HMX.out _ HO.out.bel) (fun hHeld => ?_)
  generalize W0.drew = wd at HO hHeld ⊢
  refine tm 0 (some 4) ?_
  refine tl 1 (some 5) ?_
  refine tm 3 (some 7) ?_
  refine tl 4 (some 8) ?_
  refine wpAnyH_ready (rs := [2]) (by kernel_rfl) (by simp) ?_
  refine (AllReadyH.cons (o := { dst := some 6, op := Op.call { callee := Callee.value (Operand.func 125), args := #[Operand.tmp 5, Operand.const (Value.int IntKind.i64 1), Operand.const (Value.int IntKind.i64 5)], argTypes := #[3, 3, 3] }, type := 152, pos := "ref.go:70", after := #[{ on := 1, ground := Ground.data }], guard := none }) rfl (fun K hK => ?_) AllReadyH.nil)
  go_simp
  refine (f27num (3) 1 5 _).mono ?_
  rintro e wd ⟨rfl, hb⟩
  replace HO := Lib.hid (HO.out.call hb)
  clear hb
  go_wp2_with fail
  refine hK.out _ _ (HMX.out _ HO.out.bel) (fun hHeld2 => ?_)
  clear hK K hHeld
  rename _ => hHeld
  try simp only [Act.put, stB, stZ, stS]
  refine wpAnyH_ready (rs := [5]) (by kernel_rfl) (by simp) ?_
  refine (AllReadyH.cons (o := { dst := some 9, op := Op.call { callee := Callee.value (Operand.func 126), args := #[Operand.tmp 8], argTypes := #[9] }, type := 152, pos := "ref.go:70", after := #[{ on := 4, ground := Ground.data }, { on := 2, ground := Ground.chain }], guard := none }) rfl (fun K hK => ?_) AllReadyH.nil)
  go_simp
  refine (f27tok t1 _).mono ?_
  rintro e wd ⟨rfl, hb⟩
  replace HO := Lib.hid (HO.out.call hb)
  clear hb
  go_wp2_with fail
  refine hK.out _ _ (HMX.out _ HO.out.bel) (fun hHeld2 => ?_)
  clear hK K hHeld
  rename _ => hHeld
  try simp only [Act.put, stB, stZ, stS]
  refine wpAnyH_ready (rs := [6]) (by kernel_rfl) (by simp) ?_
  refine (AllReadyH.cons (o := { dst := some 10, op := Op.buildSlice 147 2 #[(0, Operand.tmp 6), (1, Operand.tmp 9)], type := 147, pos := "ref.go:70", after := #[{ on := 2, ground := Ground.data }, { on := 5, ground := Ground.data }], guard := none }) rfl (fun K hK => ?_) AllReadyH.nil)
  go_simp
  refine hK.out _ _ (HMX.out _ (bthen HO.out.bel (belowBox _ (.cells #[.int .i64 1, .int .i64 1, .int .i64 5, .int .i64 3, .string ⟨#[]⟩, .bool false, .slice none 0 0, .slice none 0 0, .int .i64 3, .int .i64 0, .int .i64 0, .int .i64 0, .string t1, .bool false, .slice none 0 0, .slice none 0 0] 152)))) (fun hHeld2 => ?_)
  clear hK K hHeld
  rename _ => hHeld
  try simp only [Act.put, stB, stZ, stS]
  refine tm 7 (some 3) ?_
  refine wpAnyH_done (by kernel_rfl) ?_ _
  clear hHeld
  go_wp2_with fail
  go_meet
  exact ⟨_, rfl, HO.out.lit [VP.num (3) 1 5, VP.tok t1] 2 rfl rfl⟩
 case rest =>
  obtain ⟨w1, rfl⟩ : ∃ w1 : World, w1 = wc := ⟨_, rfl⟩
  obtain ⟨p3, rfl, ho⟩ := hcut
  replace HO := Lib.hid ho
  clear ho
  have ⟨k0, k1, k2, k3, k4, k5, k6, k7, k8, k9, k10, k11, k12⟩ := HMX.out _ HO.out.bel
  go_wp2_with fail
  clear k0 k1 k2 k3 k4 k5 k6 k7 k8 k9 k10 k11 k12
  refine (f27idn m1 _).mono ?_
  rintro e w2 ⟨rfl, hb⟩
  replace HO := Lib.hid (HO.out.call hb)
  clear hb
  have HS3 := Lib.hid (show Src Tryz.prog 8 147 (.slice (some ⟨w2.heap.size, 0, none⟩) 1 1) 1 ([VP.idn m1].flatMap VP.cells) (w2.alloc (.cells #[.int .i64 2, .int .i64 0, .int .i64 0, .int .i64 m1, .string ⟨#[]⟩, .bool false, .slice none 0 0, .slice none 0 0] 152)) from (Sl.lit w2 152 8 1 ([VP.idn m1].flatMap VP.cells) (by unfold maxLen; omega) rfl).src (P := Tryz.prog) Tryz.underlying147 (one_VP [VP.idn m1]))
  have HM3 := Lib.hid (HO.out.mid.alloc (.cells #[.int .i64 2, .int .i64 0, .int .i64 0, .int .i64 m1, .string ⟨#[]⟩, .bool false, .slice none 0 0, .slice none 0 0] 152))
  have HW3 := Lib.hid (Nat.le_trans HO.out.bel.size (belowBox w2 (.cells #[.int .i64 2, .int .i64 0, .int .i64 0, .int .i64 m1, .string ⟨#[]⟩, .bool false, .slice none 0 0, .slice none 0 0] 152)).size)
  go_wp2_with (at_builtin; refine wpList_append_mid (v := .slice (some ⟨p3, 0, none⟩) 2 2) rfl _ _ 147 147 rfl i0 (.agg #[.int .i64 0, .int .i64 0, .int .i64 0, .int .i64 0, .string ⟨#[]⟩, .bool false, .slice none 0 0, .slice none 0 0]) 104 Tryz.underlying147 hi hz0 hz1 hz2 rfl rfl HM3.out _ rfl 1 _ HS3.out (by unfold maxLen; omega) (by omega) HW3.out ?_; intro a3 c3 w3 hmo hgo hbo; have HP := Lib.hid (HO.out.push (ys := [VP.idn m1]) hmo hgo); clear hmo hgo hbo HM3 HW3 HS3 HO; have ⟨k0, k1, k2, k3, k4, k5, k6, k7, k8, k9, k10, k11, k12⟩ := HMX.out _ HP.out.bel; go_wp2_with fail)
  have HO := HP
  clear HP k0 k1 k2 k3 k4 k5 k6 k7 k8 k9 k10 k11 k12
  go_ret
  exact ⟨_, _, rfl, HO.out.psw HOK.out rfl (by rw [HW0.out]; exact belowBox _ _), bthen (belowBox w (.cells #[.int .i64 3, .int .i64 m1, .int .i64 m2, .string t1, .string t2, .int .i64 m3, .int .i64 m4, .int .i64 m5, .int .i64 m6, .bool qs, .slice qa qn qc, .slice qb qm qd, .slice ea en ec] 63)) (by rw [← HW0.out]; exact HO.out.bel)⟩
theorem f27parts_4 (m1 m2 m3 m4 m5 m6 : Int) (t1 t2 : ByteArray) (qs : Bool) (qa qb ea : Option Addr) (qn qc qm qd en ec : Nat) (w : World)
  (HOK : Hid (∀ W, Below w.heap.size w W → ∀ p, p ∈ (([VP.num (4) 1 5, VP.tok t1] ++ [VP.num (m2) 0 255]) : List VP) → p.ok W)) :
  Calls Tryz.prog 60 #[.agg #[.int .i64 4, .int .i64 m1, .int .i64 m2, .string t1, .string t2, .int .i64 m3, .int .i64 m4, .int .i64 m5, .int .i64 m6, .bool qs, .slice qa qn qc, .slice qb qm qd, .slice ea en ec]] w fun e w' => ∃ a c, e = .returned (.slice a (2 + 1) c) ∧ PSW w' a (2 + 1) c ([VP.num (4) 1 5, VP.tok t1] ++ [VP.num (m2) 0 255]) ∧ Below w.heap.size w w' := by
 obtain ⟨i0, hi, hz0, hz1, hz2⟩ := info_parts Tryz.infoPart
 obtain ⟨W0, hW0⟩ : ∃ W0, W0 = w.alloc (.cells #[.int .i64 4, .int .i64 m1, .int .i64 m2, .string t1, .string t2, .int .i64 m3, .int .i64 m4, .int .i64 m5, .int .i64 m6, .bool qs, .slice qa qn qc, .slice qb qm qd, .slice ea en ec] 63) := ⟨_, rfl⟩
 have HN := Lib.hid (show BS w [⟨w.heap.size, 63, [.int .i64 4, .int .i64 m1, .int .i64 m2, .string t1, .string t2, .int .i64 m3, .int .i64 m4, .int .i64 m5, .int .i64 m6, .bool qs, .slice qa qn qc, .slice qb qm qd, .slice ea en ec]⟩] [] W0 from by rw [hW0]; exact (BS.start w).alloc (p := w.heap.size) rfl 63 [.int .i64 4, .int .i64 m1, .int .i64 m2, .string t1, .string t2, .int .i64 m3, .int .i64 m4, .int .i64 m5, .int .i64 m6, .bool qs, .slice qa qn qc, .slice qb qm qd, .slice ea en ec] rfl)
 have HW0 := Lib.hid hW0
 have HMX := Lib.hid (fun (W : World) (hb : Below W0.heap.size W0 W) => (⟨(hb.cell (p := ⟨w.heap.size, 0, none⟩) (HN.out.lt 0 rfl)).trans (HN.out.cell 0 0 rfl rfl), (hb.cell (p := ⟨w.heap.size, 1, none⟩) (HN.out.lt 0 rfl)).trans (HN.out.cell 0 1 rfl rfl), (hb.cell (p := ⟨w.heap.size, 2, none⟩) (HN.out.lt 0 rfl)).trans (HN.out.cell 0 2 rfl rfl), (hb.cell (p := ⟨w.heap.size, 3, none⟩) (HN.out.lt 0 rfl)).trans (HN.out.cell 0 3 rfl rfl), (hb.cell (p := ⟨w.heap.size, 4, none⟩) (HN.out.lt 0 rfl)).trans (HN.out.cell 0 4 rfl rfl), (hb.cell (p := ⟨w.heap.size, 5, none⟩) (HN.out.lt 0 rfl)).trans (HN.out.cell 0 5 rfl rfl), (hb.cell (p := ⟨w.heap.size, 6, none⟩) (HN.out.lt 0 rfl)).trans (HN.out.cell 0 6 rfl rfl), (hb.cell (p := ⟨w.heap.size, 7, none⟩) (HN.out.lt 0 rfl)).trans (HN.out.cell 0 7 rfl rfl), (hb.cell (p := ⟨w.heap.size, 8, none⟩) (HN.out.lt 0 rfl)).trans (HN.out.cell 0 8 rfl rfl), (hb.cell (p := ⟨w.heap.size, 9, none⟩) (HN.out.lt 0 rfl)).trans (HN.out.cell 0 9 rfl rfl), (hb.cell (p := ⟨w.heap.size, 10, none⟩) (HN.out.lt 0 rfl)).trans (HN.out.cell 0 10 rfl rfl), (hb.cell (p := ⟨w.heap.size, 11, none⟩) (HN.out.lt 0 rfl)).trans (HN.out.cell 0 11 rfl rfl), (hb.cell (p := ⟨w.heap.size, 12, none⟩) (HN.out.lt 0 rfl)).trans (HN.out.cell 0 12 rfl rfl)⟩ : W.cell? ⟨w.heap.size, 0, none⟩ = some (.int .i64 4) ∧ W.cell? ⟨w.heap.size, 1, none⟩ = some (.int .i64 m1) ∧ W.cell? ⟨w.heap.size, 2, none⟩ = some (.int .i64 m2) ∧ W.cell? ⟨w.heap.size, 3, none⟩ = some (.string t1) ∧ W.cell? ⟨w.heap.size, 4, none⟩ = some (.string t2) ∧ W.cell? ⟨w.heap.size, 5, none⟩ = some (.int .i64 m3) ∧ W.cell? ⟨w.heap.size, 6, none⟩ = some (.int .i64 m4) ∧ W.cell? ⟨w.heap.size, 7, none⟩ = some (.int .i64 m5) ∧ W.cell? ⟨w.heap.size, 8, none⟩ = some (.int .i64 m6) ∧ W.cell? ⟨w.heap.size, 9, none⟩ = some (.bool qs) ∧ W.cell? ⟨w.heap.size, 10, none⟩ = some (.slice qa qn qc) ∧ W.cell? ⟨w.heap.size, 11, none⟩ = some (.slice qb qm qd) ∧ W.cell? ⟨w.heap.size, 12, none⟩ = some (.slice ea en ec)))
 clear hW0
 go_enter Tryz.func60, Tryz.ntmps60
 go_upto_region 1 with fail
 rw [← HW0.out]
 have HO := Lib.hid (PL.nil W0)
 go_cut [3] (fun v3 wx => ∃ p3 : Nat, v3 = .slice (some ⟨p3, 0, none⟩) 2 2 ∧ PL W0 (some ⟨p3, 0, none⟩) 2 2 [VP.num (4) 1 5, VP.tok t1] wx)
 case first =>
  replace HO := Lib.hid (show PL W0 none 0 0 [] W0.drew from HO.out.call (Below.drawn W0 1))
  refine wp_region_held_drew (S := fun W => W.cell? ⟨w.heap.size, 0, none⟩ = some (.int .i64 4) ∧ W.cell? ⟨w.heap.size, 1, none⟩ = some (.int .i64 m1) ∧ W.cell? ⟨w.heap.size, 2, none⟩ = some (.int .i64 m2) ∧ W.cell? ⟨w.heap.size, 3, none⟩ = some (.string t1) ∧ W.cell? ⟨w.heap.size, 4, none⟩ = some (.string t2) ∧ W.cell? ⟨w.heap.size, 5, none⟩ = some (.int .i64 m3) ∧ W.cell? ⟨w.heap.size, 6, none⟩ = some (.int .i64 m4) ∧ W.cell? ⟨w.heap.size, 7, none⟩ = some (.int .i64 m5) ∧ W.cell? ⟨w.heap.size, 8, none⟩ = some (.int .i64 m6) ∧ W.cell? ⟨w.heap.size, 9, none⟩ = some (.bool qs) ∧ W.cell? ⟨w.heap.size, 10, none⟩ = some (.slice qa qn qc) ∧ W.cell? ⟨w.heap.size, 11, none⟩ = some (.slice qb qm qd) ∧ W.cell? ⟨w.heap.size, 12, none⟩ = some (.slice ea en ec)) (by kernel_rfl) (HMX.out _ HO.out.bel) (fun hHeld => ?_)
  generalize W0.drew = wd at HO hHeld ⊢
  refine tm 0 (some 4) ?_
  refine tl 1 (some 5) ?_
  refine tm 3 (some 7) ?_
  refine tl 4 (some 8) ?_
  refine wpAnyH_ready (rs := [2]) (by kernel_rfl) (by simp) ?_
  refine (AllReadyH.cons (o := { dst := some 6, op := Op.call { callee := Callee.value (Operand.func 125), args := #[Operand.tmp 5, Operand.const (Value.int IntKind.i64 1), Operand.const (Value.int IntKind.i64 5)], argTypes := #[3, 3, 3] }, type := 152, pos := "ref.go:70", after := #[{ on := 1, ground := Ground.data }], guard := none }) rfl (fun K hK => ?_) AllReadyH.nil)
  go_simp
  refine (f27num (4) 1 5 _).mono ?_
  rintro e wd ⟨rfl, hb⟩
  replace HO := Lib.hid (HO.out.call hb)
  clear hb
  go_wp2_with fail
  refine hK.out _ _ (HMX.out _ HO.out.bel) (fun hHeld2 => ?_)
  clear hK K hHeld
  rename _ => hHeld
  try simp only [Act.put, stB, stZ, stS]
  refine wpAnyH_ready (rs := [5]) (by kernel_rfl) (by simp) ?_
  refine (AllReadyH.cons (o := { dst := some 9, op := Op.call { callee := Callee.value (Operand.func 126), args := #[Operand.tmp 8], argTypes := #[9] }, type := 152, pos := "ref.go:70", after := #[{ on := 4, ground := Ground.data }, { on := 2, ground := Ground.chain }], guard := none }) rfl (fun K hK => ?_) AllReadyH.nil)
  go_simp
  refine (f27tok t1 _).mono ?_
  rintro e wd ⟨rfl, hb⟩
  replace HO := Lib.hid (HO.out.call hb)
  clear hb
  go_wp2_with fail
  refine hK.out _ _ (HMX.out _ HO.out.bel) (fun hHeld2 => ?_)
  clear hK K hHeld
  rename _ => hHeld
  try simp only [Act.put, stB, stZ, stS]
  refine wpAnyH_ready (rs := [6]) (by kernel_rfl) (by simp) ?_
  refine (AllReadyH.cons (o := { dst := some 10, op := Op.buildSlice 147 2 #[(0, Operand.tmp 6), (1, Operand.tmp 9)], type := 147, pos := "ref.go:70", after := #[{ on := 2, ground := Ground.data }, { on := 5, ground := Ground.data }], guard := none }) rfl (fun K hK => ?_) AllReadyH.nil)
  go_simp
  refine hK.out _ _ (HMX.out _ (bthen HO.out.bel (belowBox _ (.cells #[.int .i64 1, .int .i64 1, .int .i64 5, .int .i64 4, .string ⟨#[]⟩, .bool false, .slice none 0 0, .slice none 0 0, .int .i64 3, .int .i64 0, .int .i64 0, .int .i64 0, .string t1, .bool false, .slice none 0 0, .slice none 0 0] 152)))) (fun hHeld2 => ?_)
  clear hK K hHeld
  rename _ => hHeld
  try simp only [Act.put, stB, stZ, stS]
  refine tm 7 (some 3) ?_
  refine wpAnyH_done (by kernel_rfl) ?_ _
  clear hHeld
  go_wp2_with fail
  go_meet
  exact ⟨_, rfl, HO.out.lit [VP.num (4) 1 5, VP.tok t1] 2 rfl rfl⟩
 case rest =>
  obtain ⟨w1, rfl⟩ : ∃ w1 : World, w1 = wc := ⟨_, rfl⟩
  obtain ⟨p3, rfl, ho⟩ := hcut
  replace HO := Lib.hid ho
  clear ho
  have ⟨k0, k1, k2, k3, k4, k5, k6, k7, k8, k9, k10, k11, k12⟩ := HMX.out _ HO.out.bel
  go_wp2_with fail
  clear k0 k1 k2 k3 k4 k5 k6 k7 k8 k9 k10 k11 k12
  refine (f27num (m2) 0 255 _).mono ?_
  rintro e w2 ⟨rfl, hb⟩
  replace HO := Lib.hid (HO.out.call hb)
  clear hb
  have HS3 := Lib.hid (show Src Tryz.prog 8 147 (.slice (some ⟨w2.heap.size, 0, none⟩) 1 1) 1 ([VP.num (m2) 0 255].flatMap VP.cells) (w2.alloc (.cells #[.int .i64 1, .int .i64 0, .int .i64 255, .int .i64 m2, .string ⟨#[]⟩, .bool false, .slice none 0 0, .slice none 0 0] 152)) from (Sl.lit w2 152 8 1 ([VP.num (m2) 0 255].flatMap VP.cells) (by unfold maxLen; omega) rfl).src (P := Tryz.prog) Tryz.underlying147 (one_VP [VP.num (m2) 0 255]))
  have HM3 := Lib.hid (HO.out.mid.alloc (.cells #[.int .i64 1, .int .i64 0, .int .i64 255, .int .i64 m2, .string ⟨#[]⟩, .bool false, .slice none 0 0, .slice none 0 0] 152))
  have HW3 := Lib.hid (Nat.le_trans HO.out.bel.size (belowBox w2 (.cells #[.int .i64 1, .int .i64 0, .int .i64 255, .int .i64 m2, .string ⟨#[]⟩, .bool false, .slice none 0 0, .slice none 0 0] 152)).size)
  go_wp2_with (at_builtin; refine wpList_append_mid (v := .slice (some ⟨p3, 0, none⟩) 2 2) rfl _ _ 147 147 rfl i0 (.agg #[.int .i64 0, .int .i64 0, .int .i64 0, .int .i64 0, .string ⟨#[]⟩, .bool false, .slice none 0 0, .slice none 0 0]) 104 Tryz.underlying147 hi hz0 hz1 hz2 rfl rfl HM3.out _ rfl 1 _ HS3.out (by unfold maxLen; omega) (by omega) HW3.out ?_; intro a3 c3 w3 hmo hgo hbo; have HP := Lib.hid (HO.out.push (ys := [VP.num (m2) 0 255]) hmo hgo); clear hmo hgo hbo HM3 HW3 HS3 HO; have ⟨k0, k1, k2, k3, k4, k5, k6, k7, k8, k9, k10, k11, k12⟩ := HMX.out _ HP.out.bel; go_wp2_with fail)
  have HO := HP
  clear HP k0 k1 k2 k3 k4 k5 k6 k7 k8 k9 k10 k11 k12
  go_ret
  exact ⟨_, _, rfl, HO.out.psw HOK.out rfl (by rw [HW0.out]; exact belowBox _ _), bthen (belowBox w (.cells #[.int .i64 4, .int .i64 m1, .int .i64 m2, .string t1, .string t2, .int .i64 m3, .int .i64 m4, .int .i64 m5, .int .i64 m6, .bool qs, .slice qa qn qc, .slice qb qm qd, .slice ea en ec] 63)) (by rw [← HW0.out]; exact HO.out.bel)⟩
theorem f27parts_5 (m1 m2 m3 m4 m5 m6 : Int) (t1 t2 : ByteArray) (qs : Bool) (qa qb ea : Option Addr) (qn qc qm qd en ec : Nat) (w : World)
  (HOK : Hid (∀ W, Below w.heap.size w W → ∀ p, p ∈ (([VP.num (5) 1 5, VP.tok t1] ++ [VP.tok t2]) : List VP) → p.ok W)) :
  Calls Tryz.prog 60 #[.agg #[.int .i64 5, .int .i64 m1, .int .i64 m2, .string t1, .string t2, .int .i64 m3, .int .i64 m4, .int .i64 m5, .int .i64 m6, .bool qs, .slice qa qn qc, .slice qb qm qd, .slice ea en ec]] w fun e w' => ∃ a c, e = .returned (.slice a (2 + 1) c) ∧ PSW w' a (2 + 1) c ([VP.num (5) 1 5, VP.tok t1] ++ [VP.tok t2]) ∧ Below w.heap.size w w' := by
 obtain ⟨i0, hi, hz0, hz1, hz2⟩ := info_parts Tryz.infoPart
 obtain ⟨W0, hW0⟩ : ∃ W0, W0 = w.alloc (.cells #[.int .i64 5, .int .i64 m1, .int .i64 m2, .string t1, .string t2, .int .i64 m3, .int .i64 m4, .int .i64 m5, .int .i64 m6, .bool qs, .slice qa qn qc, .slice qb qm qd, .slice ea en ec] 63) := ⟨_, rfl⟩
 have HN := Lib.hid (show BS w [⟨w.heap.size, 63, [.int .i64 5, .int .i64 m1, .int .i64 m2, .string t1, .string t2, .int .i64 m3, .int .i64 m4, .int .i64 m5, .int .i64 m6, .bool qs, .slice qa qn qc, .slice qb qm qd, .slice ea en ec]⟩] [] W0 from by rw [hW0]; exact (BS.start w).alloc (p := w.heap.size) rfl 63 [.int .i64 5, .int .i64 m1, .int .i64 m2, .string t1, .string t2, .int .i64 m3, .int .i64 m4, .int .i64 m5, .int .i64 m6, .bool qs, .slice qa qn qc, .slice qb qm qd, .slice ea en ec] rfl)
 have HW0 := Lib.hid hW0
 have HMX := Lib.hid (fun (W : World) (hb : Below W0.heap.size W0 W) => (⟨(hb.cell (p := ⟨w.heap.size, 0, none⟩) (HN.out.lt 0 rfl)).trans (HN.out.cell 0 0 rfl rfl), (hb.cell (p := ⟨w.heap.size, 1, none⟩) (HN.out.lt 0 rfl)).trans (HN.out.cell 0 1 rfl rfl), (hb.cell (p := ⟨w.heap.size, 2, none⟩) (HN.out.lt 0 rfl)).trans (HN.out.cell 0 2 rfl rfl), (hb.cell (p := ⟨w.heap.size, 3, none⟩) (HN.out.lt 0 rfl)).trans (HN.out.cell 0 3 rfl rfl), (hb.cell (p := ⟨w.heap.size, 4, none⟩) (HN.out.lt 0 rfl)).trans (HN.out.cell 0 4 rfl rfl), (hb.cell (p := ⟨w.heap.size, 5, none⟩) (HN.out.lt 0 rfl)).trans (HN.out.cell 0 5 rfl rfl), (hb.cell (p := ⟨w.heap.size, 6, none⟩) (HN.out.lt 0 rfl)).trans (HN.out.cell 0 6 rfl rfl), (hb.cell (p := ⟨w.heap.size, 7, none⟩) (HN.out.lt 0 rfl)).trans (HN.out.cell 0 7 rfl rfl), (hb.cell (p := ⟨w.heap.size, 8, none⟩) (HN.out.lt 0 rfl)).trans (HN.out.cell 0 8 rfl rfl), (hb.cell (p := ⟨w.heap.size, 9, none⟩) (HN.out.lt 0 rfl)).trans (HN.out.cell 0 9 rfl rfl), (hb.cell (p := ⟨w.heap.size, 10, none⟩) (HN.out.lt 0 rfl)).trans (HN.out.cell 0 10 rfl rfl), (hb.cell (p := ⟨w.heap.size, 11, none⟩) (HN.out.lt 0 rfl)).trans (HN.out.cell 0 11 rfl rfl), (hb.cell (p := ⟨w.heap.size, 12, none⟩) (HN.out.lt 0 rfl)).trans (HN.out.cell 0 12 rfl rfl)⟩ : W.cell? ⟨w.heap.size, 0, none⟩ = some (.int .i64 5) ∧ W.cell? ⟨w.heap.size, 1, none⟩ = some (.int .i64 m1) ∧ W.cell? ⟨w.heap.size, 2, none⟩ = some (.int .i64 m2) ∧ W.cell? ⟨w.heap.size, 3, none⟩ = some (.string t1) ∧ W.cell? ⟨w.heap.size, 4, none⟩ = some (.string t2) ∧ W.cell? ⟨w.heap.size, 5, none⟩ = some (.int .i64 m3) ∧ W.cell? ⟨w.heap.size, 6, none⟩ = some (.int .i64 m4) ∧ W.cell? ⟨w.heap.size, 7, none⟩ = some (.int .i64 m5) ∧ W.cell? ⟨w.heap.size, 8, none⟩ = some (.int .i64 m6) ∧ W.cell? ⟨w.heap.size, 9, none⟩ = some (.bool qs) ∧ W.cell? ⟨w.heap.size, 10, none⟩ = some (.slice qa qn qc) ∧ W.cell? ⟨w.heap.size, 11, none⟩ = some (.slice qb qm qd) ∧ W.cell? ⟨w.heap.size, 12, none⟩ = some (.slice ea en ec)))
 clear hW0
 go_enter Tryz.func60, Tryz.ntmps60
 go_upto_region 1 with fail
 rw [← HW0.out]
 have HO := Lib.hid (PL.nil W0)
 go_cut [3] (fun v3 wx => ∃ p3 : Nat, v3 = .slice (some ⟨p3, 0, none⟩) 2 2 ∧ PL W0 (some ⟨p3, 0, none⟩) 2 2 [VP.num (5) 1 5, VP.tok t1] wx)
 case first =>
  replace HO := Lib.hid (show PL W0 none 0 0 [] W0.drew from HO.out.call (Below.drawn W0 1))
  refine wp_region_held_drew (S := fun W => W.cell? ⟨w.heap.size, 0, none⟩ = some (.int .i64 5) ∧ W.cell? ⟨w.heap.size, 1, none⟩ = some (.int .i64 m1) ∧ W.cell? ⟨w.heap.size, 2, none⟩ = some (.int .i64 m2) ∧ W.cell? ⟨w.heap.size, 3, none⟩ = some (.string t1) ∧ W.cell? ⟨w.heap.size, 4, none⟩ = some (.string t2) ∧ W.cell? ⟨w.heap.size, 5, none⟩ = some (.int .i64 m3) ∧ W.cell? ⟨w.heap.size, 6, none⟩ = some (.int .i64 m4) ∧ W.cell? ⟨w.heap.size, 7, none⟩ = some (.int .i64 m5) ∧ W.cell? ⟨w.heap.size, 8, none⟩ = some (.int .i64 m6) ∧ W.cell? ⟨w.heap.size, 9, none⟩ = some (.bool qs) ∧ W.cell? ⟨w.heap.size, 10, none⟩ = some (.slice qa qn qc) ∧ W.cell? ⟨w.heap.size, 11, none⟩ = some (.slice qb qm qd) ∧ W.cell? ⟨w.heap.size, 12, none⟩ = some (.slice ea en ec)) (by kernel_rfl) (HMX.out _ HO.out.bel) (fun hHeld => ?_)
  generalize W0.drew = wd at HO hHeld ⊢
  refine tm 0 (some 4) ?_
  refine tl 1 (some 5) ?_
  refine tm 3 (some 7) ?_
  refine tl 4 (some 8) ?_
  refine wpAnyH_ready (rs := [2]) (by kernel_rfl) (by simp) ?_
  refine (AllReadyH.cons (o := { dst := some 6, op := Op.call { callee := Callee.value (Operand.func 125), args := #[Operand.tmp 5, Operand.const (Value.int IntKind.i64 1), Operand.const (Value.int IntKind.i64 5)], argTypes := #[3, 3, 3] }, type := 152, pos := "ref.go:70", after := #[{ on := 1, ground := Ground.data }], guard := none }) rfl (fun K hK => ?_) AllReadyH.nil)
  go_simp
  refine (f27num (5) 1 5 _).mono ?_
  rintro e wd ⟨rfl, hb⟩
  replace HO := Lib.hid (HO.out.call hb)
  clear hb
  go_wp2_with fail
  refine hK.out _ _ (HMX.out _ HO.out.bel) (fun hHeld2 => ?_)
  clear hK K hHeld
  rename _ => hHeld
  try simp only [Act.put, stB, stZ, stS]
  refine wpAnyH_ready (rs := [5]) (by kernel_rfl) (by simp) ?_
  refine (AllReadyH.cons (o := { dst := some 9, op := Op.call { callee := Callee.value (Operand.func 126), args := #[Operand.tmp 8], argTypes := #[9] }, type := 152, pos := "ref.go:70", after := #[{ on := 4, ground := Ground.data }, { on := 2, ground := Ground.chain }], guard := none }) rfl (fun K hK => ?_) AllReadyH.nil)
  go_simp
  refine (f27tok t1 _).mono ?_
  rintro e wd ⟨rfl, hb⟩
  replace HO := Lib.hid (HO.out.call hb)
  clear hb
  go_wp2_with fail
  refine hK.out _ _ (HMX.out _ HO.out.bel) (fun hHeld2 => ?_)
  clear hK K hHeld
  rename _ => hHeld
  try simp only [Act.put, stB, stZ, stS]
  refine wpAnyH_ready (rs := [6]) (by kernel_rfl) (by simp) ?_
  refine (AllReadyH.cons (o := { dst := some 10, op := Op.buildSlice 147 2 #[(0, Operand.tmp 6), (1, Operand.tmp 9)], type := 147, pos := "ref.go:70", after := #[{ on := 2, ground := Ground.data }, { on := 5, ground := Ground.data }], guard := none }) rfl (fun K hK => ?_) AllReadyH.nil)
  go_simp
  refine hK.out _ _ (HMX.out _ (bthen HO.out.bel (belowBox _ (.cells #[.int .i64 1, .int .i64 1, .int .i64 5, .int .i64 5, .string ⟨#[]⟩, .bool false, .slice none 0 0, .slice none 0 0, .int .i64 3, .int .i64 0, .int .i64 0, .int .i64 0, .string t1, .bool false, .slice none 0 0, .slice none 0 0] 152)))) (fun hHeld2 => ?_)
  clear hK K hHeld
  rename _ => hHeld
  try simp only [Act.put, stB, stZ, stS]
  refine tm 7 (some 3) ?_
  refine wpAnyH_done (by kernel_rfl) ?_ _
  clear hHeld
  go_wp2_with fail
  go_meet
  exact ⟨_, rfl, HO.out.lit [VP.num (5) 1 5, VP.tok t1] 2 rfl rfl⟩
 case rest =>
  obtain ⟨w1, rfl⟩ : ∃ w1 : World, w1 = wc := ⟨_, rfl⟩
  obtain ⟨p3, rfl, ho⟩ := hcut
  replace HO := Lib.hid ho
  clear ho
  have ⟨k0, k1, k2, k3, k4, k5, k6, k7, k8, k9, k10, k11, k12⟩ := HMX.out _ HO.out.bel
  go_wp2_with fail
  clear k0 k1 k2 k3 k4 k5 k6 k7 k8 k9 k10 k11 k12
  refine (f27tok t2 _).mono ?_
  rintro e w2 ⟨rfl, hb⟩
  replace HO := Lib.hid (HO.out.call hb)
  clear hb
  have HS3 := Lib.hid (show Src Tryz.prog 8 147 (.slice (some ⟨w2.heap.size, 0, none⟩) 1 1) 1 ([VP.tok t2].flatMap VP.cells) (w2.alloc (.cells #[.int .i64 3, .int .i64 0, .int .i64 0, .int .i64 0, .string t2, .bool false, .slice none 0 0, .slice none 0 0] 152)) from (Sl.lit w2 152 8 1 ([VP.tok t2].flatMap VP.cells) (by unfold maxLen; omega) rfl).src (P := Tryz.prog) Tryz.underlying147 (one_VP [VP.tok t2]))
  have HM3 := Lib.hid (HO.out.mid.alloc (.cells #[.int .i64 3, .int .i64 0, .int .i64 0, .int .i64 0, .string t2, .bool false, .slice none 0 0, .slice none 0 0] 152))
  have HW3 := Lib.hid (Nat.le_trans HO.out.bel.size (belowBox w2 (.cells #[.int .i64 3, .int .i64 0, .int .i64 0, .int .i64 0, .string t2, .bool false, .slice none 0 0, .slice none 0 0] 152)).size)
  go_wp2_with (at_builtin; refine wpList_append_mid (v := .slice (some ⟨p3, 0, none⟩) 2 2) rfl _ _ 147 147 rfl i0 (.agg #[.int .i64 0, .int .i64 0, .int .i64 0, .int .i64 0, .string ⟨#[]⟩, .bool false, .slice none 0 0, .slice none 0 0]) 104 Tryz.underlying147 hi hz0 hz1 hz2 rfl rfl HM3.out _ rfl 1 _ HS3.out (by unfold maxLen; omega) (by omega) HW3.out ?_; intro a3 c3 w3 hmo hgo hbo; have HP := Lib.hid (HO.out.push (ys := [VP.tok t2]) hmo hgo); clear hmo hgo hbo HM3 HW3 HS3 HO; have ⟨k0, k1, k2, k3, k4, k5, k6, k7, k8, k9, k10, k11, k12⟩ := HMX.out _ HP.out.bel; go_wp2_with fail)
  have HO := HP
  clear HP k0 k1 k2 k3 k4 k5 k6 k7 k8 k9 k10 k11 k12
  go_ret
  exact ⟨_, _, rfl, HO.out.psw HOK.out rfl (by rw [HW0.out]; exact belowBox _ _), bthen (belowBox w (.cells #[.int .i64 5, .int .i64 m1, .int .i64 m2, .string t1, .string t2, .int .i64 m3, .int .i64 m4, .int .i64 m5, .int .i64 m6, .bool qs, .slice qa qn qc, .slice qb qm qd, .slice ea en ec] 63)) (by rw [← HW0.out]; exact HO.out.bel)⟩
theorem f27parts_1 (m1 m2 m3 m4 m5 m6 : Int) (t1 t2 : ByteArray) (qs : Bool) (qa qb ea : Option Addr) (qn qc qm qd en ec : Nat) (w : World) (nq : Nat) (lq : List VP) (hnq : nq ≤ 100000)
  (HQS : Hid (∀ W, Below w.heap.size w W → Calls Tryz.prog 128 #[.agg #[.int .i64 1, .int .i64 m1, .int .i64 m2, .string t1, .string t2, .int .i64 m3, .int .i64 m4, .int .i64 m5, .int .i64 m6, .bool qs, .slice qa qn qc, .slice qb qm qd, .slice ea en ec]] W fun e w' => ∃ a c, e = .returned (.slice a nq c) ∧ PSW w' a nq c lq ∧ Below W.heap.size W w'))
  (HOK : Hid (∀ W, Below w.heap.size w W → ∀ p, p ∈ ((([VP.num (1) 1 5, VP.tok t1] ++ [VP.idn m1]) ++ lq) : List VP) → p.ok W)) :
  Calls Tryz.prog 60 #[.agg #[.int .i64 1, .int .i64 m1, .int .i64 m2, .string t1, .string t2, .int .i64 m3, .int .i64 m4, .int .i64 m5, .int .i64 m6, .bool qs, .slice qa qn qc, .slice qb qm qd, .slice ea en ec]] w fun e w' => ∃ a c, e = .returned (.slice a ((2 + 1) + nq) c) ∧ PSW w' a ((2 + 1) + nq) c (([VP.num (1) 1 5, VP.tok t1] ++ [VP.idn m1]) ++ lq) ∧ Below w.heap.size w w' := by
 obtain ⟨i0, hi, hz0, hz1, hz2⟩ := info_parts Tryz.infoPart
 obtain ⟨W0, hW0⟩ : ∃ W0, W0 = w.alloc (.cells #[.int .i64 1, .int .i64 m1, .int .i64 m2, .string t1, .string t2, .int .i64 m3, .int .i64 m4, .int .i64 m5, .int .i64 m6, .bool qs, .slice qa qn qc, .slice qb qm qd, .slice ea en ec] 63) := ⟨_, rfl⟩
 have HN := Lib.hid (show BS w [⟨w.heap.size, 63, [.int .i64 1, .int .i64 m1, .int .i64 m2, .string t1, .string t2, .int .i64 m3, .int .i64 m4, .int .i64 m5, .int .i64 m6, .bool qs, .slice qa qn qc, .slice qb qm qd, .slice ea en ec]⟩] [] W0 from by rw [hW0]; exact (BS.start w).alloc (p := w.heap.size) rfl 63 [.int .i64 1, .int .i64 m1, .int .i64 m2, .string t1, .string t2, .int .i64 m3, .int .i64 m4, .int .i64 m5, .int .i64 m6, .bool qs, .slice qa qn qc, .slice qb qm qd, .slice ea en ec] rfl)
 have HW0 := Lib.hid hW0
 have HMX := Lib.hid (fun (W : World) (hb : Below W0.heap.size W0 W) => (⟨(hb.cell (p := ⟨w.heap.size, 0, none⟩) (HN.out.lt 0 rfl)).trans (HN.out.cell 0 0 rfl rfl), (hb.cell (p := ⟨w.heap.size, 1, none⟩) (HN.out.lt 0 rfl)).trans (HN.out.cell 0 1 rfl rfl), (hb.cell (p := ⟨w.heap.size, 2, none⟩) (HN.out.lt 0 rfl)).trans (HN.out.cell 0 2 rfl rfl), (hb.cell (p := ⟨w.heap.size, 3, none⟩) (HN.out.lt 0 rfl)).trans (HN.out.cell 0 3 rfl rfl), (hb.cell (p := ⟨w.heap.size, 4, none⟩) (HN.out.lt 0 rfl)).trans (HN.out.cell 0 4 rfl rfl), (hb.cell (p := ⟨w.heap.size, 5, none⟩) (HN.out.lt 0 rfl)).trans (HN.out.cell 0 5 rfl rfl), (hb.cell (p := ⟨w.heap.size, 6, none⟩) (HN.out.lt 0 rfl)).trans (HN.out.cell 0 6 rfl rfl), (hb.cell (p := ⟨w.heap.size, 7, none⟩) (HN.out.lt 0 rfl)).trans (HN.out.cell 0 7 rfl rfl), (hb.cell (p := ⟨w.heap.size, 8, none⟩) (HN.out.lt 0 rfl)).trans (HN.out.cell 0 8 rfl rfl), (hb.cell (p := ⟨w.heap.size, 9, none⟩) (HN.out.lt 0 rfl)).trans (HN.out.cell 0 9 rfl rfl), (hb.cell (p := ⟨w.heap.size, 10, none⟩) (HN.out.lt 0 rfl)).trans (HN.out.cell 0 10 rfl rfl), (hb.cell (p := ⟨w.heap.size, 11, none⟩) (HN.out.lt 0 rfl)).trans (HN.out.cell 0 11 rfl rfl), (hb.cell (p := ⟨w.heap.size, 12, none⟩) (HN.out.lt 0 rfl)).trans (HN.out.cell 0 12 rfl rfl)⟩ : W.cell? ⟨w.heap.size, 0, none⟩ = some (.int .i64 1) ∧ W.cell? ⟨w.heap.size, 1, none⟩ = some (.int .i64 m1) ∧ W.cell? ⟨w.heap.size, 2, none⟩ = some (.int .i64 m2) ∧ W.cell? ⟨w.heap.size, 3, none⟩ = some (.string t1) ∧ W.cell? ⟨w.heap.size, 4, none⟩ = some (.string t2) ∧ W.cell? ⟨w.heap.size, 5, none⟩ = some (.int .i64 m3) ∧ W.cell? ⟨w.heap.size, 6, none⟩ = some (.int .i64 m4) ∧ W.cell? ⟨w.heap.size, 7, none⟩ = some (.int .i64 m5) ∧ W.cell? ⟨w.heap.size, 8, none⟩ = some (.int .i64 m6) ∧ W.cell? ⟨w.heap.size, 9, none⟩ = some (.bool qs) ∧ W.cell? ⟨w.heap.size, 10, none⟩ = some (.slice qa qn qc) ∧ W.cell? ⟨w.heap.size, 11, none⟩ = some (.slice qb qm qd) ∧ W.cell? ⟨w.heap.size, 12, none⟩ = some (.slice ea en ec)))
 clear hW0
 go_enter Tryz.func60, Tryz.ntmps60
 go_upto_region 1 with fail
 rw [← HW0.out]
 have HO := Lib.hid (PL.nil W0)
 go_cut [3] (fun v3 wx => ∃ p3 : Nat, v3 = .slice (some ⟨p3, 0, none⟩) 2 2 ∧ PL W0 (some ⟨p3, 0, none⟩) 2 2 [VP.num (1) 1 5, VP.tok t1] wx)
 case first =>
  replace HO := Lib.hid (show PL W0 none 0 0 [] W0.drew from HO.out.call (Below.drawn W0 1))
  refine wp_region_held_drew (S := fun W => W.cell? ⟨w.heap.size, 0, none⟩ = some (.int .i64 1) ∧ W.cell? ⟨w.heap.size, 1, none⟩ = some (.int .i64 m1) ∧ W.cell? ⟨w.heap.size, 2, none⟩ = some (.int .i64 m2) ∧ W.cell? ⟨w.heap.size, 3, none⟩ = some (.string t1) ∧ W.cell? ⟨w.heap.size, 4, none⟩ = some (.string t2) ∧ W.cell? ⟨w.heap.size, 5, none⟩ = some (.int .i64 m3) ∧ W.cell? ⟨w.heap.size, 6, none⟩ = some (.int .i64 m4) ∧ W.cell? ⟨w.heap.size, 7, none⟩ = some (.int .i64 m5) ∧ W.cell? ⟨w.heap.size, 8, none⟩ = some (.int .i64 m6) ∧ W.cell? ⟨w.heap.size, 9, none⟩ = some (.bool qs) ∧ W.cell? ⟨w.heap.size, 10, none⟩ = some (.slice qa qn qc) ∧ W.cell? ⟨w.heap.size, 11, none⟩ = some (.slice qb qm qd) ∧ W.cell? ⟨w.heap.size, 12, none⟩ = some (.slice ea en ec)) (by kernel_rfl) (HMX.out _ HO.out.bel) (fun hHeld => ?_)
  generalize W0.drew = wd at HO hHeld ⊢
  refine tm 0 (some 4) ?_
  refine tl 1 (some 5) ?_
  refine tm 3 (some 7) ?_
  refine tl 4 (some 8) ?_
  refine wpAnyH_ready (rs := [2]) (by kernel_rfl) (by simp) ?_
  refine (AllReadyH.cons (o := { dst := some 6, op := Op.call { callee := Callee.value (Operand.func 125), args := #[Operand.tmp 5, Operand.const (Value.int IntKind.i64 1), Operand.const (Value.int IntKind.i64 5)], argTypes := #[3, 3, 3] }, type := 152, pos := "ref.go:70", after := #[{ on := 1, ground := Ground.data }], guard := none }) rfl (fun K hK => ?_) AllReadyH.nil)
  go_simp
  refine (f27num (1) 1 5 _).mono ?_
  rintro e wd ⟨rfl, hb⟩
  replace HO := Lib.hid (HO.out.call hb)
  clear hb
  go_wp2_with fail
  refine hK.out _ _ (HMX.out _ HO.out.bel) (fun hHeld2 => ?_)
  clear hK K hHeld
  rename _ => hHeld
  try simp only [Act.put, stB, stZ, stS]
  refine wpAnyH_ready (rs := [5]) (by kernel_rfl) (by simp) ?_
  refine (AllReadyH.cons (o := { dst := some 9, op := Op.call { callee := Callee.value (Operand.func 126), args := #[Operand.tmp 8], argTypes := #[9] }, type := 152, pos := "ref.go:70", after := #[{ on := 4, ground := Ground.data }, { on := 2, ground := Ground.chain }], guard := none }) rfl (fun K hK => ?_) AllReadyH.nil)
  go_simp
  refine (f27tok t1 _).mono ?_
  rintro e wd ⟨rfl, hb⟩
  replace HO := Lib.hid (HO.out.call hb)
  clear hb
  go_wp2_with fail
  refine hK.out _ _ (HMX.out _ HO.out.bel) (fun hHeld2 => ?_)
  clear hK K hHeld
  rename _ => hHeld
  try simp only [Act.put, stB, stZ, stS]
  refine wpAnyH_ready (rs := [6]) (by kernel_rfl) (by simp) ?_
  refine (AllReadyH.cons (o := { dst := some 10, op := Op.buildSlice 147 2 #[(0, Operand.tmp 6), (1, Operand.tmp 9)], type := 147, pos := "ref.go:70", after := #[{ on := 2, ground := Ground.data }, { on := 5, ground := Ground.data }], guard := none }) rfl (fun K hK => ?_) AllReadyH.nil)
  go_simp
  refine hK.out _ _ (HMX.out _ (bthen HO.out.bel (belowBox _ (.cells #[.int .i64 1, .int .i64 1, .int .i64 5, .int .i64 1, .string ⟨#[]⟩, .bool false, .slice none 0 0, .slice none 0 0, .int .i64 3, .int .i64 0, .int .i64 0, .int .i64 0, .string t1, .bool false, .slice none 0 0, .slice none 0 0] 152)))) (fun hHeld2 => ?_)
  clear hK K hHeld
  rename _ => hHeld
  try simp only [Act.put, stB, stZ, stS]
  refine tm 7 (some 3) ?_
  refine wpAnyH_done (by kernel_rfl) ?_ _
  clear hHeld
  go_wp2_with fail
  go_meet
  exact ⟨_, rfl, HO.out.lit [VP.num (1) 1 5, VP.tok t1] 2 rfl rfl⟩
 case rest =>
  obtain ⟨w1, rfl⟩ : ∃ w1 : World, w1 = wc := ⟨_, rfl⟩
  obtain ⟨p3, rfl, ho⟩ := hcut
  replace HO := Lib.hid ho
  clear ho
  have ⟨k0, k1, k2, k3, k4, k5, k6, k7, k8, k9, k10, k11, k12⟩ := HMX.out _ HO.out.bel
  go_wp2_with fail
  clear k0 k1 k2 k3 k4 k5 k6 k7 k8 k9 k10 k11 k12
  refine (f27idn m1 _).mono ?_
  rintro e w2 ⟨rfl, hb⟩
  replace HO := Lib.hid (HO.out.call hb)
  clear hb
  have HS3 := Lib.hid (show Src Tryz.prog 8 147 (.slice (some ⟨w2.heap.size, 0, none⟩) 1 1) 1 ([VP.idn m1].flatMap VP.cells) (w2.alloc (.cells #[.int .i64 2, .int .i64 0, .int .i64 0, .int .i64 m1, .string ⟨#[]⟩, .bool false, .slice none 0 0, .slice none 0 0] 152)) from (Sl.lit w2 152 8 1 ([VP.idn m1].flatMap VP.cells) (by unfold maxLen; omega) rfl).src (P := Tryz.prog) Tryz.underlying147 (one_VP [VP.idn m1]))
  have HM3 := Lib.hid (HO.out.mid.alloc (.cells #[.int .i64 2, .int .i64 0, .int .i64 0, .int .i64 m1, .string ⟨#[]⟩, .bool false, .slice none 0 0, .slice none 0 0] 152))
  have HW3 := Lib.hid (Nat.le_trans HO.out.bel.size (belowBox w2 (.cells #[.int .i64 2, .int .i64 0, .int .i64 0, .int .i64 m1, .string ⟨#[]⟩, .bool false, .slice none 0 0, .slice none 0 0] 152)).size)
  go_wp2_with (at_builtin; refine wpList_append_mid (v := .slice (some ⟨p3, 0, none⟩) 2 2) rfl _ _ 147 147 rfl i0 (.agg #[.int .i64 0, .int .i64 0, .int .i64 0, .int .i64 0, .string ⟨#[]⟩, .bool false, .slice none 0 0, .slice none 0 0]) 104 Tryz.underlying147 hi hz0 hz1 hz2 rfl rfl HM3.out _ rfl 1 _ HS3.out (by unfold maxLen; omega) (by omega) HW3.out ?_; intro a3 c3 w3 hmo hgo hbo; have HP := Lib.hid (HO.out.push (ys := [VP.idn m1]) hmo hgo); clear hmo hgo hbo HM3 HW3 HS3 HO; have ⟨k0, k1, k2, k3, k4, k5, k6, k7, k8, k9, k10, k11, k12⟩ := HMX.out _ HP.out.bel; go_wp2_with fail)
  have HO := HP
  clear HP k0 k1 k2 k3 k4 k5 k6 k7 k8 k9 k10 k11 k12
  refine (HQS.out _ (bthen (belowBox w (.cells #[.int .i64 1, .int .i64 m1, .int .i64 m2, .string t1, .string t2, .int .i64 m3, .int .i64 m4, .int .i64 m5, .int .i64 m6, .bool qs, .slice qa qn qc, .slice qb qm qd, .slice ea en ec] 63)) (by rw [← HW0.out]; exact HO.out.bel))).mono ?_
  rintro e w4 ⟨aq, cq, rfl, hps, hb⟩
  replace HO := Lib.hid (HO.out.call hb)
  have hcq := hps.cap
  have HS3 := Lib.hid (hps.sl.src (P := Tryz.prog) Tryz.underlying147 (one_VP lq))
  have HLQ := Lib.hid hps.len
  have HM3 := Lib.hid HO.out.mid
  have HW3 := Lib.hid HO.out.bel.size
  clear hps hb
  have ⟨k0, k1, k2, k3, k4, k5, k6, k7, k8, k9, k10, k11, k12⟩ := HMX.out _ HO.out.bel
  go_wp2_with (at_builtin; refine wpList_append_mid (v := .slice a3 (2 + 1) c3) rfl _ _ 147 147 rfl i0 (.agg #[.int .i64 0, .int .i64 0, .int .i64 0, .int .i64 0, .string ⟨#[]⟩, .bool false, .slice none 0 0, .slice none 0 0]) 104 Tryz.underlying147 hi hz0 hz1 hz2 rfl rfl HM3.out _ rfl nq _ HS3.out (by unfold maxLen; omega) (by omega) HW3.out ?_; intro a4 c4 w9 hmo hgo hbo; have HP := Lib.hid (HO.out.push0 (ys := lq) hmo hgo); clear hmo hgo hbo HM3 HW3 HS3 HO k0 k1 k2 k3 k4 k5 k6 k7 k8 k9 k10 k11 k12; have ⟨k0, k1, k2, k3, k4, k5, k6, k7, k8, k9, k10, k11, k12⟩ := HMX.out _ HP.out.bel; go_wp2_with fail)
  go_ret
  exact ⟨_, _, rfl, HP.out.psw HOK.out (by rw [List.length_append, HLQ.out]; rfl) (by rw [HW0.out]; exact belowBox _ _), bthen (belowBox w (.cells #[.int .i64 1, .int .i64 m1, .int .i64 m2, .string t1, .string t2, .int .i64 m3, .int .i64 m4, .int .i64 m5, .int .i64 m6, .bool qs, .slice qa qn qc, .slice qb qm qd, .slice ea en ec] 63)) (by rw [← HW0.out]; exact HP.out.bel)⟩
structure RefM where
 verb : Int
 ses : Int
 rig : Int
 tk : ByteArray
 ot : ByteArray
 op : Int
 row : Int
 col : Int
 kind : Int
 q : Rat
 qs : Bool
 qa : Option Addr
 qn : Nat
 qc : Nat
 qb : Option Addr
 qm : Nat
 qd : Nat
 ea : Option Addr
 en : Nat
 ec : Nat
 vs : List VE
def RefM.cells (x : RefM) : List Value := [.int .i64 x.verb, .int .i64 x.ses, .int .i64 x.rig, .string x.tk, .string x.ot, .int .i64 x.op, .int .i64 x.row, .int .i64 x.col, .int .i64 x.kind, .bool x.qs, .slice x.qa x.qn x.qc, .slice x.qb x.qm x.qd, .slice x.ea x.en x.ec]
def RefM.ask (x : RefM) : Qst := ⟨x.op, x.row, x.col, x.kind, x.q, x.vs.map VE.ent⟩
def RefM.msg (x : RefM) : Msg := ⟨x.verb, natB x.tk, x.ses, x.rig, natB x.ot, x.ask⟩
def RefM.v (x : RefM) : VP := VP.rat x.q x.qs x.qa x.qn x.qc x.qb x.qm x.qd
structure RefM.ok (w : World) (x : RefM) : Prop where
 v : x.v.ok w
 es : EsR w x.ea x.en x.ec x.vs
 ev : ∀ e, e ∈ x.vs → (VP.rat e.q e.s e.a e.n e.c e.b e.m e.d).ok w
 en : x.en ≤ 400
theorem RefM.ok.below {w w' : World} {x : RefM} (h : x.ok w) (hb : Below w.heap.size w w') : x.ok w' := ⟨VP.ok.below h.v hb, h.es.below hb, fun e he => VP.ok.below (h.ev e he) hb, h.en⟩
def RefM.qps (x : RefM) : List VP :=
 if x.op = 1 then VP.num 1 1 12 :: VP.num x.kind 0 3 :: x.v :: VP.num x.en 0 64 :: x.vs.flatMap VE.two
 else if x.op = 2 then VP.num 2 1 12 :: x.v :: VP.num x.en 0 64 :: x.vs.flatMap VE.two
 else if x.op = 5 then [VP.num 5 1 12, VP.idn x.row, VP.idn x.col, x.v]
 else if x.op = 7 then [VP.num 7 1 12, VP.idn x.col, x.v]
 else if x.op = 6 then [VP.num 6 1 12, VP.idn x.row, x.v]
 else if x.op = 8 then [VP.num 8 1 12, VP.num x.kind 0 3, VP.idn x.row]
 else if x.op = 3 then [VP.num 3 1 12, VP.idn x.row]
 else if x.op = 11 then [VP.num 11 1 12, VP.idn x.row]
 else if x.op = 4 then [VP.num 4 1 12, VP.idn x.col]
 else if x.op = 10 then [VP.num 10 1 12, VP.idn x.col]
 else [VP.num x.op 1 12]
def RefM.ps (x : RefM) : List VP :=
 if x.verb = 1 then VP.num 1 1 5 :: VP.tok x.tk :: VP.idn x.ses :: x.qps
 else if x.verb = 3 then [VP.num 3 1 5, VP.tok x.tk, VP.idn x.ses]
 else if x.verb = 4 then [VP.num 4 1 5, VP.tok x.tk, VP.num x.rig 0 255]
 else if x.verb = 5 then [VP.num 5 1 5, VP.tok x.tk, VP.tok x.ot]
 else [VP.num x.verb 1 5, VP.tok x.tk]
theorem two_prt (l : List VE) : (l.flatMap VE.two).map VP.prt = (l.map VE.ent).flatMap partE := by
 induction l with
 | nil => rfl
 | cons e l ih => rw [List.flatMap_cons, List.map_append, ih, List.map_cons, List.flatMap_cons]; rfl
theorem qps_prt (x : RefM) (hl : x.vs.length = x.en) : x.qps.map VP.prt = partsQ x.ask := by
 have hE : partsE (x.vs.map VE.ent) = .num x.en 0 64 :: (x.vs.flatMap VE.two).map VP.prt := by
  unfold partsE
  rw [two_prt, List.length_map, hl]
 unfold RefM.qps partsQ RefM.ask
 simp only
 rw [hE]
 by_cases h1 : x.op = 1
 ·
  rw [if_pos h1, if_pos h1, h1]; rfl
 rw [if_neg h1, if_neg h1]
 by_cases h2 : x.op = 2
 ·
  rw [if_pos h2, if_pos h2, h2]; rfl
 rw [if_neg h2, if_neg h2]
 by_cases h5 : x.op = 5
 ·
  rw [if_pos h5, if_pos h5, h5]; rfl
 rw [if_neg h5, if_neg h5]
 by_cases h7 : x.op = 7
 ·
  rw [if_pos h7, if_pos h7, h7]; rfl
 rw [if_neg h7, if_neg h7]
 by_cases h6 : x.op = 6
 ·
  rw [if_pos h6, if_pos h6, h6]; rfl
 rw [if_neg h6, if_neg h6]
 by_cases h8 : x.op = 8
 ·
  rw [if_pos h8, if_pos h8, h8]; rfl
 rw [if_neg h8, if_neg h8]
 by_cases h3 : x.op = 3
 ·
  rw [if_pos h3, if_pos (.inl h3), h3]; rfl
 rw [if_neg h3]
 by_cases h11 : x.op = 11
 ·
  rw [if_pos h11, if_pos (.inr h11), h11]; rfl
 rw [if_neg h11, if_neg (show ¬ (x.op = 3 ∨ x.op = 11) by rintro (h | h); exact h3 h; exact h11 h)]
 by_cases h4 : x.op = 4
 ·
  rw [if_pos h4, if_pos (.inl h4), h4]; rfl
 rw [if_neg h4]
 by_cases h10 : x.op = 10
 ·
  rw [if_pos h10, if_pos (.inr h10), h10]; rfl
 rw [if_neg h10, if_neg (show ¬ (x.op = 4 ∨ x.op = 10) by rintro (h | h); exact h4 h; exact h10 h)]
 rfl
theorem ps_prt (x : RefM) (hl : x.vs.length = x.en) : x.ps.map VP.prt = partsM x.msg := by
 have hQ := qps_prt x hl
 unfold RefM.ps partsM RefM.msg
 simp only
 by_cases h1 : x.verb = 1
 ·
  rw [if_pos h1, if_pos h1, h1, ← hQ]; rfl
 rw [if_neg h1, if_neg h1]
 by_cases h3 : x.verb = 3
 ·
  rw [if_pos h3, if_pos h3, h3]; rfl
 rw [if_neg h3, if_neg h3]
 by_cases h4 : x.verb = 4
 ·
  rw [if_pos h4, if_pos h4, h4]; rfl
 rw [if_neg h4, if_neg h4]
 by_cases h5 : x.verb = 5
 ·
  rw [if_pos h5, if_pos h5, h5]; rfl
 rw [if_neg h5, if_neg h5]
 rfl
theorem two_ok {x : RefM} {W : World} (h : x.ok W) : ∀ p, p ∈ x.vs.flatMap VE.two → p.ok W := fun p hp => by
 obtain ⟨e, he, hp⟩ := List.mem_flatMap.1 hp
 simp only [VE.two, List.mem_cons, List.not_mem_nil, or_false] at hp
 rcases hp with rfl | rfl
 ·
  trivial
 ·
  exact h.ev e he
theorem qps_ok (x : RefM) (W : World) (h : x.ok W) : ∀ p, p ∈ x.qps → p.ok W := by
 have h0 : ∀ p, p ∈ ([] : List VP) → p.ok W := fun p h => (by cases h)
 have hT := two_ok h
 have hv := h.v
 unfold RefM.qps
 repeat' split
 all_goals first
  | exact List.forall_mem_cons.2 ⟨trivial, List.forall_mem_cons.2 ⟨trivial, List.forall_mem_cons.2 ⟨hv, List.forall_mem_cons.2 ⟨trivial, hT⟩⟩⟩⟩
  | exact List.forall_mem_cons.2 ⟨trivial, List.forall_mem_cons.2 ⟨hv, List.forall_mem_cons.2 ⟨trivial, hT⟩⟩⟩
  | exact List.forall_mem_cons.2 ⟨trivial, List.forall_mem_cons.2 ⟨trivial, List.forall_mem_cons.2 ⟨trivial, List.forall_mem_cons.2 ⟨hv, h0⟩⟩⟩⟩
  | exact List.forall_mem_cons.2 ⟨trivial, List.forall_mem_cons.2 ⟨trivial, List.forall_mem_cons.2 ⟨hv, h0⟩⟩⟩
  | exact List.forall_mem_cons.2 ⟨trivial, List.forall_mem_cons.2 ⟨trivial, List.forall_mem_cons.2 ⟨trivial, h0⟩⟩⟩
  | exact List.forall_mem_cons.2 ⟨trivial, List.forall_mem_cons.2 ⟨trivial, h0⟩⟩
  | exact List.forall_mem_cons.2 ⟨trivial, h0⟩
theorem qps_len (x : RefM) (hl : x.vs.length = x.en) : x.qps.length ≤ 2 * x.en + 4 := by
 have h := two_len x.vs
 unfold RefM.qps
 repeat' split
 all_goals simp only [List.length_cons, List.length_nil, h]
 all_goals omega
theorem ps_len (x : RefM) (hl : x.vs.length = x.en) : x.ps.length ≤ 2 * x.en + 8 := by
 have h := qps_len x hl
 unfold RefM.ps
 repeat' split
 all_goals simp only [List.length_cons, List.length_nil]
 all_goals omega
theorem f27qst (x : RefM) (w : World) (h : x.ok w) : Calls Tryz.prog 128 #[.agg x.cells.toArray] w fun e w' => ∃ a c, e = .returned (.slice a x.qps.length c) ∧ PSW w' a x.qps.length c x.qps ∧ Below w.heap.size w w' := by
 have hok := Lib.hid fun (W : World) (hb : Below w.heap.size w W) => qps_ok x W (h.below hb)
 have hes := Lib.hid h.es
 have hcap := h.es.cap
 have hen := h.en
 have hl := two_len x.vs
 rw [h.es.len] at hl
 obtain ⟨verb, ses, rig, tk, ot, op, row, col, kind, q, qs, qa, qn, qc, qb, qm, qd, ea, en, ec, vs⟩ := x
 unfold RefM.qps at hok ⊢
 unfold RefM.cells
 unfold RefM.v at hok ⊢
 simp only at hok hes hcap hen hl ⊢
 by_cases h1 : op = 1
 ·
  subst h1
  rw [if_pos rfl] at hok ⊢
  have hr := f27qst_1 verb ses rig row col kind tk ot q qs qa qb ea qn qc qm qd en ec vs w (by omega) hes hcap hok
  refine hr.mono fun e w' hh => ?_
  obtain ⟨a, c, he, hp, hb⟩ := hh
  rw [← hp.len] at he hp
  exact ⟨a, c, he, hp, hb⟩
 rw [if_neg h1] at hok ⊢
 by_cases h2 : op = 2
 ·
  subst h2
  rw [if_pos rfl] at hok ⊢
  have hr := f27qst_2 verb ses rig row col kind tk ot q qs qa qb ea qn qc qm qd en ec vs w (by omega) hes hcap hok
  refine hr.mono fun e w' hh => ?_
  obtain ⟨a, c, he, hp, hb⟩ := hh
  rw [← hp.len] at he hp
  exact ⟨a, c, he, hp, hb⟩
 rw [if_neg h2] at hok ⊢
 by_cases h5 : op = 5
 ·
  subst h5
  rw [if_pos rfl] at hok ⊢
  exact f27qst_5 verb ses rig row col kind tk ot q qs qa qb ea qn qc qm qd en ec w hok
 rw [if_neg h5] at hok ⊢
 by_cases h7 : op = 7
 ·
  subst h7
  rw [if_pos rfl] at hok ⊢
  exact f27qst_7 verb ses rig row col kind tk ot q qs qa qb ea qn qc qm qd en ec w hok
 rw [if_neg h7] at hok ⊢
 by_cases h6 : op = 6
 ·
  subst h6
  rw [if_pos rfl] at hok ⊢
  exact f27qst_6 verb ses rig row col kind tk ot q qs qa qb ea qn qc qm qd en ec w hok
 rw [if_neg h6] at hok ⊢
 by_cases h8 : op = 8
 ·
  subst h8
  rw [if_pos rfl] at hok ⊢
  exact f27qst_8 verb ses rig row col kind tk ot q qs qa qb ea qn qc qm qd en ec w hok
 rw [if_neg h8] at hok ⊢
 by_cases h3 : op = 3
 ·
  subst h3
  rw [if_pos rfl] at hok ⊢
  exact f27qst_3 verb ses rig row col kind tk ot q qs qa qb ea qn qc qm qd en ec w hok
 rw [if_neg h3] at hok ⊢
 by_cases h11 : op = 11
 ·
  subst h11
  rw [if_pos rfl] at hok ⊢
  exact f27qst_11 verb ses rig row col kind tk ot q qs qa qb ea qn qc qm qd en ec w hok
 rw [if_neg h11] at hok ⊢
 by_cases h4 : op = 4
 ·
  subst h4
  rw [if_pos rfl] at hok ⊢
  exact f27qst_4 verb ses rig row col kind tk ot q qs qa qb ea qn qc qm qd en ec w hok
 rw [if_neg h4] at hok ⊢
 by_cases h10 : op = 10
 ·
  subst h10
  rw [if_pos rfl] at hok ⊢
  exact f27qst_10 verb ses rig row col kind tk ot q qs qa qb ea qn qc qm qd en ec w hok
 rw [if_neg h10] at hok ⊢
 exact f27qst_0 verb ses rig op row col kind tk ot qs qa qb ea qn qc qm qd en ec w (beq_eq_false_iff_ne.2 h1) (beq_eq_false_iff_ne.2 h2) (beq_eq_false_iff_ne.2 h5) (beq_eq_false_iff_ne.2 h7) (beq_eq_false_iff_ne.2 h6) (beq_eq_false_iff_ne.2 h8) (beq_eq_false_iff_ne.2 h3) (beq_eq_false_iff_ne.2 h11) (beq_eq_false_iff_ne.2 h4) (beq_eq_false_iff_ne.2 h10) hok
theorem f27parts (x : RefM) (w : World) (h : x.ok w) : Calls Tryz.prog 60 #[.agg x.cells.toArray] w fun e w' => ∃ a c, e = .returned (.slice a x.ps.length c) ∧ PSW w' a x.ps.length c x.ps ∧ Below w.heap.size w w' := by
 have hq := Lib.hid fun (W : World) (hb : Below w.heap.size w W) => f27qst x W (h.below hb)
 have hqo := fun (W : World) (hb : Below w.heap.size w W) => qps_ok x W (h.below hb)
 have hql := qps_len x h.es.len
 have hen := h.en
 have h0 : ∀ W p, p ∈ ([] : List VP) → p.ok W := fun W p h => (by cases h)
 obtain ⟨lq, hlq⟩ : ∃ lq, x.qps = lq := ⟨_, rfl⟩
 obtain ⟨verb, ses, rig, tk, ot, op, row, col, kind, q, qs, qa, qn, qc, qb, qm, qd, ea, en, ec, vs⟩ := x
 unfold RefM.ps
 unfold RefM.cells at hq ⊢
 rw [hlq] at hq hqo hql ⊢
 simp only at hq hql hen ⊢
 by_cases h1 : verb = 1
 ·
  subst h1
  rw [if_pos rfl]
  have hr := f27parts_1 ses rig op row col kind tk ot qs qa qb ea qn qc qm qd en ec w lq.length lq (by omega) hq (Lib.hid fun W hb => List.forall_mem_cons.2 ⟨trivial, List.forall_mem_cons.2 ⟨trivial, List.forall_mem_cons.2 ⟨trivial, hqo W hb⟩⟩⟩)
  refine hr.mono fun e w' hh => ?_
  obtain ⟨a, c, he, hp, hb⟩ := hh
  rw [← hp.len] at he hp
  exact ⟨a, c, he, hp, hb⟩
 rw [if_neg h1]
 by_cases h3 : verb = 3
 ·
  subst h3
  rw [if_pos rfl]
  exact f27parts_3 ses rig op row col kind tk ot qs qa qb ea qn qc qm qd en ec w (Lib.hid fun W hb => List.forall_mem_cons.2 ⟨trivial, List.forall_mem_cons.2 ⟨trivial, List.forall_mem_cons.2 ⟨trivial, h0 W⟩⟩⟩)
 rw [if_neg h3]
 by_cases h4 : verb = 4
 ·
  subst h4
  rw [if_pos rfl]
  exact f27parts_4 ses rig op row col kind tk ot qs qa qb ea qn qc qm qd en ec w (Lib.hid fun W hb => List.forall_mem_cons.2 ⟨trivial, List.forall_mem_cons.2 ⟨trivial, List.forall_mem_cons.2 ⟨trivial, h0 W⟩⟩⟩)
 rw [if_neg h4]
 by_cases h5 : verb = 5
 ·
  subst h5
  rw [if_pos rfl]
  exact f27parts_5 ses rig op row col kind tk ot qs qa qb ea qn qc qm qd en ec w (Lib.hid fun W hb => List.forall_mem_cons.2 ⟨trivial, List.forall_mem_cons.2 ⟨trivial, List.forall_mem_cons.2 ⟨trivial, h0 W⟩⟩⟩)
 rw [if_neg h5]
 exact f27parts_0 verb ses rig op row col kind tk ot qs qa qb ea qn qc qm qd en ec w (beq_eq_false_iff_ne.2 h1) (beq_eq_false_iff_ne.2 h3) (beq_eq_false_iff_ne.2 h4) (beq_eq_false_iff_ne.2 h5) (Lib.hid fun W hb => List.forall_mem_cons.2 ⟨trivial, List.forall_mem_cons.2 ⟨trivial, h0 W⟩⟩)
theorem f27encode (x : RefM) (w : World) (h : x.ok w) : Calls Tryz.prog 20 #[.agg x.cells.toArray] w (RetEN (encM x.msg) w) := by
 have hp := Lib.hid fun (W : World) (hb : Below w.heap.size w W) => f27parts x W (h.below hb)
 have hl := ps_len x h.es.len
 have hen := h.en
 have hm := ps_prt x h.es.len
 unfold encM
 rw [← hm]
 obtain ⟨lp, hlp⟩ : ∃ lp, x.ps = lp := ⟨_, rfl⟩
 obtain ⟨verb, ses, rig, tk, ot, op, row, col, kind, q, qs, qa, qn, qc, qb, qm, qd, ea, en, ec, vs⟩ := x
 rw [hlp] at hp hl ⊢
 unfold RefM.cells at hp ⊢
 simp only at hp hl hen ⊢
 exact f27enc verb ses rig op row col kind tk ot qs qa qb ea qn qc qm qd en ec lp.length lp w (by omega) hp
end Go.Proofs.YtmhainidincjhaaGreatDoor
