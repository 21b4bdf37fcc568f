/-
 What the laws stand on, part Rf: contracts and plain laws of FRow, FRef27, FShort; the conditions are each law's own.
-/
import Derived.Test.YtmhainidincjhaaGreatDoorYRe
import Derived.Test.YtmhainidincjhaaGreatDoorYU
set_option linter.unusedVariables false
set_option linter.unusedSimpArgs false
set_option maxRecDepth 100000
set_option maxHeartbeats 16000000
namespace Go.Proofs.YtmhainidincjhaaGreatDoor
open Go.RowKit Go.Extern.Stop Go.Stop Go.Extern
def Off (k : Option Nat) (a : Option Addr) (n : Nat) : Prop := 0 < n → ∀ b o, a = some ⟨b, o, none⟩ → some b ≠ k
theorem Off.own {W : World} {k : Option Nat} {a : Option Addr} {n c : Nat} (h : OwnS W a n c) (hk : ∀ r, k = some r → r < W.heap.size) : Off k a n := fun _ b o ha e => by
 subst ha
 have h1 := h b rfl
 have h2 := hk b e.symm
 omega
theorem DW.kept {W W' : World} {k : Option Nat} {a : Option Addr} {n c y : Nat} (h : DW W a n c y) (ho : Off k a n) (hg : W.grownBy W' k) : DW W' a n c y := by
 rcases Nat.eq_zero_or_pos n with h0 | h0
 ·
  subst h0
  obtain ⟨a', c', e, h1, h2, h3⟩ := Sl.len h
  cases e
  exact ⟨h.1, .inl ⟨_, _, rfl, rfl, h2, h3⟩⟩
 ·
  obtain ⟨b, o, c', e, h1, h2, h3, h4⟩ := Sl.plain h h0
  cases e
  refine ⟨h.1, .inr ⟨b, o, c, rfl, h1, h2, Nat.lt_of_lt_of_le h3 hg.size, fun j u hj => ?_⟩⟩
  rw [show W'.cell? ⟨b, o + j, none⟩ = W.cell? ⟨b, o + j, none⟩ by simp only [World.cell?, hg.block b h3 (ho h0 b o rfl)]]
  exact h4 j u hj
theorem DW.new {W : World} {a : Option Addr} {n c y z : Nat} (h : DW W a n c y) (hz : W.heap.size ≤ z) : Off (some z) a n := fun h0 b o ha e => by
 obtain ⟨b', o', c', e', _, _, h3, _⟩ := Sl.plain h h0
 cases e'
 cases ha
 cases e
 omega
def noughtV : Value → Bool
 | .int .i64 x => x == 0
 | _ => true
theorem RD.offz {w W : World} {bs : List Bk} {ns : List Nm} {a : Option Addr} {n c y : Nat} (h : RD W a n c y) (hb : BS w bs ns W) (i : Nat) {b : Bk} (hi : bs[i]? = some b) (hz : b.cs.all noughtV = true) : Off (some b.p) a n := fun h0 b' o ha e => by
 obtain ⟨b2, o2, c', e', _, _, hlt, hc⟩ := Sl.plain h.2 h0
 cases e'
 cases ha
 injection e with e
 subst e
 have hat := hb.at i hi
 have top := hc (n - 1) (IN (y / 65536 ^ (n - 1) % 65536)) (by rw [List.getElem?_map, dgs_at (by omega)]; rfl)
 have hy : y / 65536 ^ (n - 1) % 65536 ≠ 0 := fun hz => by
  have h1 := lt_nd y
  rw [← h.1] at h1
  obtain ⟨k, rfl⟩ : ∃ k, n = k + 1 := ⟨n - 1, by omega⟩
  have h2 := nd_le (lt_less h1 (by simpa using hz))
  have h3 := h.1
  omega
 by_cases hj : o + (n - 1) < b.cs.length
 ·
  have c0 := hb.cell i (o + (n - 1)) hi (List.getElem?_eq_getElem hj)
  rw [c0] at top
  injection top with top
  have hm := List.all_eq_true.1 hz _ (List.getElem_mem hj)
  rw [top] at hm
  unfold noughtV at hm
  have hm2 := of_decide_eq_true (p := ((y / 65536 ^ (n - 1) % 65536 : Nat) : Int) = 0) (by simpa using hm)
  exact hy (by omega)
 ·
  simp only [World.cell?, hat] at top
  rw [show b.cs.toArray[o + (n - 1)]? = none from by simp; omega] at top
  cases top
structure EvR (k : Option Nat) (W : World) (v : VE) : Prop where
 ok : (VP.rat v.q v.s v.a v.n v.c v.b v.m v.d).ok W
 na : Off k v.a v.n
 nb : Off k v.b v.m
section
variable {w W W' : World} {k k' : Option Nat} {v : VE} {bs : List Bk} {ns : List Nm}
theorem EvR.none (h : EvR k W v) : EvR Option.none W v := ⟨h.ok, (fun _ _ _ _ e => by cases e), (fun _ _ _ _ e => by cases e)⟩
theorem EvR.below (h : EvR k W v) (hb : Below W.heap.size W W') : EvR k W' v := ⟨VP.ok.below h.ok hb, h.na, h.nb⟩
theorem EvR.own {W0 : World} (h : EvR Option.none W v) (h1 : OwnS W0 v.a v.n v.c) (h2 : OwnS W0 v.b v.m v.d) (hk : ∀ r, k = some r → r < W0.heap.size) : EvR k W v := ⟨h.ok, Off.own h1 hk, Off.own h2 hk⟩
theorem EvR.set (h : EvR k W v) (hb : BS w bs ns W) (i j : Nat) (u : Value) {b : Bk} {c0 : Value} (hi : bs[i]? = some b) (hj : b.cs[j]? = some c0) (hn : ∀ s, c0 ≠ .int .i64 s) : EvR k (W.setCell ⟨b.p, j, Option.none⟩ u) v :=
 ⟨⟨h.ok.1, h.ok.2.1.set hb i j u hi hj hn, h.ok.2.2⟩, h.na, h.nb⟩
theorem EvR.offz (h : EvR k W v) (hb : BS w bs ns W) (i : Nat) {b : Bk} (hi : bs[i]? = some b) (hz : b.cs.all noughtV = true) : EvR (some b.p) W v :=
 ⟨h.ok, h.ok.2.1.num.offz hb i hi hz, h.ok.2.1.den.offz hb i hi hz⟩
theorem DW.setoff {a : Option Addr} {n c y p : Nat} (h : DW W a n c y) (ho : Off (some p) a n) (j : Nat) (u : Value) : DW (W.setCell ⟨p, j, Option.none⟩ u) a n c y := by
 rcases Nat.eq_zero_or_pos n with h0 | h0
 ·
  subst h0
  obtain ⟨a', c', e, h1, h2, h3⟩ := Sl.len h
  cases e
  exact ⟨h.1, .inl ⟨_, _, rfl, rfl, h2, h3⟩⟩
 ·
  obtain ⟨b, o, c', e, h1, h2, h3, h4⟩ := Sl.plain h h0
  cases e
  refine ⟨h.1, .inr ⟨b, o, c, rfl, h1, h2, by simpa using h3, fun i u2 hi => ?_⟩⟩
  rw [World.cell?_setCell_other]
  ·
   exact h4 i u2 hi
  ·
   intro e2
   injection e2 with e2
   exact ho h0 b o rfl (by rw [e2])
theorem EvR.setP {p : Nat} (h : EvR (some p) W v) (j : Nat) (u : Value) : EvR (some p) (W.setCell ⟨p, j, Option.none⟩ u) v :=
 ⟨⟨h.ok.1, ⟨⟨h.ok.2.1.num.1, DW.setoff h.ok.2.1.num.2 h.na j u⟩, ⟨h.ok.2.1.den.1, DW.setoff h.ok.2.1.den.2 h.nb j u⟩⟩, h.ok.2.2⟩, h.na, h.nb⟩
theorem EvR.push {W6 : World} {ob : Obj} (h : EvR k W v) (hg : (W.alloc ob).grownBy W6 k) (hk : k' = k ∨ k' = some (W.alloc ob).heap.size) : EvR k' W6 v := by
 have h1 := h.below (belowBox W ob)
 have hw : W.heap.size ≤ (W.alloc ob).heap.size := (belowBox W ob).size
 refine ⟨⟨h1.ok.1, ⟨⟨h1.ok.2.1.num.1, DW.kept h1.ok.2.1.num.2 h.na hg⟩, ⟨h1.ok.2.1.den.1, DW.kept h1.ok.2.1.den.2 h.nb hg⟩⟩, h1.ok.2.2⟩, ?_, ?_⟩
 ·
  rcases hk with rfl | rfl
  ·
   exact h.na
  ·
   exact DW.new h.ok.2.1.num.2 hw
 ·
  rcases hk with rfl | rfl
  ·
   exact h.nb
  ·
   exact DW.new h.ok.2.1.den.2 hw
end
theorem ref_ev {w W : World} (id : Int) (sg : Bool) (a b : Option Addr) (n c m d : Nat) (xs ys : List Nat) (h : PartW w a n c b m d xs ys) (hb : Below w.heap.size w W) :
  Calls Tryz.prog 27 #[.agg #[.bool sg, .slice a n c, .slice b m d]] W fun e w' => ∃ a8 n8 c8 b9 m9 d9, e = .returned (.agg #[.bool (decide ((ratG sg xs ys).num < 0)), .slice a8 n8 c8, .slice b9 m9 d9]) ∧
   (EvR none w' ⟨id, ratG sg xs ys, decide ((ratG sg xs ys).num < 0), a8, n8, c8, b9, m9, d9⟩ ∧ OwnS W a8 n8 c8 ∧ OwnS W b9 m9 d9) ∧ Below W.heap.size W w' :=
 (f8ref_own sg a b n c m d xs ys W (h.below hb)).mono fun e w' hh => by
  obtain ⟨a8, n8, c8, b9, m9, d9, he, h1, h2, h3, h4, h5⟩ := hh
  obtain ⟨hz1, hz2⟩ := h.size sg
  have e1 := h1.1
  have e2 := h2.1
  have l1 : nd (ratG sg xs ys).num.natAbs ≤ 4 * lenW (ratG sg xs ys).num.natAbs := nd_le (by rw [Nat.pow_mul]; exact lt_lenW _)
  have l2 : nd (ratG sg xs ys).den ≤ 4 * lenW (ratG sg xs ys).den := nd_le (by rw [Nat.pow_mul]; exact lt_lenW _)
  exact ⟨a8, n8, c8, b9, m9, d9, he, ⟨⟨⟨rfl, ⟨h1, h2⟩, by show n8 ≤ _; omega, by show m9 ≤ _; omega⟩, (fun _ _ _ _ e => by cases e), (fun _ _ _ _ e => by cases e)⟩, h3, h4⟩, h5⟩
theorem Tryz.infoREn : (Tryz.prog.info? 154).map (fun i => (i.zero, i.size, i.bytes)) = some (some (.agg #[.int .i64 0, .bool false, .slice none 0 0, .slice none 0 0]), 4, 64) := by kernel_rfl
theorem Tryz.underlyingREs : Tryz.prog.underlying 61 = some (.slice 154) := by kernel_rfl
theorem Tryz.infoRM : (Tryz.prog.info? 63).map (fun i => (i.zero, i.size, i.bytes)) = some (some (.agg #[.int .i64 0, .int .i64 0, .int .i64 0, .string ⟨#[]⟩, .string ⟨#[]⟩, .int .i64 0, .int .i64 0, .int .i64 0, .int .i64 0, .bool false, .slice none 0 0, .slice none 0 0, .slice none 0 0]), 13, 168) := by kernel_rfl
def RetRM (m : Msg) (w : World) (e : Ending) (w' : World) : Prop := ∃ x : RefM, e = .returned (.agg x.cells.toArray) ∧ x.ok w' ∧ x.msg = m ∧ Below w.heap.size w w'
theorem f27ref (x : RawV) (w : World) (h : RawW w x) (h400 : x.en ≤ 400) : Calls Tryz.prog 21 #[.agg #[.int .i64 x.verb, .int .i64 x.ses, .int .i64 x.rig, .string x.tk, .string x.ot, .int .i64 x.op, .int .i64 x.row, .int .i64 x.col, .int .i64 x.kind, .bool x.sg, .slice x.a x.n x.c, .slice x.b x.m x.d, .slice x.ea x.en x.ec]] w (RetRM x.msg w) := by
 obtain ⟨i0, hi, hz0, hz1, hz2⟩ := info_parts Tryz.infoREn
 obtain ⟨iR, hiR, _, hzR, _⟩ := info_parts Tryz.infoRM
 have HRW := Lib.hid h
 obtain ⟨qq, hq⟩ : ∃ q, ratG x.sg x.xs x.ys = q := ⟨_, rfl⟩
 have hrf := fun (W : World) (hb : Below w.heap.size w W) => ref_ev 0 x.sg x.a x.b x.n x.c x.m x.d x.xs x.ys h.p hb
 rw [hq] at hrf
 obtain ⟨qs, hqs⟩ : ∃ y, decide (qq.num < 0) = y := ⟨_, rfl⟩
 rw [hqs] at hrf
 have HRF := Lib.hid (fun (W : World) (hb : Below w.heap.size w W) => (hrf W hb).mono fun e w' hh => (by
  obtain ⟨a8, n8, c8, b9, m9, d9, he, h1, h2⟩ := hh
  exact ⟨a8, n8, c8, b9, m9, d9, he, h1.1, h2⟩ : ∃ a8 n8 c8 b9 m9 d9, e = .returned (.agg #[.bool qs, .slice a8 n8 c8, .slice b9 m9 d9]) ∧ EvR none w' (⟨0, qq, qs, a8, n8, c8, b9, m9, d9⟩ : VE) ∧ Below W.heap.size W w'))
 have HQQ := Lib.hid hq
 clear h hrf hqs hq
 obtain ⟨W0, hW0⟩ : ∃ W0, W0 = ((w.alloc (.cells #[.int .i64 x.verb, .int .i64 x.ses, .int .i64 x.rig, .string x.tk, .string x.ot, .int .i64 x.op, .int .i64 x.row, .int .i64 x.col, .int .i64 x.kind, .bool x.sg, .slice x.a x.n x.c, .slice x.b x.m x.d, .slice x.ea x.en x.ec] 29)).alloc (.cells #[.int .i64 0, .int .i64 0, .int .i64 0, .string ⟨#[]⟩, .string ⟨#[]⟩, .int .i64 0, .int .i64 0, .int .i64 0, .int .i64 0, .bool false, .slice none 0 0, .slice none 0 0, .slice none 0 0] 63)) := ⟨_, rfl⟩
 have hbs : BS w [⟨w.heap.size, 29, [.int .i64 x.verb, .int .i64 x.ses, .int .i64 x.rig, .string x.tk, .string x.ot, .int .i64 x.op, .int .i64 x.row, .int .i64 x.col, .int .i64 x.kind, .bool x.sg, .slice x.a x.n x.c, .slice x.b x.m x.d, .slice x.ea x.en x.ec]⟩, ⟨w.heap.size + 1, 63, [.int .i64 0, .int .i64 0, .int .i64 0, .string ⟨#[]⟩, .string ⟨#[]⟩, .int .i64 0, .int .i64 0, .int .i64 0, .int .i64 0, .bool false, .slice none 0 0, .slice none 0 0, .slice none 0 0]⟩] [] ((w.alloc (.cells #[.int .i64 x.verb, .int .i64 x.ses, .int .i64 x.rig, .string x.tk, .string x.ot, .int .i64 x.op, .int .i64 x.row, .int .i64 x.col, .int .i64 x.kind, .bool x.sg, .slice x.a x.n x.c, .slice x.b x.m x.d, .slice x.ea x.en x.ec] 29)).alloc (.cells #[.int .i64 0, .int .i64 0, .int .i64 0, .string ⟨#[]⟩, .string ⟨#[]⟩, .int .i64 0, .int .i64 0, .int .i64 0, .int .i64 0, .bool false, .slice none 0 0, .slice none 0 0, .slice none 0 0] 63)) :=
   (((BS.start w).alloc (p := w.heap.size) rfl 29 [.int .i64 x.verb, .int .i64 x.ses, .int .i64 x.rig, .string x.tk, .string x.ot, .int .i64 x.op, .int .i64 x.row, .int .i64 x.col, .int .i64 x.kind, .bool x.sg, .slice x.a x.n x.c, .slice x.b x.m x.d, .slice x.ea x.en x.ec] rfl).alloc (p := w.heap.size + 1) (by simp) 63 [.int .i64 0, .int .i64 0, .int .i64 0, .string ⟨#[]⟩, .string ⟨#[]⟩, .int .i64 0, .int .i64 0, .int .i64 0, .int .i64 0, .bool false, .slice none 0 0, .slice none 0 0, .slice none 0 0] rfl)
 rw [← hW0] at hbs
 have HW0 := Lib.hid hW0
 have HN := Lib.hid hbs
 clear hW0 hbs
 go_enter Tryz.func21, Tryz.ntmps21
 go_upto_region 1 with fail
 rw [← HW0.out]
 go_cut [3] (fun v3 wx => ∃ qp a8 n8 c8 b9 m9 d9, v3 = .pointer (some ⟨qp, 0, none⟩) ∧ BS w [⟨w.heap.size, 29, [.int .i64 x.verb, .int .i64 x.ses, .int .i64 x.rig, .string x.tk, .string x.ot, .int .i64 x.op, .int .i64 x.row, .int .i64 x.col, .int .i64 x.kind, .bool x.sg, .slice x.a x.n x.c, .slice x.b x.m x.d, .slice x.ea x.en x.ec]⟩, ⟨w.heap.size + 1, 63, [.int .i64 0, .int .i64 0, .int .i64 0, .string ⟨#[]⟩, .string ⟨#[]⟩, .int .i64 0, .int .i64 0, .int .i64 0, .int .i64 0, .bool false, .slice none 0 0, .slice none 0 0, .slice none 0 0]⟩, ⟨qp, 63, [.int .i64 x.verb, .int .i64 x.ses, .int .i64 x.rig, .string x.tk, .string x.ot, .int .i64 x.op, .int .i64 x.row, .int .i64 x.col, .int .i64 x.kind, .bool qs, .slice a8 n8 c8, .slice b9 m9 d9, .slice none 0 0]⟩] [] wx ∧ EvR none wx (⟨0, qq, qs, a8, n8, c8, b9, m9, d9⟩ : VE))
 case first =>
  replace HN := Lib.hid HN.out.drew
  refine wp_region_held_drew (S := fun W => W.cell? ⟨w.heap.size, 0, none⟩ = some (.int .i64 x.verb) ∧ W.cell? ⟨w.heap.size, 1, none⟩ = some (.int .i64 x.ses) ∧ W.cell? ⟨w.heap.size, 2, none⟩ = some (.int .i64 x.rig) ∧ W.cell? ⟨w.heap.size, 3, none⟩ = some (.string x.tk) ∧ W.cell? ⟨w.heap.size, 4, none⟩ = some (.string x.ot) ∧ W.cell? ⟨w.heap.size, 5, none⟩ = some (.int .i64 x.op) ∧ W.cell? ⟨w.heap.size, 6, none⟩ = some (.int .i64 x.row) ∧ W.cell? ⟨w.heap.size, 7, none⟩ = some (.int .i64 x.col) ∧ W.cell? ⟨w.heap.size, 8, none⟩ = some (.int .i64 x.kind) ∧ W.cell? ⟨w.heap.size, 9, none⟩ = some (.bool x.sg) ∧ W.cell? ⟨w.heap.size, 10, none⟩ = some (.slice x.a x.n x.c) ∧ W.cell? ⟨w.heap.size, 11, none⟩ = some (.slice x.b x.m x.d)) (by kernel_rfl) (⟨HN.out.cell 0 0 rfl rfl, HN.out.cell 0 1 rfl rfl, HN.out.cell 0 2 rfl rfl, HN.out.cell 0 3 rfl rfl, HN.out.cell 0 4 rfl rfl, HN.out.cell 0 5 rfl rfl, HN.out.cell 0 6 rfl rfl, HN.out.cell 0 7 rfl rfl, HN.out.cell 0 8 rfl rfl, HN.out.cell 0 9 rfl rfl, HN.out.cell 0 10 rfl rfl, HN.out.cell 0 11 rfl rfl⟩) (fun hHeld => ?_)
  generalize W0.drew = wd at HN hHeld ⊢
  refine tm 0 (some 5) ?_
  refine tl 1 (some 6) ?_
  refine tm 2 (some 7) ?_
  refine tl 3 (some 8) ?_
  refine tm 4 (some 9) ?_
  refine tl 5 (some 10) ?_
  refine tm 6 (some 11) ?_
  refine tl 7 (some 12) ?_
  refine tm 8 (some 13) ?_
  refine tl 9 (some 14) ?_
  refine tm 10 (some 15) ?_
  refine tl 11 (some 16) ?_
  refine tm 12 (some 17) ?_
  refine tl 13 (some 18) ?_
  refine tm 14 (some 19) ?_
  refine tl 15 (some 20) ?_
  refine tm 16 (some 21) ?_
  refine tl 17 (some 22) ?_
  refine tm 18 (some 23) ?_
  refine tl 19 (some 24) ?_
  have tg := Mk.mk (v := 0) (d := 0)
  iterate 3
   all_goals first
   |
    have _ : Mk _ 0 := tg
    refine wpAnyH_ready (rs := [20, 22]) (by kernel_rfl) (by simp) (AllReadyH.cons rfl (fun K hK => cT 0 1 fun tg => ?_) (AllReadyH.cons rfl (fun K hK => cT 1 2 fun tg => ?_) AllReadyH.nil))
   |
    have _ : Mk _ 1 := tg
    refine wpAnyH_ready (rs := [22]) (by kernel_rfl) (by simp) (AllReadyH.cons rfl (fun K hK => cT 2 3 fun tg => ?_) AllReadyH.nil)
   |
    have _ : Mk _ 2 := tg
    refine wpAnyH_ready (rs := [20]) (by kernel_rfl) (by simp) (AllReadyH.cons rfl (fun K hK => cT 0 3 fun tg => ?_) AllReadyH.nil)
   |
    have _ : Mk _ 3 := tg
    refine wpAnyH_ready (rs := [23]) (by kernel_rfl) (by simp) (AllReadyH.cons rfl (fun K hK => cT 3 4 fun tg => ?_) AllReadyH.nil)
   all_goals first
   |
    have _ : Mk 0 _ := tg
    go_simp
    refine (HRF.out _ HN.out.bel).mono ?_
    rintro e wd ⟨a8, n8, c8, b9, m9, d9, rfl, hf, hb⟩
    replace HN := Lib.hid (HN.out.call hb)
    have HQ := Lib.hid hf
    clear hf
    clear hb 
    go_wp2_with fail
    refine hK.out _ _ (⟨HN.out.cell 0 0 rfl rfl, HN.out.cell 0 1 rfl rfl, HN.out.cell 0 2 rfl rfl, HN.out.cell 0 3 rfl rfl, HN.out.cell 0 4 rfl rfl, HN.out.cell 0 5 rfl rfl, HN.out.cell 0 6 rfl rfl, HN.out.cell 0 7 rfl rfl, HN.out.cell 0 8 rfl rfl, HN.out.cell 0 9 rfl rfl, HN.out.cell 0 10 rfl rfl, HN.out.cell 0 11 rfl rfl⟩) (fun hHeld2 => ?_)
    clear hK K hHeld
    rename _ => hHeld
    try simp only [Act.put, stB, stZ, stS]
    refine tm 21 (some 26) ?_
   |
    have _ : Mk 1 _ := tg
    go_simp
    replace HN := Lib.hid (HN.out.alloc (p := wd.heap.size) rfl 63 [.int .i64 0, .int .i64 0, .int .i64 0, .string ⟨#[]⟩, .string ⟨#[]⟩, .int .i64 0, .int .i64 0, .int .i64 0, .int .i64 0, .bool false, .slice none 0 0, .slice none 0 0, .slice none 0 0] rfl)
    generalize wd.heap.size = p22_ at HN ⊢
    generalize wd.alloc (.cells #[.int .i64 0, .int .i64 0, .int .i64 0, .string ⟨#[]⟩, .string ⟨#[]⟩, .int .i64 0, .int .i64 0, .int .i64 0, .int .i64 0, .bool false, .slice none 0 0, .slice none 0 0, .slice none 0 0] 63) = wd at HN  ⊢
    refine hK.out _ _ (⟨HN.out.cell 0 0 rfl rfl, HN.out.cell 0 1 rfl rfl, HN.out.cell 0 2 rfl rfl, HN.out.cell 0 3 rfl rfl, HN.out.cell 0 4 rfl rfl, HN.out.cell 0 5 rfl rfl, HN.out.cell 0 6 rfl rfl, HN.out.cell 0 7 rfl rfl, HN.out.cell 0 8 rfl rfl, HN.out.cell 0 9 rfl rfl, HN.out.cell 0 10 rfl rfl, HN.out.cell 0 11 rfl rfl⟩) (fun hHeld2 => ?_)
    clear hK K hHeld
    rename _ => hHeld
    try simp only [Act.put, stB, stZ, stS]
   |
    have _ : Mk 2 _ := tg
    go_simp
    replace HN := Lib.hid (HN.out.alloc (p := wd.heap.size) rfl 63 [.int .i64 0, .int .i64 0, .int .i64 0, .string ⟨#[]⟩, .string ⟨#[]⟩, .int .i64 0, .int .i64 0, .int .i64 0, .int .i64 0, .bool false, .slice none 0 0, .slice none 0 0, .slice none 0 0] rfl)
    replace HQ := Lib.hid (show EvR none (wd.alloc (.cells #[.int .i64 0, .int .i64 0, .int .i64 0, .string ⟨#[]⟩, .string ⟨#[]⟩, .int .i64 0, .int .i64 0, .int .i64 0, .int .i64 0, .bool false, .slice none 0 0, .slice none 0 0, .slice none 0 0] 63)) (⟨0, qq, qs, a8, n8, c8, b9, m9, d9⟩ : VE) from HQ.out.below (belowBox _ _))
    generalize wd.heap.size = p22_ at HN ⊢
    generalize wd.alloc (.cells #[.int .i64 0, .int .i64 0, .int .i64 0, .string ⟨#[]⟩, .string ⟨#[]⟩, .int .i64 0, .int .i64 0, .int .i64 0, .int .i64 0, .bool false, .slice none 0 0, .slice none 0 0, .slice none 0 0] 63) = wd at HN HQ ⊢
    refine hK.out _ _ (⟨HN.out.cell 0 0 rfl rfl, HN.out.cell 0 1 rfl rfl, HN.out.cell 0 2 rfl rfl, HN.out.cell 0 3 rfl rfl, HN.out.cell 0 4 rfl rfl, HN.out.cell 0 5 rfl rfl, HN.out.cell 0 6 rfl rfl, HN.out.cell 0 7 rfl rfl, HN.out.cell 0 8 rfl rfl, HN.out.cell 0 9 rfl rfl, HN.out.cell 0 10 rfl rfl, HN.out.cell 0 11 rfl rfl⟩) (fun hHeld2 => ?_)
    clear hK K hHeld
    rename _ => hHeld
    try simp only [Act.put, stB, stZ, stS]
   |
    have _ : Mk 3 _ := tg
    have hc0 := HN.out.cell 2 0 rfl rfl
    have hf0 := HN.out.free 2 0 rfl
    have hc1 := HN.out.cell 2 1 rfl rfl
    have hf1 := HN.out.free 2 1 rfl
    have hc2 := HN.out.cell 2 2 rfl rfl
    have hf2 := HN.out.free 2 2 rfl
    have hc3 := HN.out.cell 2 3 rfl rfl
    have hf3 := HN.out.free 2 3 rfl
    have hc4 := HN.out.cell 2 4 rfl rfl
    have hf4 := HN.out.free 2 4 rfl
    have hc5 := HN.out.cell 2 5 rfl rfl
    have hf5 := HN.out.free 2 5 rfl
    have hc6 := HN.out.cell 2 6 rfl rfl
    have hf6 := HN.out.free 2 6 rfl
    have hc7 := HN.out.cell 2 7 rfl rfl
    have hf7 := HN.out.free 2 7 rfl
    have hc8 := HN.out.cell 2 8 rfl rfl
    have hf8 := HN.out.free 2 8 rfl
    have hc9 := HN.out.cell 2 9 rfl rfl
    have hf9 := HN.out.free 2 9 rfl
    have hc10 := HN.out.cell 2 10 rfl rfl
    have hf10 := HN.out.free 2 10 rfl
    have hc11 := HN.out.cell 2 11 rfl rfl
    have hf11 := HN.out.free 2 11 rfl
    have hc12 := HN.out.cell 2 12 rfl rfl
    have hf12 := HN.out.free 2 12 rfl
    go_simp
    clear hc0 hf0 hc1 hf1 hc2 hf2 hc3 hf3 hc4 hf4 hc5 hf5 hc6 hf6 hc7 hf7 hc8 hf8 hc9 hf9 hc10 hf10 hc11 hf11 hc12 hf12
    replace HQ := Lib.hid ((((((((((((((HQ.out.offz HN.out 2 rfl rfl).setP 0 (.int .i64 x.verb)).setP 1 (.int .i64 x.ses)).setP 2 (.int .i64 x.rig)).setP 3 (.string x.tk)).setP 4 (.string x.ot)).setP 5 (.int .i64 x.op)).setP 6 (.int .i64 x.row)).setP 7 (.int .i64 x.col)).setP 8 (.int .i64 x.kind)).setP 9 (.bool qs)).setP 10 (.slice a8 n8 c8)).setP 11 (.slice b9 m9 d9)).setP 12 (.slice none 0 0))
    replace HN := Lib.hid ((((((((((((((HN.out).set 2 0 rfl rfl (fun _ => by simp) (.int .i64 x.verb)).set 2 1 rfl rfl (fun _ => by simp) (.int .i64 x.ses)).set 2 2 rfl rfl (fun _ => by simp) (.int .i64 x.rig)).set 2 3 rfl rfl (fun _ => by simp) (.string x.tk)).set 2 4 rfl rfl (fun _ => by simp) (.string x.ot)).set 2 5 rfl rfl (fun _ => by simp) (.int .i64 x.op)).set 2 6 rfl rfl (fun _ => by simp) (.int .i64 x.row)).set 2 7 rfl rfl (fun _ => by simp) (.int .i64 x.col)).set 2 8 rfl rfl (fun _ => by simp) (.int .i64 x.kind)).set 2 9 rfl rfl (fun _ => by simp) (.bool qs)).set 2 10 rfl rfl (fun _ => by simp) (.slice a8 n8 c8)).set 2 11 rfl rfl (fun _ => by simp) (.slice b9 m9 d9)).set 2 12 rfl rfl (fun _ => by simp) (.slice none 0 0))
    generalize (((((((((((((wd.setCell ⟨p22_, 0, none⟩ (.int .i64 x.verb)).setCell ⟨p22_, 1, none⟩ (.int .i64 x.ses)).setCell ⟨p22_, 2, none⟩ (.int .i64 x.rig)).setCell ⟨p22_, 3, none⟩ (.string x.tk)).setCell ⟨p22_, 4, none⟩ (.string x.ot)).setCell ⟨p22_, 5, none⟩ (.int .i64 x.op)).setCell ⟨p22_, 6, none⟩ (.int .i64 x.row)).setCell ⟨p22_, 7, none⟩ (.int .i64 x.col)).setCell ⟨p22_, 8, none⟩ (.int .i64 x.kind)).setCell ⟨p22_, 9, none⟩ (.bool qs)).setCell ⟨p22_, 10, none⟩ (.slice a8 n8 c8)).setCell ⟨p22_, 11, none⟩ (.slice b9 m9 d9)).setCell ⟨p22_, 12, none⟩ (.slice none 0 0)) = wd at HN HQ ⊢
    refine hK.out _ _ (⟨HN.out.cell 0 0 rfl rfl, HN.out.cell 0 1 rfl rfl, HN.out.cell 0 2 rfl rfl, HN.out.cell 0 3 rfl rfl, HN.out.cell 0 4 rfl rfl, HN.out.cell 0 5 rfl rfl, HN.out.cell 0 6 rfl rfl, HN.out.cell 0 7 rfl rfl, HN.out.cell 0 8 rfl rfl, HN.out.cell 0 9 rfl rfl, HN.out.cell 0 10 rfl rfl, HN.out.cell 0 11 rfl rfl⟩) (fun hHeld2 => ?_)
    clear hK K hHeld
    rename _ => hHeld
    try simp only [Act.put, stB, stZ, stS]
  all_goals (refine wpAnyH_done (by kernel_rfl) ?_ _)
  all_goals
   go_wp2_with fail
   go_meet
   exact ⟨_, a8, n8, c8, b9, m9, d9, rfl, HN.out, HQ.out.none⟩
 case rest =>
  obtain ⟨w1, rfl⟩ : ∃ w1 : World, w1 = wc := ⟨_, rfl⟩
  obtain ⟨qp, a8, n8, c8, b9, m9, d9, rfl, hn0, hev⟩ := hcut
  have HN := Lib.hid hn0
  have HEV0 := Lib.hid hev
  clear hn0 hev
  go_wp2_with fail
  go_loopw [4] (fun v4 wr => ∃ (j : Nat) (a5 : Option Addr) (c5 : Nat) (vs : List VE), j ≤ x.en ∧ v4 = .int .i64 j ∧ vs.length = j ∧ vs.map VE.ent = (x.es.take j).map RawE.ent ∧ OB w [⟨w.heap.size, 29, [.int .i64 x.verb, .int .i64 x.ses, .int .i64 x.rig, .string x.tk, .string x.ot, .int .i64 x.op, .int .i64 x.row, .int .i64 x.col, .int .i64 x.kind, .bool x.sg, .slice x.a x.n x.c, .slice x.b x.m x.d, .slice x.ea x.en x.ec]⟩, ⟨w.heap.size + 1, 63, [.int .i64 0, .int .i64 0, .int .i64 0, .string ⟨#[]⟩, .string ⟨#[]⟩, .int .i64 0, .int .i64 0, .int .i64 0, .int .i64 0, .bool false, .slice none 0 0, .slice none 0 0, .slice none 0 0]⟩, ⟨qp, 63, [.int .i64 x.verb, .int .i64 x.ses, .int .i64 x.rig, .string x.tk, .string x.ot, .int .i64 x.op, .int .i64 x.row, .int .i64 x.col, .int .i64 x.kind, .bool qs, .slice a8 n8 c8, .slice b9 m9 d9, .slice a5 j c5]⟩] [] 154 4 a5 j c5 (vs.flatMap VE.cells) wr ∧ (∀ u, u ∈ (⟨0, qq, qs, a8, n8, c8, b9, m9, d9⟩ : VE) :: vs → EvR (Value.slice a5 j c5).ownBlock wr u)) (fun v4 _ => x.en - (intOf v4).toNat)
  case atStart => exact ⟨0, none, 0, [], Nat.zero_le _, rfl, rfl, rfl, OB.start HN.out, fun u hu => by rw [List.mem_singleton.1 hu]; exact HEV0.out⟩
  case round =>
   obtain ⟨j, a5, c5, vs, hj, rfl, hvl, hmp, hO, hev⟩ := hrel
   have HO := Lib.hid hO
   have HEV := Lib.hid hev
   have HVL := Lib.hid hvl
   have HMP := Lib.hid hmp
   clear hO hvl hmp hev HN HEV0
   have k012 := HO.out.st.cell 0 12 rfl rfl
   by_cases hlt : j < x.en
   ·
    obtain ⟨en, eb, eo, hx9, hea, hlt8, hnc, c0, c1, c2, c3, hpw⟩ := HRW.out.get j hlt
    have HX9 := Lib.hid hx9
    have HEN := Lib.hid (fun (W : World) (hb : Below w.heap.size w W) => (⟨(hb.cell (p := ⟨eb, eo + j * 4, none⟩) hlt8).trans c0, (hb.cell (p := ⟨eb, eo + j * 4 + 1, none⟩) hlt8).trans c1, (hb.cell (p := ⟨eb, eo + j * 4 + 2, none⟩) hlt8).trans c2, (hb.cell (p := ⟨eb, eo + j * 4 + 3, none⟩) hlt8).trans c3⟩ : W.cell? ⟨eb, eo + j * 4, none⟩ = some (.int .i64 en.id) ∧ W.cell? ⟨eb, eo + j * 4 + 1, none⟩ = some (.bool en.sg) ∧ W.cell? ⟨eb, eo + j * 4 + 2, none⟩ = some (.slice en.a en.n en.c) ∧ W.cell? ⟨eb, eo + j * 4 + 3, none⟩ = some (.slice en.b en.m en.d)))
    obtain ⟨q, hq⟩ : ∃ q, ratG en.sg en.xs en.ys = q := ⟨_, rfl⟩
    have hm8 := fun (W : World) (hb : Below w.heap.size w W) => ref_ev en.id en.sg en.a en.b en.n en.c en.m en.d en.xs en.ys hpw hb
    rw [hq] at hm8
    obtain ⟨rs, hrs⟩ : ∃ y, decide (q.num < 0) = y := ⟨_, rfl⟩
    rw [hrs] at hm8
    have HM8 := Lib.hid hm8
    have HQ9 := Lib.hid hq
    rw [hea] at HO k012
    clear c0 c1 c2 c3 hpw hm8 hq hx9 hlt8 hrs
    go_upto_region 5 with fail
    clear k012
    replace HO := Lib.hid (show OB w [⟨w.heap.size, 29, [.int .i64 x.verb, .int .i64 x.ses, .int .i64 x.rig, .string x.tk, .string x.ot, .int .i64 x.op, .int .i64 x.row, .int .i64 x.col, .int .i64 x.kind, .bool x.sg, .slice x.a x.n x.c, .slice x.b x.m x.d, .slice (some ⟨eb, eo, none⟩) x.en x.ec]⟩, ⟨w.heap.size + 1, 63, [.int .i64 0, .int .i64 0, .int .i64 0, .string ⟨#[]⟩, .string ⟨#[]⟩, .int .i64 0, .int .i64 0, .int .i64 0, .int .i64 0, .bool false, .slice none 0 0, .slice none 0 0, .slice none 0 0]⟩, ⟨qp, 63, [.int .i64 x.verb, .int .i64 x.ses, .int .i64 x.rig, .string x.tk, .string x.ot, .int .i64 x.op, .int .i64 x.row, .int .i64 x.col, .int .i64 x.kind, .bool qs, .slice a8 n8 c8, .slice b9 m9 d9, .slice a5 j c5]⟩] _ 154 4 a5 j c5 (vs.flatMap VE.cells) wr.drew from HO.out.call (Below.drawn wr 1))
    replace HEV := Lib.hid (show ∀ u, u ∈ (⟨0, qq, qs, a8, n8, c8, b9, m9, d9⟩ : VE) :: vs → EvR (Value.slice a5 j c5).ownBlock wr.drew u from fun u hu => (HEV.out u hu).below (Below.drawn wr 1))
    have HEA := Lib.hid hea
    clear hea
    refine wp_region_held_drew (S := fun W => W.cell? ⟨w.heap.size, 12, none⟩ = some (.slice (some ⟨eb, eo, none⟩) x.en x.ec) ∧ W.cell? ⟨eb, eo + j * 4, none⟩ = some (.int .i64 en.id) ∧ W.cell? ⟨eb, eo + j * 4 + 1, none⟩ = some (.bool en.sg) ∧ W.cell? ⟨eb, eo + j * 4 + 2, none⟩ = some (.slice en.a en.n en.c) ∧ W.cell? ⟨eb, eo + j * 4 + 3, none⟩ = some (.slice en.b en.m en.d)) (by kernel_rfl) (⟨HO.out.st.cell 0 12 rfl rfl, HEN.out _ HO.out.st.bel⟩) (fun hHeld => ?_)
    generalize wr.drew = wd at HO HEV hHeld ⊢
    refine tm 0 (some 34) ?_
    refine tm 2 (some 36) ?_
    refine tl 3 (some 37) ?_
    refine tm 4 (some 38) ?_
    refine tl 5 (some 39) ?_
    refine tm 6 (some 40) ?_
    refine tl 7 (some 41) ?_
    refine tm 8 (some 42) ?_
    refine tl 9 (some 43) ?_
    refine tm 10 (some 44) ?_
    refine tl 11 (some 45) ?_
    refine tm 12 (some 46) ?_
    refine tl 13 (some 47) ?_
    refine wpAnyH_ready (rs := [1, 14]) (by kernel_rfl) (by simp) ?_
    refine (AllReadyH.cons rfl (fun K hK => ?_) (AllReadyH.cons rfl (fun K hK => ?_) AllReadyH.nil))
    ·
     skip
     have k0 := HO.out.st.cell 2 12 rfl rfl
     go_simp
     clear k0
     refine hK.out _ _ (⟨HO.out.st.cell 0 12 rfl rfl, HEN.out _ HO.out.st.bel⟩) (fun hHeld2 => ?_)
     clear hK K hHeld
     rename _ => hHeld
     try simp only [Act.put, stB, stZ, stS]
     refine wpAnyH_ready (rs := [14]) (by kernel_rfl) (by simp) ?_
     refine (AllReadyH.cons rfl (fun K hK => ?_) AllReadyH.nil)
     go_simp
     have hk := fun r hr => (HO.out.mid.lt r hr).2
     refine (HM8.out _ HO.out.st.bel).mono ?_
     rintro e wd ⟨ra, rl, rc, rb, rm, rd, rfl, hq, hb⟩
     have HNE := Lib.hid (show EvR _ wd (⟨en.id, q, rs, ra, rl, rc, rb, rm, rd⟩ : VE) from hq.1.own hq.2.1 hq.2.2 hk)
     replace HEV := Lib.hid (show ∀ u, u ∈ (⟨0, qq, qs, a8, n8, c8, b9, m9, d9⟩ : VE) :: vs → EvR (Value.slice a5 j c5).ownBlock wd u from fun u hu => (HEV.out u hu).below hb)
     replace HO := Lib.hid (show OB w [⟨w.heap.size, 29, [.int .i64 x.verb, .int .i64 x.ses, .int .i64 x.rig, .string x.tk, .string x.ot, .int .i64 x.op, .int .i64 x.row, .int .i64 x.col, .int .i64 x.kind, .bool x.sg, .slice x.a x.n x.c, .slice x.b x.m x.d, .slice (some ⟨eb, eo, none⟩) x.en x.ec]⟩, ⟨w.heap.size + 1, 63, [.int .i64 0, .int .i64 0, .int .i64 0, .string ⟨#[]⟩, .string ⟨#[]⟩, .int .i64 0, .int .i64 0, .int .i64 0, .int .i64 0, .bool false, .slice none 0 0, .slice none 0 0, .slice none 0 0]⟩, ⟨qp, 63, [.int .i64 x.verb, .int .i64 x.ses, .int .i64 x.rig, .string x.tk, .string x.ot, .int .i64 x.op, .int .i64 x.row, .int .i64 x.col, .int .i64 x.kind, .bool qs, .slice a8 n8 c8, .slice b9 m9 d9, .slice a5 j c5]⟩] [] 154 4 a5 j c5 (vs.flatMap VE.cells) wd from HO.out.call hb)
     clear hb hq hk
     go_wp2_with fail
     refine hK.out _ _ (⟨HO.out.st.cell 0 12 rfl rfl, HEN.out _ HO.out.st.bel⟩) (fun hHeld2 => ?_)
     clear hK K hHeld
     rename _ => hHeld
     try simp only [Act.put, stB, stZ, stS]
     refine tm 15 (some 49) ?_
     refine wpAnyH_ready (rs := [16]) (by kernel_rfl) (by simp) ?_
     refine (AllReadyH.cons rfl (fun K hK => ?_) AllReadyH.nil)
     go_simp
     refine hK.out _ _ ((fun hb9 => ⟨(hb9.cell (p := ⟨w.heap.size, 12, none⟩) (HO.out.st.lt 0 rfl)).trans (HO.out.st.cell 0 12 rfl rfl), HEN.out _ (bthen HO.out.st.bel hb9)⟩) (belowBox _ (.cells #[.int .i64 en.id, .bool rs, .slice ra rl rc, .slice rb rm rd] 154))) (fun hHeld2 => ?_)
     clear hK K hHeld
     rename _ => hHeld
     try simp only [Act.put, stB, stZ, stS]
     refine wpAnyH_ready (rs := [17]) (by kernel_rfl) (by simp) ?_
     refine (AllReadyH.cons rfl (fun K hK => ?_) AllReadyH.nil)
     refine step_append_at (a0 := a5) (c0 := c5) rfl _ _ 61 61 rfl i0 (.agg #[.int .i64 0, .bool false, .slice none 0 0, .slice none 0 0]) 64 Tryz.underlyingREs hi hz0 hz1 hz2 rfl rfl (HO.out.mid.alloc (.cells #[.int .i64 en.id, .bool rs, .slice ra rl rc, .slice rb rm rd] 154)) _ rfl 1 [.int .i64 en.id, .bool rs, .slice ra rl rc, .slice rb rm rd] ((Sl.lit _ 154 4 1 [.int .i64 en.id, .bool rs, .slice ra rl rc, .slice rb rm rd] (by unfold maxLen; omega) rfl).src (P := Tryz.prog) Tryz.underlyingREs (by
      intro u hu
      simp only [List.mem_cons, List.not_mem_nil, or_false] at hu
      rcases hu with rfl | rfl | rfl | rfl <;> rfl)) (by unfold maxLen; omega) (by omega) (Nat.le_trans HO.out.st.bel.size (belowBox _ _).size) ?_
     intro a6 c6 w6 hmo hgo hbo hao
     have HO6 := Lib.hid (HO.out.push (by decide) (by omega) hmo hgo hbo hao)
     replace HO := HO6
     replace HEV := Lib.hid (show ∀ u, u ∈ (⟨0, qq, qs, a8, n8, c8, b9, m9, d9⟩ : VE) :: vs → EvR (Value.slice a6 (j + 1) c6).ownBlock w6 u from fun u hu => (HEV.out u hu).push hgo hbo)
     replace HNE := Lib.hid (show EvR (Value.slice a6 (j + 1) c6).ownBlock w6 (⟨en.id, q, rs, ra, rl, rc, rb, rm, rd⟩ : VE) from HNE.out.push hgo hbo)
     clear HO6 hmo hgo hbo hao
     refine hK.out _ _ (⟨HO.out.st.cell 0 12 rfl rfl, HEN.out _ HO.out.st.bel⟩) (fun hHeld2 => ?_)
     clear hK K hHeld
     rename _ => hHeld
     try simp only [Act.put, stB, stZ, stS]
     refine tm 18 (some 52) ?_
     refine wpAnyH_ready (rs := [19]) (by kernel_rfl) (by simp) ?_
     refine (AllReadyH.cons rfl (fun K hK => ?_) AllReadyH.nil)
     have k0 := HO.out.st.cell 2 12 rfl rfl
     have f0 := HO.out.st.free 2 12 rfl
     go_simp
     clear k0 f0
     refine hK.out _ _ (⟨(HO.out.set 2 12 rfl rfl (fun _ => by simp) (.slice a6 (j + 1) c6)).st.cell 0 12 rfl rfl, HEN.out _ (HO.out.set 2 12 rfl rfl (fun _ => by simp) (.slice a6 (j + 1) c6)).st.bel⟩) (fun hHeld2 => ?_)
     clear hK K hHeld
     rename _ => hHeld
     try simp only [Act.put, stB, stZ, stS]
     refine wpAnyH_done (by kernel_rfl) ?_ _
     have HO7 := Lib.hid (HO.out.set 2 12 rfl rfl (fun _ => by simp) (.slice a6 (j + 1) c6))
     have HE7 := Lib.hid (fun u hu => (HEV.out u hu).set HO.out.st 2 12 (.slice a6 (j + 1) c6) rfl rfl (fun _ => by simp))
     have HN7 := Lib.hid (HNE.out.set HO.out.st 2 12 (.slice a6 (j + 1) c6) rfl rfl (fun _ => by simp))
     clear hHeld
     go_wp2_with fail
     go_roundw
     case rel =>
      refine ⟨j + 1, a6, c6, vs ++ [(⟨en.id, q, rs, ra, rl, rc, rb, rm, rd⟩ : VE)], by omega, by go_num, by rw [List.length_append, HVL.out]; rfl, ?_, ?_, fun u hu => ?_⟩
      ·
       rw [List.map_append, HMP.out, List.take_add_one, HX9.out, List.map_append]
       exact congrArg _ (show [(⟨en.id, q⟩ : Ent)] = [RawE.ent en] by rw [← HQ9.out]; rfl)
      ·
       rw [List.flatMap_append, List.flatMap_cons, List.flatMap_nil, List.append_nil, HEA.out]
       exact HO7.out
      ·
       rw [← List.cons_append] at hu
       rcases List.mem_append.1 hu with hu | hu
       ·
        exact HE7.out u hu
       ·
        rw [List.mem_singleton.1 hu]
        exact HN7.out
     case measure => simp [intOf]; omega
    ·
     skip
     go_simp
     have hk := fun r hr => (HO.out.mid.lt r hr).2
     refine (HM8.out _ HO.out.st.bel).mono ?_
     rintro e wd ⟨ra, rl, rc, rb, rm, rd, rfl, hq, hb⟩
     have HNE := Lib.hid (show EvR _ wd (⟨en.id, q, rs, ra, rl, rc, rb, rm, rd⟩ : VE) from hq.1.own hq.2.1 hq.2.2 hk)
     replace HEV := Lib.hid (show ∀ u, u ∈ (⟨0, qq, qs, a8, n8, c8, b9, m9, d9⟩ : VE) :: vs → EvR (Value.slice a5 j c5).ownBlock wd u from fun u hu => (HEV.out u hu).below hb)
     replace HO := Lib.hid (show OB w [⟨w.heap.size, 29, [.int .i64 x.verb, .int .i64 x.ses, .int .i64 x.rig, .string x.tk, .string x.ot, .int .i64 x.op, .int .i64 x.row, .int .i64 x.col, .int .i64 x.kind, .bool x.sg, .slice x.a x.n x.c, .slice x.b x.m x.d, .slice (some ⟨eb, eo, none⟩) x.en x.ec]⟩, ⟨w.heap.size + 1, 63, [.int .i64 0, .int .i64 0, .int .i64 0, .string ⟨#[]⟩, .string ⟨#[]⟩, .int .i64 0, .int .i64 0, .int .i64 0, .int .i64 0, .bool false, .slice none 0 0, .slice none 0 0, .slice none 0 0]⟩, ⟨qp, 63, [.int .i64 x.verb, .int .i64 x.ses, .int .i64 x.rig, .string x.tk, .string x.ot, .int .i64 x.op, .int .i64 x.row, .int .i64 x.col, .int .i64 x.kind, .bool qs, .slice a8 n8 c8, .slice b9 m9 d9, .slice a5 j c5]⟩] [] 154 4 a5 j c5 (vs.flatMap VE.cells) wd from HO.out.call hb)
     clear hb hq hk
     go_wp2_with fail
     refine hK.out _ _ (⟨HO.out.st.cell 0 12 rfl rfl, HEN.out _ HO.out.st.bel⟩) (fun hHeld2 => ?_)
     clear hK K hHeld
     rename _ => hHeld
     try simp only [Act.put, stB, stZ, stS]
     refine tm 15 (some 49) ?_
     refine wpAnyH_ready (rs := [1, 16]) (by kernel_rfl) (by simp) ?_
     refine (AllReadyH.cons rfl (fun K hK => ?_) (AllReadyH.cons rfl (fun K hK => ?_) AllReadyH.nil))
     ·
      skip
      have k0 := HO.out.st.cell 2 12 rfl rfl
      go_simp
      clear k0
      refine hK.out _ _ (⟨HO.out.st.cell 0 12 rfl rfl, HEN.out _ HO.out.st.bel⟩) (fun hHeld2 => ?_)
      clear hK K hHeld
      rename _ => hHeld
      try simp only [Act.put, stB, stZ, stS]
      refine wpAnyH_ready (rs := [16]) (by kernel_rfl) (by simp) ?_
      refine (AllReadyH.cons rfl (fun K hK => ?_) AllReadyH.nil)
      go_simp
      refine hK.out _ _ ((fun hb9 => ⟨(hb9.cell (p := ⟨w.heap.size, 12, none⟩) (HO.out.st.lt 0 rfl)).trans (HO.out.st.cell 0 12 rfl rfl), HEN.out _ (bthen HO.out.st.bel hb9)⟩) (belowBox _ (.cells #[.int .i64 en.id, .bool rs, .slice ra rl rc, .slice rb rm rd] 154))) (fun hHeld2 => ?_)
      clear hK K hHeld
      rename _ => hHeld
      try simp only [Act.put, stB, stZ, stS]
      refine wpAnyH_ready (rs := [17]) (by kernel_rfl) (by simp) ?_
      refine (AllReadyH.cons rfl (fun K hK => ?_) AllReadyH.nil)
      refine step_append_at (a0 := a5) (c0 := c5) rfl _ _ 61 61 rfl i0 (.agg #[.int .i64 0, .bool false, .slice none 0 0, .slice none 0 0]) 64 Tryz.underlyingREs hi hz0 hz1 hz2 rfl rfl (HO.out.mid.alloc (.cells #[.int .i64 en.id, .bool rs, .slice ra rl rc, .slice rb rm rd] 154)) _ rfl 1 [.int .i64 en.id, .bool rs, .slice ra rl rc, .slice rb rm rd] ((Sl.lit _ 154 4 1 [.int .i64 en.id, .bool rs, .slice ra rl rc, .slice rb rm rd] (by unfold maxLen; omega) rfl).src (P := Tryz.prog) Tryz.underlyingREs (by
       intro u hu
       simp only [List.mem_cons, List.not_mem_nil, or_false] at hu
       rcases hu with rfl | rfl | rfl | rfl <;> rfl)) (by unfold maxLen; omega) (by omega) (Nat.le_trans HO.out.st.bel.size (belowBox _ _).size) ?_
      intro a6 c6 w6 hmo hgo hbo hao
      have HO6 := Lib.hid (HO.out.push (by decide) (by omega) hmo hgo hbo hao)
      replace HO := HO6
      replace HEV := Lib.hid (show ∀ u, u ∈ (⟨0, qq, qs, a8, n8, c8, b9, m9, d9⟩ : VE) :: vs → EvR (Value.slice a6 (j + 1) c6).ownBlock w6 u from fun u hu => (HEV.out u hu).push hgo hbo)
      replace HNE := Lib.hid (show EvR (Value.slice a6 (j + 1) c6).ownBlock w6 (⟨en.id, q, rs, ra, rl, rc, rb, rm, rd⟩ : VE) from HNE.out.push hgo hbo)
      clear HO6 hmo hgo hbo hao
      refine hK.out _ _ (⟨HO.out.st.cell 0 12 rfl rfl, HEN.out _ HO.out.st.bel⟩) (fun hHeld2 => ?_)
      clear hK K hHeld
      rename _ => hHeld
      try simp only [Act.put, stB, stZ, stS]
      refine tm 18 (some 52) ?_
      refine wpAnyH_ready (rs := [19]) (by kernel_rfl) (by simp) ?_
      refine (AllReadyH.cons rfl (fun K hK => ?_) AllReadyH.nil)
      have k0 := HO.out.st.cell 2 12 rfl rfl
      have f0 := HO.out.st.free 2 12 rfl
      go_simp
      clear k0 f0
      refine hK.out _ _ (⟨(HO.out.set 2 12 rfl rfl (fun _ => by simp) (.slice a6 (j + 1) c6)).st.cell 0 12 rfl rfl, HEN.out _ (HO.out.set 2 12 rfl rfl (fun _ => by simp) (.slice a6 (j + 1) c6)).st.bel⟩) (fun hHeld2 => ?_)
      clear hK K hHeld
      rename _ => hHeld
      try simp only [Act.put, stB, stZ, stS]
      refine wpAnyH_done (by kernel_rfl) ?_ _
      have HO7 := Lib.hid (HO.out.set 2 12 rfl rfl (fun _ => by simp) (.slice a6 (j + 1) c6))
      have HE7 := Lib.hid (fun u hu => (HEV.out u hu).set HO.out.st 2 12 (.slice a6 (j + 1) c6) rfl rfl (fun _ => by simp))
      have HN7 := Lib.hid (HNE.out.set HO.out.st 2 12 (.slice a6 (j + 1) c6) rfl rfl (fun _ => by simp))
      clear hHeld
      go_wp2_with fail
      go_roundw
      case rel =>
       refine ⟨j + 1, a6, c6, vs ++ [(⟨en.id, q, rs, ra, rl, rc, rb, rm, rd⟩ : VE)], by omega, by go_num, by rw [List.length_append, HVL.out]; rfl, ?_, ?_, fun u hu => ?_⟩
       ·
        rw [List.map_append, HMP.out, List.take_add_one, HX9.out, List.map_append]
        exact congrArg _ (show [(⟨en.id, q⟩ : Ent)] = [RawE.ent en] by rw [← HQ9.out]; rfl)
       ·
        rw [List.flatMap_append, List.flatMap_cons, List.flatMap_nil, List.append_nil, HEA.out]
        exact HO7.out
       ·
        rw [← List.cons_append] at hu
        rcases List.mem_append.1 hu with hu | hu
        ·
         exact HE7.out u hu
        ·
         rw [List.mem_singleton.1 hu]
         exact HN7.out
      case measure => simp [intOf]; omega
     ·
      skip
      go_simp
      refine hK.out _ _ ((fun hb9 => ⟨(hb9.cell (p := ⟨w.heap.size, 12, none⟩) (HO.out.st.lt 0 rfl)).trans (HO.out.st.cell 0 12 rfl rfl), HEN.out _ (bthen HO.out.st.bel hb9)⟩) (belowBox _ (.cells #[.int .i64 en.id, .bool rs, .slice ra rl rc, .slice rb rm rd] 154))) (fun hHeld2 => ?_)
      clear hK K hHeld
      rename _ => hHeld
      try simp only [Act.put, stB, stZ, stS]
      refine wpAnyH_ready (rs := [1]) (by kernel_rfl) (by simp) ?_
      refine (AllReadyH.cons rfl (fun K hK => ?_) AllReadyH.nil)
      have k0 := ((belowBox wd (.cells #[.int .i64 en.id, .bool rs, .slice ra rl rc, .slice rb rm rd] 154)).cell (p := ⟨qp, 12, none⟩) (HO.out.st.lt 2 rfl)).trans (HO.out.st.cell 2 12 rfl rfl)
      go_simp
      clear k0
      refine hK.out _ _ ((fun hb9 => ⟨(hb9.cell (p := ⟨w.heap.size, 12, none⟩) (HO.out.st.lt 0 rfl)).trans (HO.out.st.cell 0 12 rfl rfl), HEN.out _ (bthen HO.out.st.bel hb9)⟩) (belowBox _ (.cells #[.int .i64 en.id, .bool rs, .slice ra rl rc, .slice rb rm rd] 154))) (fun hHeld2 => ?_)
      clear hK K hHeld
      rename _ => hHeld
      try simp only [Act.put, stB, stZ, stS]
      refine wpAnyH_ready (rs := [17]) (by kernel_rfl) (by simp) ?_
      refine (AllReadyH.cons rfl (fun K hK => ?_) AllReadyH.nil)
      refine step_append_at (a0 := a5) (c0 := c5) rfl _ _ 61 61 rfl i0 (.agg #[.int .i64 0, .bool false, .slice none 0 0, .slice none 0 0]) 64 Tryz.underlyingREs hi hz0 hz1 hz2 rfl rfl (HO.out.mid.alloc (.cells #[.int .i64 en.id, .bool rs, .slice ra rl rc, .slice rb rm rd] 154)) _ rfl 1 [.int .i64 en.id, .bool rs, .slice ra rl rc, .slice rb rm rd] ((Sl.lit _ 154 4 1 [.int .i64 en.id, .bool rs, .slice ra rl rc, .slice rb rm rd] (by unfold maxLen; omega) rfl).src (P := Tryz.prog) Tryz.underlyingREs (by
       intro u hu
       simp only [List.mem_cons, List.not_mem_nil, or_false] at hu
       rcases hu with rfl | rfl | rfl | rfl <;> rfl)) (by unfold maxLen; omega) (by omega) (Nat.le_trans HO.out.st.bel.size (belowBox _ _).size) ?_
      intro a6 c6 w6 hmo hgo hbo hao
      have HO6 := Lib.hid (HO.out.push (by decide) (by omega) hmo hgo hbo hao)
      replace HO := HO6
      replace HEV := Lib.hid (show ∀ u, u ∈ (⟨0, qq, qs, a8, n8, c8, b9, m9, d9⟩ : VE) :: vs → EvR (Value.slice a6 (j + 1) c6).ownBlock w6 u from fun u hu => (HEV.out u hu).push hgo hbo)
      replace HNE := Lib.hid (show EvR (Value.slice a6 (j + 1) c6).ownBlock w6 (⟨en.id, q, rs, ra, rl, rc, rb, rm, rd⟩ : VE) from HNE.out.push hgo hbo)
      clear HO6 hmo hgo hbo hao
      refine hK.out _ _ (⟨HO.out.st.cell 0 12 rfl rfl, HEN.out _ HO.out.st.bel⟩) (fun hHeld2 => ?_)
      clear hK K hHeld
      rename _ => hHeld
      try simp only [Act.put, stB, stZ, stS]
      refine tm 18 (some 52) ?_
      refine wpAnyH_ready (rs := [19]) (by kernel_rfl) (by simp) ?_
      refine (AllReadyH.cons rfl (fun K hK => ?_) AllReadyH.nil)
      have k0 := HO.out.st.cell 2 12 rfl rfl
      have f0 := HO.out.st.free 2 12 rfl
      go_simp
      clear k0 f0
      refine hK.out _ _ (⟨(HO.out.set 2 12 rfl rfl (fun _ => by simp) (.slice a6 (j + 1) c6)).st.cell 0 12 rfl rfl, HEN.out _ (HO.out.set 2 12 rfl rfl (fun _ => by simp) (.slice a6 (j + 1) c6)).st.bel⟩) (fun hHeld2 => ?_)
      clear hK K hHeld
      rename _ => hHeld
      try simp only [Act.put, stB, stZ, stS]
      refine wpAnyH_done (by kernel_rfl) ?_ _
      have HO7 := Lib.hid (HO.out.set 2 12 rfl rfl (fun _ => by simp) (.slice a6 (j + 1) c6))
      have HE7 := Lib.hid (fun u hu => (HEV.out u hu).set HO.out.st 2 12 (.slice a6 (j + 1) c6) rfl rfl (fun _ => by simp))
      have HN7 := Lib.hid (HNE.out.set HO.out.st 2 12 (.slice a6 (j + 1) c6) rfl rfl (fun _ => by simp))
      clear hHeld
      go_wp2_with fail
      go_roundw
      case rel =>
       refine ⟨j + 1, a6, c6, vs ++ [(⟨en.id, q, rs, ra, rl, rc, rb, rm, rd⟩ : VE)], by omega, by go_num, by rw [List.length_append, HVL.out]; rfl, ?_, ?_, fun u hu => ?_⟩
       ·
        rw [List.map_append, HMP.out, List.take_add_one, HX9.out, List.map_append]
        exact congrArg _ (show [(⟨en.id, q⟩ : Ent)] = [RawE.ent en] by rw [← HQ9.out]; rfl)
       ·
        rw [List.flatMap_append, List.flatMap_cons, List.flatMap_nil, List.append_nil, HEA.out]
        exact HO7.out
       ·
        rw [← List.cons_append] at hu
        rcases List.mem_append.1 hu with hu | hu
        ·
         exact HE7.out u hu
        ·
         rw [List.mem_singleton.1 hu]
         exact HN7.out
      case measure => simp [intOf]; omega
   ·
    obtain rfl : j = x.en := by omega
    have ⟨k10, k11, k12, k13, k14, k15, k16, k17, k18, k19, k110, k111, k112⟩ := HO.out.st.cg13 1 rfl
    have ⟨k20, k21, k22, k23, k24, k25, k26, k27, k28, k29, k210, k211, k212⟩ := HO.out.st.cg13 2 rfl
    have f10 := HO.out.st.free 1 0 rfl
    have f11 := HO.out.st.free 1 1 rfl
    have f12 := HO.out.st.free 1 2 rfl
    have f13 := HO.out.st.free 1 3 rfl
    have f14 := HO.out.st.free 1 4 rfl
    have f15 := HO.out.st.free 1 5 rfl
    have f16 := HO.out.st.free 1 6 rfl
    have f17 := HO.out.st.free 1 7 rfl
    have f18 := HO.out.st.free 1 8 rfl
    have f19 := HO.out.st.free 1 9 rfl
    have f110 := HO.out.st.free 1 10 rfl
    have f111 := HO.out.st.free 1 11 rfl
    have f112 := HO.out.st.free 1 12 rfl
    have HE := Lib.hid (show OB w [⟨w.heap.size, 29, [.int .i64 x.verb, .int .i64 x.ses, .int .i64 x.rig, .string x.tk, .string x.ot, .int .i64 x.op, .int .i64 x.row, .int .i64 x.col, .int .i64 x.kind, .bool x.sg, .slice x.a x.n x.c, .slice x.b x.m x.d, .slice x.ea x.en x.ec]⟩, ⟨w.heap.size + 1, 63, [.int .i64 x.verb, .int .i64 x.ses, .int .i64 x.rig, .string x.tk, .string x.ot, .int .i64 x.op, .int .i64 x.row, .int .i64 x.col, .int .i64 x.kind, .bool qs, .slice a8 n8 c8, .slice b9 m9 d9, .slice a5 x.en c5]⟩, ⟨qp, 63, [.int .i64 x.verb, .int .i64 x.ses, .int .i64 x.rig, .string x.tk, .string x.ot, .int .i64 x.op, .int .i64 x.row, .int .i64 x.col, .int .i64 x.kind, .bool qs, .slice a8 n8 c8, .slice b9 m9 d9, .slice a5 x.en c5]⟩] _ 154 4 a5 x.en c5 (vs.flatMap VE.cells) (((((((((((((wr.setCell ⟨w.heap.size + 1, 0, none⟩ (.int .i64 x.verb)).setCell ⟨w.heap.size + 1, 1, none⟩ (.int .i64 x.ses)).setCell ⟨w.heap.size + 1, 2, none⟩ (.int .i64 x.rig)).setCell ⟨w.heap.size + 1, 3, none⟩ (.string x.tk)).setCell ⟨w.heap.size + 1, 4, none⟩ (.string x.ot)).setCell ⟨w.heap.size + 1, 5, none⟩ (.int .i64 x.op)).setCell ⟨w.heap.size + 1, 6, none⟩ (.int .i64 x.row)).setCell ⟨w.heap.size + 1, 7, none⟩ (.int .i64 x.col)).setCell ⟨w.heap.size + 1, 8, none⟩ (.int .i64 x.kind)).setCell ⟨w.heap.size + 1, 9, none⟩ (.bool qs)).setCell ⟨w.heap.size + 1, 10, none⟩ (.slice a8 n8 c8)).setCell ⟨w.heap.size + 1, 11, none⟩ (.slice b9 m9 d9)).setCell ⟨w.heap.size + 1, 12, none⟩ (.slice a5 x.en c5)) from (((((((((((((HO.out.set 1 0 rfl rfl (fun _ => by simp) (.int .i64 x.verb)).set 1 1 rfl rfl (fun _ => by simp) (.int .i64 x.ses)).set 1 2 rfl rfl (fun _ => by simp) (.int .i64 x.rig)).set 1 3 rfl rfl (fun _ => by simp) (.string x.tk)).set 1 4 rfl rfl (fun _ => by simp) (.string x.ot)).set 1 5 rfl rfl (fun _ => by simp) (.int .i64 x.op)).set 1 6 rfl rfl (fun _ => by simp) (.int .i64 x.row)).set 1 7 rfl rfl (fun _ => by simp) (.int .i64 x.col)).set 1 8 rfl rfl (fun _ => by simp) (.int .i64 x.kind)).set 1 9 rfl rfl (fun _ => by simp) (.bool qs)).set 1 10 rfl rfl (fun _ => by simp) (.slice a8 n8 c8)).set 1 11 rfl rfl (fun _ => by simp) (.slice b9 m9 d9)).set 1 12 rfl rfl (fun _ => by simp) (.slice a5 x.en c5)))
    have HV := Lib.hid (fun u hu => (show EvR (some (w.heap.size + 1)) (((((((((((((wr.setCell ⟨w.heap.size + 1, 0, none⟩ (.int .i64 x.verb)).setCell ⟨w.heap.size + 1, 1, none⟩ (.int .i64 x.ses)).setCell ⟨w.heap.size + 1, 2, none⟩ (.int .i64 x.rig)).setCell ⟨w.heap.size + 1, 3, none⟩ (.string x.tk)).setCell ⟨w.heap.size + 1, 4, none⟩ (.string x.ot)).setCell ⟨w.heap.size + 1, 5, none⟩ (.int .i64 x.op)).setCell ⟨w.heap.size + 1, 6, none⟩ (.int .i64 x.row)).setCell ⟨w.heap.size + 1, 7, none⟩ (.int .i64 x.col)).setCell ⟨w.heap.size + 1, 8, none⟩ (.int .i64 x.kind)).setCell ⟨w.heap.size + 1, 9, none⟩ (.bool qs)).setCell ⟨w.heap.size + 1, 10, none⟩ (.slice a8 n8 c8)).setCell ⟨w.heap.size + 1, 11, none⟩ (.slice b9 m9 d9)).setCell ⟨w.heap.size + 1, 12, none⟩ (.slice a5 x.en c5)) u from ((((((((((((((show EvR (some (w.heap.size + 1)) wr u from (HEV.out u hu).offz HO.out.st 1 rfl rfl).setP 0 (.int .i64 x.verb)).setP 1 (.int .i64 x.ses)).setP 2 (.int .i64 x.rig)).setP 3 (.string x.tk)).setP 4 (.string x.ot)).setP 5 (.int .i64 x.op)).setP 6 (.int .i64 x.row)).setP 7 (.int .i64 x.col)).setP 8 (.int .i64 x.kind)).setP 9 (.bool qs)).setP 10 (.slice a8 n8 c8)).setP 11 (.slice b9 m9 d9)).setP 12 (.slice a5 x.en c5))))
    go_wp2_with fail
    (try simp only [Exit.inBlock, Exit.then])
    refine bodyPost_ret (v := .agg #[.int .i64 x.verb, .int .i64 x.ses, .int .i64 x.rig, .string x.tk, .string x.ot, .int .i64 x.op, .int .i64 x.row, .int .i64 x.col, .int .i64 x.kind, .bool qs, .slice a8 n8 c8, .slice b9 m9 d9, .slice a5 x.en c5]) ?_ rfl ?_
    ·
     rw [results_cell1 rfl]
     have hbk := (HE.out.st.at 1 rfl : _ = some (Obj.cells #[.int .i64 x.verb, .int .i64 x.ses, .int .i64 x.rig, .string x.tk, .string x.ot, .int .i64 x.op, .int .i64 x.row, .int .i64 x.col, .int .i64 x.kind, .bool qs, .slice a8 n8 c8, .slice b9 m9 d9, .slice a5 x.en c5] 63 (0, 0)))
     generalize (((((((((((((wr.setCell ⟨w.heap.size + 1, 0, none⟩ (.int .i64 x.verb)).setCell ⟨w.heap.size + 1, 1, none⟩ (.int .i64 x.ses)).setCell ⟨w.heap.size + 1, 2, none⟩ (.int .i64 x.rig)).setCell ⟨w.heap.size + 1, 3, none⟩ (.string x.tk)).setCell ⟨w.heap.size + 1, 4, none⟩ (.string x.ot)).setCell ⟨w.heap.size + 1, 5, none⟩ (.int .i64 x.op)).setCell ⟨w.heap.size + 1, 6, none⟩ (.int .i64 x.row)).setCell ⟨w.heap.size + 1, 7, none⟩ (.int .i64 x.col)).setCell ⟨w.heap.size + 1, 8, none⟩ (.int .i64 x.kind)).setCell ⟨w.heap.size + 1, 9, none⟩ (.bool qs)).setCell ⟨w.heap.size + 1, 10, none⟩ (.slice a8 n8 c8)).setCell ⟨w.heap.size + 1, 11, none⟩ (.slice b9 m9 d9)).setCell ⟨w.heap.size + 1, 12, none⟩ (.slice a5 x.en c5)) = WE at hbk ⊢
     exact Go.Lib.rl_loadVar_cells 63 _ hiR (fun _ => by kernel_rfl) (w.heap.size + 1) 0 [.int .i64 x.verb, .int .i64 x.ses, .int .i64 x.rig, .string x.tk, .string x.ot, .int .i64 x.op, .int .i64 x.row, .int .i64 x.col, .int .i64 x.kind, .bool qs, .slice a8 n8 c8, .slice b9 m9 d9, .slice a5 x.en c5] hzR.symm _ (fun k v hk => by
      rw [Nat.zero_add]
      exact cell_of_block (j := k) hbk (by simpa using hk))
    ·
     refine ⟨⟨x.verb, x.ses, x.rig, x.tk, x.ot, x.op, x.row, x.col, x.kind, qq, qs, a8, n8, c8, b9, m9, d9, a5, x.en, c5, vs⟩, rfl, ⟨(HV.out _ (List.mem_cons_self ..)).ok, ⟨HVL.out, Sl.ofMid HE.out.mid⟩, fun v hv => (HV.out v (List.mem_cons_of_mem _ hv)).ok, by show x.en ≤ _; omega⟩, ?_, HE.out.st.bel⟩
     unfold RefM.msg RefM.ask RawV.msg
     simp only [HMP.out]
     rw [List.take_of_length_le (by rw [HRW.out.len]; exact Nat.le_refl _), HQQ.out]
def RetSh (n : Nat) (w : World) (e : Ending) (w' : World) : Prop := ∃ b, e = .returned (.bool b) ∧ (b = true → n ≤ 70) ∧ Below w.heap.size w w'
theorem f27place (k : Int) (w : World) : Calls Tryz.prog 23 #[.int .i64 k] w fun e w' => e = .returned (.string (if k = 0 then ⟨#[]⟩ else ⟨#[98, 121, 116, 101]⟩)) ∧ Below w.heap.size w w' := by
 by_cases h : k = 0
 ·
  subst h
  rw [if_pos rfl]
  go_enter Tryz.func23, Tryz.ntmps23
  go_wp2_with fail
  go_ret
  exact ⟨rfl, Below.refl _ _⟩
 ·
  rw [if_neg h]
  have h0 : (k == 0) = false := beq_eq_false_iff_ne.2 h
  clear h
  go_enter Tryz.func23, Tryz.ntmps23
  go_wp2_with fail
  go_ret
  exact ⟨rfl, Below.refl _ _⟩
theorem short_a (x : RawV) (w : World) (h70 : 70 < x.en) : Calls Tryz.prog 17 #[.agg #[.int .i64 x.verb, .int .i64 x.ses, .int .i64 x.rig, .string x.tk, .string x.ot, .int .i64 x.op, .int .i64 x.row, .int .i64 x.col, .int .i64 x.kind, .bool x.sg, .slice x.a x.n x.c, .slice x.b x.m x.d, .slice x.ea x.en x.ec]] w (RetSh x.en w) := by
 obtain ⟨W0, hW0⟩ : ∃ W0, W0 = (w.alloc (.cells #[.int .i64 x.verb, .int .i64 x.ses, .int .i64 x.rig, .string x.tk, .string x.ot, .int .i64 x.op, .int .i64 x.row, .int .i64 x.col, .int .i64 x.kind, .bool x.sg, .slice x.a x.n x.c, .slice x.b x.m x.d, .slice x.ea x.en x.ec] 29)) := ⟨_, rfl⟩
 have hbs : BS w [⟨w.heap.size, 29, [.int .i64 x.verb, .int .i64 x.ses, .int .i64 x.rig, .string x.tk, .string x.ot, .int .i64 x.op, .int .i64 x.row, .int .i64 x.col, .int .i64 x.kind, .bool x.sg, .slice x.a x.n x.c, .slice x.b x.m x.d, .slice x.ea x.en x.ec]⟩] [] (w.alloc (.cells #[.int .i64 x.verb, .int .i64 x.ses, .int .i64 x.rig, .string x.tk, .string x.ot, .int .i64 x.op, .int .i64 x.row, .int .i64 x.col, .int .i64 x.kind, .bool x.sg, .slice x.a x.n x.c, .slice x.b x.m x.d, .slice x.ea x.en x.ec] 29)) :=
   ((BS.start w).alloc (p := w.heap.size) rfl 29 [.int .i64 x.verb, .int .i64 x.ses, .int .i64 x.rig, .string x.tk, .string x.ot, .int .i64 x.op, .int .i64 x.row, .int .i64 x.col, .int .i64 x.kind, .bool x.sg, .slice x.a x.n x.c, .slice x.b x.m x.d, .slice x.ea x.en x.ec] rfl)
 rw [← hW0] at hbs
 have HW0 := Lib.hid hW0
 have HN := Lib.hid hbs
 clear hW0 hbs
 go_enter Tryz.func17, Tryz.ntmps17
 have ⟨k00, f00, k01, f01, k02, f02, k03, f03, k04, f04, k05, f05, k06, f06, k07, f07, k08, f08, k09, f09, k010, f010, k011, f011, k012, f012⟩ := HN.out.cf13 0 rfl
 have HE := Lib.hid (HN.out)
 go_wp2_with fail
 refine bodyPost_ret (v := .bool false) (by simp [results, Tryz.results17, go_sem, k00, k01, k02, k03, k04, k05, k06, k07, k08, k09, k010, k011, k012]) rfl ?_
 exact ⟨false, rfl, (fun h => by cases h), by rw [← HW0.out]; exact HE.out.bel⟩
theorem short_b (x : RawV) (w : World) (h70 : x.en ≤ 70) (h35 : 35 < x.n) : Calls Tryz.prog 17 #[.agg #[.int .i64 x.verb, .int .i64 x.ses, .int .i64 x.rig, .string x.tk, .string x.ot, .int .i64 x.op, .int .i64 x.row, .int .i64 x.col, .int .i64 x.kind, .bool x.sg, .slice x.a x.n x.c, .slice x.b x.m x.d, .slice x.ea x.en x.ec]] w (RetSh x.en w) := by
 obtain ⟨W0, hW0⟩ : ∃ W0, W0 = (w.alloc (.cells #[.int .i64 x.verb, .int .i64 x.ses, .int .i64 x.rig, .string x.tk, .string x.ot, .int .i64 x.op, .int .i64 x.row, .int .i64 x.col, .int .i64 x.kind, .bool x.sg, .slice x.a x.n x.c, .slice x.b x.m x.d, .slice x.ea x.en x.ec] 29)) := ⟨_, rfl⟩
 have hbs : BS w [⟨w.heap.size, 29, [.int .i64 x.verb, .int .i64 x.ses, .int .i64 x.rig, .string x.tk, .string x.ot, .int .i64 x.op, .int .i64 x.row, .int .i64 x.col, .int .i64 x.kind, .bool x.sg, .slice x.a x.n x.c, .slice x.b x.m x.d, .slice x.ea x.en x.ec]⟩] [] (w.alloc (.cells #[.int .i64 x.verb, .int .i64 x.ses, .int .i64 x.rig, .string x.tk, .string x.ot, .int .i64 x.op, .int .i64 x.row, .int .i64 x.col, .int .i64 x.kind, .bool x.sg, .slice x.a x.n x.c, .slice x.b x.m x.d, .slice x.ea x.en x.ec] 29)) :=
   ((BS.start w).alloc (p := w.heap.size) rfl 29 [.int .i64 x.verb, .int .i64 x.ses, .int .i64 x.rig, .string x.tk, .string x.ot, .int .i64 x.op, .int .i64 x.row, .int .i64 x.col, .int .i64 x.kind, .bool x.sg, .slice x.a x.n x.c, .slice x.b x.m x.d, .slice x.ea x.en x.ec] rfl)
 rw [← hW0] at hbs
 have HW0 := Lib.hid hW0
 have HN := Lib.hid hbs
 clear hW0 hbs
 go_enter Tryz.func17, Tryz.ntmps17
 have ⟨k00, f00, k01, f01, k02, f02, k03, f03, k04, f04, k05, f05, k06, f06, k07, f07, k08, f08, k09, f09, k010, f010, k011, f011, k012, f012⟩ := HN.out.cf13 0 rfl
 have HE := Lib.hid (HN.out)
 go_wp2_with fail
 refine bodyPost_ret (v := .bool false) (by simp [results, Tryz.results17, go_sem, k00, k01, k02, k03, k04, k05, k06, k07, k08, k09, k010, k011, k012]) rfl ?_
 exact ⟨false, rfl, (fun h => by cases h), by rw [← HW0.out]; exact HE.out.bel⟩
theorem short_c (x : RawV) (w : World) (h70 : x.en ≤ 70) (h35 : x.n ≤ 35) (h36 : 35 < x.m) : Calls Tryz.prog 17 #[.agg #[.int .i64 x.verb, .int .i64 x.ses, .int .i64 x.rig, .string x.tk, .string x.ot, .int .i64 x.op, .int .i64 x.row, .int .i64 x.col, .int .i64 x.kind, .bool x.sg, .slice x.a x.n x.c, .slice x.b x.m x.d, .slice x.ea x.en x.ec]] w (RetSh x.en w) := by
 obtain ⟨W0, hW0⟩ : ∃ W0, W0 = (w.alloc (.cells #[.int .i64 x.verb, .int .i64 x.ses, .int .i64 x.rig, .string x.tk, .string x.ot, .int .i64 x.op, .int .i64 x.row, .int .i64 x.col, .int .i64 x.kind, .bool x.sg, .slice x.a x.n x.c, .slice x.b x.m x.d, .slice x.ea x.en x.ec] 29)) := ⟨_, rfl⟩
 have hbs : BS w [⟨w.heap.size, 29, [.int .i64 x.verb, .int .i64 x.ses, .int .i64 x.rig, .string x.tk, .string x.ot, .int .i64 x.op, .int .i64 x.row, .int .i64 x.col, .int .i64 x.kind, .bool x.sg, .slice x.a x.n x.c, .slice x.b x.m x.d, .slice x.ea x.en x.ec]⟩] [] (w.alloc (.cells #[.int .i64 x.verb, .int .i64 x.ses, .int .i64 x.rig, .string x.tk, .string x.ot, .int .i64 x.op, .int .i64 x.row, .int .i64 x.col, .int .i64 x.kind, .bool x.sg, .slice x.a x.n x.c, .slice x.b x.m x.d, .slice x.ea x.en x.ec] 29)) :=
   ((BS.start w).alloc (p := w.heap.size) rfl 29 [.int .i64 x.verb, .int .i64 x.ses, .int .i64 x.rig, .string x.tk, .string x.ot, .int .i64 x.op, .int .i64 x.row, .int .i64 x.col, .int .i64 x.kind, .bool x.sg, .slice x.a x.n x.c, .slice x.b x.m x.d, .slice x.ea x.en x.ec] rfl)
 rw [← hW0] at hbs
 have HW0 := Lib.hid hW0
 have HN := Lib.hid hbs
 clear hW0 hbs
 go_enter Tryz.func17, Tryz.ntmps17
 have ⟨k00, f00, k01, f01, k02, f02, k03, f03, k04, f04, k05, f05, k06, f06, k07, f07, k08, f08, k09, f09, k010, f010, k011, f011, k012, f012⟩ := HN.out.cf13 0 rfl
 have HE := Lib.hid (HN.out)
 go_wp2_with fail
 refine bodyPost_ret (v := .bool false) (by simp [results, Tryz.results17, go_sem, k00, k01, k02, k03, k04, k05, k06, k07, k08, k09, k010, k011, k012]) rfl ?_
 exact ⟨false, rfl, (fun h => by cases h), by rw [← HW0.out]; exact HE.out.bel⟩
theorem short_d (x : RawV) (w : World) (h : RawW w x) (h70 : x.en ≤ 70) (h35 : x.n ≤ 35) (h36 : x.m ≤ 35) : Calls Tryz.prog 17 #[.agg #[.int .i64 x.verb, .int .i64 x.ses, .int .i64 x.rig, .string x.tk, .string x.ot, .int .i64 x.op, .int .i64 x.row, .int .i64 x.col, .int .i64 x.kind, .bool x.sg, .slice x.a x.n x.c, .slice x.b x.m x.d, .slice x.ea x.en x.ec]] w (RetSh x.en w) := by
 have HRW := Lib.hid h
 have H70 := Lib.hid h70
 clear h
 obtain ⟨W0, hW0⟩ : ∃ W0, W0 = (w.alloc (.cells #[.int .i64 x.verb, .int .i64 x.ses, .int .i64 x.rig, .string x.tk, .string x.ot, .int .i64 x.op, .int .i64 x.row, .int .i64 x.col, .int .i64 x.kind, .bool x.sg, .slice x.a x.n x.c, .slice x.b x.m x.d, .slice x.ea x.en x.ec] 29)) := ⟨_, rfl⟩
 have hbs : BS w [⟨w.heap.size, 29, [.int .i64 x.verb, .int .i64 x.ses, .int .i64 x.rig, .string x.tk, .string x.ot, .int .i64 x.op, .int .i64 x.row, .int .i64 x.col, .int .i64 x.kind, .bool x.sg, .slice x.a x.n x.c, .slice x.b x.m x.d, .slice x.ea x.en x.ec]⟩] [] (w.alloc (.cells #[.int .i64 x.verb, .int .i64 x.ses, .int .i64 x.rig, .string x.tk, .string x.ot, .int .i64 x.op, .int .i64 x.row, .int .i64 x.col, .int .i64 x.kind, .bool x.sg, .slice x.a x.n x.c, .slice x.b x.m x.d, .slice x.ea x.en x.ec] 29)) :=
   ((BS.start w).alloc (p := w.heap.size) rfl 29 [.int .i64 x.verb, .int .i64 x.ses, .int .i64 x.rig, .string x.tk, .string x.ot, .int .i64 x.op, .int .i64 x.row, .int .i64 x.col, .int .i64 x.kind, .bool x.sg, .slice x.a x.n x.c, .slice x.b x.m x.d, .slice x.ea x.en x.ec] rfl)
 rw [← hW0] at hbs
 have HW0 := Lib.hid hW0
 have HN := Lib.hid hbs
 clear hW0 hbs
 go_enter Tryz.func17, Tryz.ntmps17
 go_wp2_with fail
 rw [← HW0.out]
 clear h70 h35 h36
 go_loopw [3] (fun v3 wr => ∃ j : Nat, j ≤ x.en ∧ v3 = .int .i64 j ∧ BS w [⟨w.heap.size, 29, [.int .i64 x.verb, .int .i64 x.ses, .int .i64 x.rig, .string x.tk, .string x.ot, .int .i64 x.op, .int .i64 x.row, .int .i64 x.col, .int .i64 x.kind, .bool x.sg, .slice x.a x.n x.c, .slice x.b x.m x.d, .slice x.ea x.en x.ec]⟩] [] wr) (fun v3 _ => x.en - (intOf v3).toNat)
 case atStart => exact ⟨0, Nat.zero_le _, rfl, HN.out⟩
 case round =>
  obtain ⟨j, hj, rfl, hn0⟩ := hrel
  replace HN := Lib.hid hn0
  clear hn0
  have k0 := HN.out.cell 0 12 rfl rfl
  by_cases hlt : j < x.en
  ·
   obtain ⟨en, eb, eo, hx9, hea, hlt8, hnc, c0, c1, c2, c3, hpw⟩ := HRW.out.get j hlt
   have k2 := (HN.out.bel.cell (p := ⟨eb, eo + j * 4 + 2, none⟩) hlt8).trans c2
   have k3 := (HN.out.bel.cell (p := ⟨eb, eo + j * 4 + 3, none⟩) hlt8).trans c3
   rw [hea] at k0
   clear c0 c1 c2 c3 hx9 hpw hea hlt8
   by_cases h6 : en.n ≤ 6
   ·
    by_cases h7 : en.m ≤ 6
    ·
     go_wp2_with fail
     go_roundw
     case rel => exact ⟨j + 1, by omega, by go_num, HN.out⟩
     case measure => simp [intOf]; omega
    ·
     have h8 : 6 < en.m := by omega
     clear h7
     go_wp2_with fail
     go_ret
     exact ⟨false, rfl, (fun h => by cases h), HN.out.bel⟩
   ·
    have h8 : 6 < en.n := by omega
    clear h6
    go_wp2_with fail
    go_ret
    exact ⟨false, rfl, (fun h => by cases h), HN.out.bel⟩
  ·
   obtain rfl : j = x.en := by omega
   go_wp2_with fail
   go_ret
   exact ⟨true, rfl, (fun _ => H70.out), HN.out.bel⟩
theorem f27short (x : RawV) (w : World) (h : RawW w x) : Calls Tryz.prog 17 #[.agg #[.int .i64 x.verb, .int .i64 x.ses, .int .i64 x.rig, .string x.tk, .string x.ot, .int .i64 x.op, .int .i64 x.row, .int .i64 x.col, .int .i64 x.kind, .bool x.sg, .slice x.a x.n x.c, .slice x.b x.m x.d, .slice x.ea x.en x.ec]] w (RetSh x.en w) := by
 rcases Nat.lt_or_ge 70 x.en with h70 | h70
 ·
  exact short_a x w h70
 rcases Nat.lt_or_ge 35 x.n with h35 | h35
 ·
  exact short_b x w h70 h35
 rcases Nat.lt_or_ge 35 x.m with h36 | h36
 ·
  exact short_c x w h70 h35 h36
 exact short_d x w h h70 h35 h36
end Go.Proofs.YtmhainidincjhaaGreatDoor
