/-
 What the laws stand on, part U: contracts and plain laws of MMake; the conditions are each law's own.
-/
import Derived.Test.YtmhainidincjhaaGreatDoorYQ
import Derived.Test.YtmhainidincjhaaGreatDoorYL
set_option linter.unusedVariables false
set_option linter.unusedSimpArgs false
set_option maxRecDepth 100000
set_option maxHeartbeats 16000000
namespace Go.Proofs.YtmhainidincjhaaGreatDoor
open Go.RowKit Go.Extern.Stop Go.Stop Go.Extern
theorem step_append_at {P : Program} {w : World} {base : Nat} {e : TypeId} {size n : Nat} {xs : List Value} {ops : Array Oper} {o : Oper} {a : Act} {K : Act → World → Prop} {Q : Exit → Act → World → Prop} {E : Prop} (hgd : o.guard = none) (s x : Operand) (t tx : TypeId)
  (ho : o.op = .call { callee := .builtin .append, args := #[s, x], argTypes := #[t, tx] })
  (i : TypeInfo) (z : Value) (bytes : Nat) (ht : P.underlying t = some (.slice e)) (hi : P.info? e = some i) (hz : i.zero = some z)
  (hsize : i.size = size) (hby : i.bytes = bytes) (hzs : z.cells.size = size)
  {a0 : Option Addr} {c0 : Nat} (hv : a.eval s = .slice a0 n c0) (h : Mid w base e size (.slice a0 n c0) n xs) (xv : Value) (hx : a.eval x = xv) (m : Nat) (news : List Value) (hs : Src P size tx xv m news w)
  (h63 : n + m ≤ maxLen) (hbytes : ((n + m) + (n + m) / 4 + 192) * bytes ≤ 281474976710656) (hbase : base ≤ w.heap.size)
  (H : ∀ a' c' w', Mid w' base e size (.slice a' (n + m) c') (n + m) (xs ++ news) → w.grownBy w' (Value.slice a0 n c0).ownBlock → ((Value.slice a' (n + m) c').ownBlock = (Value.slice a0 n c0).ownBlock ∨ (Value.slice a' (n + m) c').ownBlock = some w.heap.size) → (a' = a0 ∨ a' = some ⟨w.heap.size, 0, none⟩) → K (a.put o.dst (.slice a' (n + m) c')) w') :
  if Region.wanted o (yielded ops a.tmps) = true then Oper.wp P o a w K Q else E := by
 have hw : Region.wanted o (yielded ops a.tmps) = true := by simp [Region.wanted, hgd]
 rw [if_pos hw]
 obtain ⟨v', w', hr, h2, h3, h4, _⟩ := run_append_mid (P := P) t tx o.type i z bytes ht hi hz hsize hby hzs h xv m news hs h63 hbytes hbase
 obtain ⟨a', c', rfl⟩ := h2.slice
 have h5 := run_append_at (P := P) t tx o.type i z bytes ht hi hz hsize hby hzs h xv m news hs h63 hbytes hr rfl rfl
 have h6 := H a' c' w' h2 h3 h4 h5
 unfold Oper.wp execOp
 simp only [ho, resolve, invoke, builtin, Sem.run_bind, Sem.run_pure, Result.andThen_ok, List.map_toArray, List.map_cons, List.map_nil, hv, hx, hr]
 exact h6
section
variable {w W W' : World} {bs : List Bk} {ns : List Nm} {T : TypeId} {sz : Nat} {a : Option Addr} {n c : Nat} {cs : List Value}
theorem OB.call (h : OB w bs ns T sz a n c cs W) (hb : Below W.heap.size W W') : OB w bs ns T sz a n c cs W' := ⟨h.st.call hb, mid_under h.mid hb, h.nod, h.hd⟩
theorem OB.got (h : OB w bs ns T sz a n c cs W) {a2 : Option Addr} {c2 m : Nat} (hn : NatW W a2 c2 m) : OB w bs (⟨a2, c2, m⟩ :: ns) T sz a n c cs W := ⟨h.st.gotk 0 hn, h.mid, h.nod, h.hd⟩
theorem OB.set (h : OB w bs ns T sz a n c cs W) (i j : Nat) {b : Bk} {u0 : Value} (hi : bs[i]? = some b) (hj : b.cs[j]? = some u0) (h0 : ∀ x, u0 ≠ .int .u64 x) (v : Value) : OB w (bs.set i ⟨b.p, b.T, b.cs.set j v⟩) ns T sz a n c cs (W.setCell ⟨b.p, j, none⟩ v) :=
 ⟨h.st.set i j hi hj h0 v, h.mid.setCell v fun e => h.nod b.p e b (List.mem_of_getElem? hi) rfl, fun k hk b2 hb2 => by
  rcases List.mem_or_eq_of_mem_set hb2 with hb2 | rfl
  ·
   exact h.nod k hk b2 hb2
  ·
   exact h.nod k hk b (List.mem_of_getElem? hi), h.hd⟩
end
structure RawE where
 id : Int
 sg : Bool
 a : Option Addr
 n : Nat
 c : Nat
 b : Option Addr
 m : Nat
 d : Nat
 xs : List Nat
 ys : List Nat
def RawE.cells (e : RawE) : List Value := [.int .i64 e.id, .bool e.sg, .slice e.a e.n e.c, .slice e.b e.m e.d]
theorem rawCells_len (e : RawE) : e.cells.length = 4 := rfl
def RawE.ent (e : RawE) : Ent := ⟨e.id, ratG e.sg e.xs e.ys⟩
structure RawV where
 verb : Int
 ses : Int
 rig : Int
 tk : ByteArray
 ot : ByteArray
 op : Int
 row : Int
 col : Int
 kind : Int
 sg : Bool
 a : Option Addr
 n : Nat
 c : Nat
 b : Option Addr
 m : Nat
 d : Nat
 xs : List Nat
 ys : List Nat
 ea : Option Addr
 en : Nat
 ec : Nat
 es : List RawE
def RawV.cells (x : RawV) : List Value := [.int .i64 x.verb, .int .i64 x.ses, .int .i64 x.rig, .string x.tk, .string x.ot, .int .i64 x.op, .int .i64 x.row, .int .i64 x.col, .int .i64 x.kind, .bool x.sg, .slice x.a x.n x.c, .slice x.b x.m x.d, .slice x.ea x.en x.ec]
def RawV.msg (x : RawV) : Msg := ⟨x.verb, natB x.tk, x.ses, x.rig, natB x.ot, ⟨x.op, x.row, x.col, x.kind, ratG x.sg x.xs x.ys, x.es.map RawE.ent⟩⟩
structure RawW (w : World) (x : RawV) : Prop where
 tk : x.tk.size ≤ 1048576
 ot : x.ot.size ≤ 1048576
 p : PartW w x.a x.n x.c x.b x.m x.d x.xs x.ys
 sl : Sl w 4 (.slice x.ea x.en x.ec) x.en (x.es.flatMap RawE.cells)
 len : x.es.length = x.en
 en : x.en ≤ 1048576
 ok : ∀ e, e ∈ x.es → PartW w e.a e.n e.c e.b e.m e.d e.xs e.ys
theorem RawW.below {w w' : World} {x : RawV} (h : RawW w x) (hb : Below w.heap.size w w') : RawW w' x := ⟨h.tk, h.ot, h.p.below hb, Sl.below h.sl hb, h.len, h.en, fun e he => (h.ok e he).below hb⟩
theorem RawW.get {w : World} {x : RawV} (h : RawW w x) (k : Nat) (hk : k < x.en) : ∃ e b o, x.es[k]? = some e ∧ x.ea = some ⟨b, o, none⟩ ∧ b < w.heap.size ∧ x.en ≤ x.ec ∧ w.cell? ⟨b, o + k * 4, none⟩ = some (.int .i64 e.id) ∧ w.cell? ⟨b, o + k * 4 + 1, none⟩ = some (.bool e.sg) ∧ w.cell? ⟨b, o + k * 4 + 2, none⟩ = some (.slice e.a e.n e.c) ∧ w.cell? ⟨b, o + k * 4 + 3, none⟩ = some (.slice e.b e.m e.d) ∧ PartW w e.a e.n e.c e.b e.m e.d e.xs e.ys := by
 have hkl : k < x.es.length := by rw [h.len]; exact hk
 have hlen := h.len
 obtain ⟨b, o, c', e, h1, h2, h3, h4⟩ := h.sl.plain (by omega)
 injection e with e1 e2 e3
 have hc := fun j u hj => h4 _ u (flat_at RawE.cells 4 rawCells_len x.es k hkl j u hj)
 have c0 := hc 0 _ rfl
 have c1 := hc 1 _ rfl
 have c2 := hc 2 _ rfl
 have c3 := hc 3 _ rfl
 simp only [← Nat.add_assoc, Nat.add_zero] at c0 c1 c2 c3
 exact ⟨x.es[k], b, o, List.getElem?_eq_getElem hkl, e1, h3, by rw [e3]; exact h1, c0, c1, c2, c3, h.ok _ (List.getElem_mem hkl)⟩
def RetMk (m : Msg) (w : World) (e : Ending) (w' : World) : Prop := ∃ x : MsgV, e = .returned x.val ∧ x.ok w' ∧ x.msg = m ∧ Below w.heap.size w w'
theorem mmake_any (x : RawV) (w : World) (h : RawW w x) : Calls Tryz.prog 19 #[.agg #[.int .i64 x.verb, .int .i64 x.ses, .int .i64 x.rig, .string x.tk, .string x.ot, .int .i64 x.op, .int .i64 x.row, .int .i64 x.col, .int .i64 x.kind, .bool x.sg, .slice x.a x.n x.c, .slice x.b x.m x.d, .slice x.ea x.en x.ec]] w (RetMk x.msg w) := by
 obtain ⟨i0, hi, hz0, hz1, hz2⟩ := info_parts Tryz.infoEnt
 obtain ⟨iR, hiR, _, hzR, _⟩ := info_parts Tryz.infoM
 have hen := h.en
 have htk := h.tk
 have hot := h.ot
 obtain ⟨qq, hq⟩ : ∃ q, ratG x.sg x.xs x.ys = q := ⟨_, rfl⟩
 have hmk := fun (W : World) (hb : Below w.heap.size w W) => h.p.make x.sg W hb
 have hsm := h.p.size x.sg
 rw [hq] at hmk hsm
 unfold RetRV ratV at hmk
 obtain ⟨qs, hqs⟩ : ∃ y, decide (qq.num < 0) = y := ⟨_, rfl⟩
 obtain ⟨qn, hqn⟩ : ∃ y, qq.num.natAbs = y := ⟨_, rfl⟩
 obtain ⟨qd, hqd⟩ : ∃ y, denN qq.den = y := ⟨_, rfl⟩
 simp only [hqs, hqn, hqd] at hmk
 have HMK := Lib.hid hmk
 have HQV := Lib.hid (And.intro hqs (And.intro hqn (And.intro hqd (And.intro hq hsm))))
 have HRW := Lib.hid h
 clear h hmk hqs hqn hqd hq hsm
 obtain ⟨W0, hW0⟩ : ∃ W0, W0 = ((w.alloc (.cells #[.int .i64 x.verb, .int .i64 x.ses, .int .i64 x.rig, .string x.tk, .string x.ot, .int .i64 x.op, .int .i64 x.row, .int .i64 x.col, .int .i64 x.kind, .bool x.sg, .slice x.a x.n x.c, .slice x.b x.m x.d, .slice x.ea x.en x.ec] 29)).alloc (.cells #[.int .i64 0, .string ⟨#[]⟩, .int .i64 0, .int .i64 0, .string ⟨#[]⟩, .int .i64 0, .int .i64 0, .int .i64 0, .int .i64 0, .bool false, .slice none 0 0, .slice none 0 0, .slice none 0 0] 50)) := ⟨_, rfl⟩
 have hbs : BS w [⟨w.heap.size, 29, [.int .i64 x.verb, .int .i64 x.ses, .int .i64 x.rig, .string x.tk, .string x.ot, .int .i64 x.op, .int .i64 x.row, .int .i64 x.col, .int .i64 x.kind, .bool x.sg, .slice x.a x.n x.c, .slice x.b x.m x.d, .slice x.ea x.en x.ec]⟩, ⟨w.heap.size + 1, 50, [.int .i64 0, .string ⟨#[]⟩, .int .i64 0, .int .i64 0, .string ⟨#[]⟩, .int .i64 0, .int .i64 0, .int .i64 0, .int .i64 0, .bool false, .slice none 0 0, .slice none 0 0, .slice none 0 0]⟩] [] ((w.alloc (.cells #[.int .i64 x.verb, .int .i64 x.ses, .int .i64 x.rig, .string x.tk, .string x.ot, .int .i64 x.op, .int .i64 x.row, .int .i64 x.col, .int .i64 x.kind, .bool x.sg, .slice x.a x.n x.c, .slice x.b x.m x.d, .slice x.ea x.en x.ec] 29)).alloc (.cells #[.int .i64 0, .string ⟨#[]⟩, .int .i64 0, .int .i64 0, .string ⟨#[]⟩, .int .i64 0, .int .i64 0, .int .i64 0, .int .i64 0, .bool false, .slice none 0 0, .slice none 0 0, .slice none 0 0] 50)) :=
   (((BS.start w).alloc (p := w.heap.size) rfl 29 [.int .i64 x.verb, .int .i64 x.ses, .int .i64 x.rig, .string x.tk, .string x.ot, .int .i64 x.op, .int .i64 x.row, .int .i64 x.col, .int .i64 x.kind, .bool x.sg, .slice x.a x.n x.c, .slice x.b x.m x.d, .slice x.ea x.en x.ec] rfl).alloc (p := w.heap.size + 1) (by simp) 50 [.int .i64 0, .string ⟨#[]⟩, .int .i64 0, .int .i64 0, .string ⟨#[]⟩, .int .i64 0, .int .i64 0, .int .i64 0, .int .i64 0, .bool false, .slice none 0 0, .slice none 0 0, .slice none 0 0] rfl)
 rw [← hW0] at hbs
 have HW0 := Lib.hid hW0
 have HN := Lib.hid hbs
 clear hW0 hbs
 go_enter Tryz.func19, Tryz.ntmps19
 go_upto_region 1 with fail
 rw [← HW0.out]
 have ⟨k00, f00, k01, f01, k02, f02, k03, f03, k04, f04, k05, f05, k06, f06, k07, f07, k08, f08, k09, f09, k010, f010, k011, f011, k012, f012⟩ := HN.out.cf13 0 rfl
 have l0 := HN.out.lt 0 rfl
 have ⟨k10, f10, k11, f11, k12, f12, k13, f13, k14, f14, k15, f15, k16, f16, k17, f17, k18, f18, k19, f19, k110, f110, k111, f111, k112, f112⟩ := HN.out.cf13 1 rfl
 have l1 := HN.out.lt 1 rfl
 have HP := Lib.hid (HN.out.alloc (p := W0.heap.size) rfl 50 [.int .i64 x.verb, .string x.tk, .int .i64 x.ses, .int .i64 x.rig, .string x.ot, .int .i64 0, .int .i64 0, .int .i64 0, .int .i64 0, .bool false, .slice none 0 0, .slice none 0 0, .slice none 0 0] rfl)
 have ⟨k00p, f00p, k01p, f01p, k02p, f02p, k03p, f03p, k04p, f04p, k05p, f05p, k06p, f06p, k07p, f07p, k08p, f08p, k09p, f09p, k010p, f010p, k011p, f011p, k012p, f012p⟩ := HP.out.cf13 0 rfl
 have ⟨k10p, f10p, k11p, f11p, k12p, f12p, k13p, f13p, k14p, f14p, k15p, f15p, k16p, f16p, k17p, f17p, k18p, f18p, k19p, f19p, k110p, f110p, k111p, f111p, k112p, f112p⟩ := HP.out.cf13 1 rfl
 have ⟨k20p, f20p, k21p, f21p, k22p, f22p, k23p, f23p, k24p, f24p, k25p, f25p, k26p, f26p, k27p, f27p, k28p, f28p, k29p, f29p, k210p, f210p, k211p, f211p, k212p, f212p⟩ := HP.out.cf13 2 rfl
 go_upto_region 2 with fail
 clear k00 f00 k01 f01 k02 f02 k03 f03 k04 f04 k05 f05 k06 f06 k07 f07 k08 f08 k09 f09 k010 f010 k011 f011 k012 f012 l0 k10 f10 k11 f11 k12 f12 k13 f13 k14 f14 k15 f15 k16 f16 k17 f17 k18 f18 k19 f19 k110 f110 k111 f111 k112 f112 l1 k00p f00p k01p f01p k02p f02p k03p f03p k04p f04p k05p f05p k06p f06p k07p f07p k08p f08p k09p f09p k010p f010p k011p f011p k012p f012p k10p f10p k11p f11p k12p f12p k13p f13p k14p f14p k15p f15p k16p f16p k17p f17p k18p f18p k19p f19p k110p f110p k111p f111p k112p f112p k20p f20p k21p f21p k22p f22p k23p f23p k24p f24p k25p f25p k26p f26p k27p f27p k28p f28p k29p f29p k210p f210p k211p f211p k212p f212p HN
 have HN := HP
 clear HP
 generalize (W0.alloc (.cells #[.int .i64 x.verb, .string x.tk, .int .i64 x.ses, .int .i64 x.rig, .string x.ot, .int .i64 0, .int .i64 0, .int .i64 0, .int .i64 0, .bool false, .slice none 0 0, .slice none 0 0, .slice none 0 0] 50)) = wa1 at HN  ⊢
 have ⟨k00, f00, k01, f01, k02, f02, k03, f03, k04, f04, k05, f05, k06, f06, k07, f07, k08, f08, k09, f09, k010, f010, k011, f011, k012, f012⟩ := HN.out.cf13 0 rfl
 have ⟨k10, f10, k11, f11, k12, f12, k13, f13, k14, f14, k15, f15, k16, f16, k17, f17, k18, f18, k19, f19, k110, f110, k111, f111, k112, f112⟩ := HN.out.cf13 1 rfl
 have ⟨k20, f20, k21, f21, k22, f22, k23, f23, k24, f24, k25, f25, k26, f26, k27, f27, k28, f28, k29, f29, k210, f210, k211, f211, k212, f212⟩ := HN.out.cf13 2 rfl
 go_upto_region 2 with fail
 clear k00 f00 k01 f01 k02 f02 k03 f03 k04 f04 k05 f05 k06 f06 k07 f07 k08 f08 k09 f09 k010 f010 k011 f011 k012 f012 k10 f10 k11 f11 k12 f12 k13 f13 k14 f14 k15 f15 k16 f16 k17 f17 k18 f18 k19 f19 k110 f110 k111 f111 k112 f112 k20 f20 k21 f21 k22 f22 k23 f23 k24 f24 k25 f25 k26 f26 k27 f27 k28 f28 k29 f29 k210 f210 k211 f211 k212 f212
 go_cut [] (fun wx => ∃ a8 c8 b9 d9, BS w [⟨w.heap.size, 29, [.int .i64 x.verb, .int .i64 x.ses, .int .i64 x.rig, .string x.tk, .string x.ot, .int .i64 x.op, .int .i64 x.row, .int .i64 x.col, .int .i64 x.kind, .bool x.sg, .slice x.a x.n x.c, .slice x.b x.m x.d, .slice x.ea x.en x.ec]⟩, ⟨w.heap.size + 1, 50, [.int .i64 0, .string ⟨#[]⟩, .int .i64 0, .int .i64 0, .string ⟨#[]⟩, .int .i64 0, .int .i64 0, .int .i64 0, .int .i64 0, .bool false, .slice none 0 0, .slice none 0 0, .slice none 0 0]⟩, ⟨W0.heap.size, 50, [.int .i64 x.verb, .string x.tk, .int .i64 x.ses, .int .i64 x.rig, .string x.ot, .int .i64 x.op, .int .i64 x.row, .int .i64 x.col, .int .i64 x.kind, .bool qs, .slice a8 (lenW qn) c8, .slice b9 (lenW qd) d9, .slice none 0 0]⟩] [⟨a8, c8, qn⟩, ⟨b9, d9, qd⟩] wx)
 case first =>
  replace HN := Lib.hid HN.out.drew
  refine wp_region_held_drew (S := fun W => W.cell? ⟨w.heap.size, 5, none⟩ = some (.int .i64 x.op) ∧ W.cell? ⟨w.heap.size, 6, none⟩ = some (.int .i64 x.row) ∧ W.cell? ⟨w.heap.size, 7, none⟩ = some (.int .i64 x.col) ∧ W.cell? ⟨w.heap.size, 8, none⟩ = some (.int .i64 x.kind) ∧ W.cell? ⟨w.heap.size, 9, none⟩ = some (.bool x.sg) ∧ W.cell? ⟨w.heap.size, 10, none⟩ = some (.slice x.a x.n x.c) ∧ W.cell? ⟨w.heap.size, 11, none⟩ = some (.slice x.b x.m x.d)) (by kernel_rfl) (⟨HN.out.cell 0 5 rfl rfl, HN.out.cell 0 6 rfl rfl, HN.out.cell 0 7 rfl rfl, HN.out.cell 0 8 rfl rfl, HN.out.cell 0 9 rfl rfl, HN.out.cell 0 10 rfl rfl, HN.out.cell 0 11 rfl rfl⟩) (fun hHeld => ?_)
  generalize wa1.drew = wd at HN hHeld ⊢
  refine tm 0 (some 16) ?_
  refine tl 1 (some 17) ?_
  refine tm 2 (some 18) ?_
  refine tl 3 (some 19) ?_
  refine tm 4 (some 20) ?_
  refine tl 5 (some 21) ?_
  refine tm 6 (some 22) ?_
  refine tl 7 (some 23) ?_
  refine tm 8 (some 24) ?_
  refine tl 9 (some 25) ?_
  have tg := Mk.mk (v := 0) (d := 0)
  iterate 2
   all_goals first
   |
    have _ : Mk _ 0 := tg
    refine wpAnyH_ready (rs := [10]) (by kernel_rfl) (by simp) (AllReadyH.cons rfl (fun K hK => cT 0 1 fun tg => ?_) AllReadyH.nil)
   |
    have _ : Mk _ 1 := tg
    refine wpAnyH_ready (rs := [13]) (by kernel_rfl) (by simp) (AllReadyH.cons rfl (fun K hK => cT 1 2 fun tg => ?_) AllReadyH.nil)
   all_goals first
   |
    have _ : Mk 0 _ := tg
    go_simp
    refine (HMK.out _ HN.out.bel).mono ?_
    rintro e wd ⟨a8, c8, b9, d9, rfl, hq0, hq1, hb⟩
    replace HN := Lib.hid (((HN.out.call hb).got hq0).got hq1)
    clear hb hq0 hq1
    go_wp2_with fail
    refine hK.out _ _ (⟨HN.out.cell 0 5 rfl rfl, HN.out.cell 0 6 rfl rfl, HN.out.cell 0 7 rfl rfl, HN.out.cell 0 8 rfl rfl, HN.out.cell 0 9 rfl rfl, HN.out.cell 0 10 rfl rfl, HN.out.cell 0 11 rfl rfl⟩) (fun hHeld2 => ?_)
    clear hK K hHeld
    rename _ => hHeld
    try simp only [Act.put, stB, stZ, stS]
    refine tm 11 (some 27) ?_
    refine tm 12 (some 28) ?_
   |
    have _ : Mk 1 _ := tg
    have hc5 := HN.out.cell 2 5 rfl rfl
    have hf5 := HN.out.free 2 5 rfl
    have hc6 := HN.out.cell 2 6 rfl rfl
    have hf6 := HN.out.free 2 6 rfl
    have hc7 := HN.out.cell 2 7 rfl rfl
    have hf7 := HN.out.free 2 7 rfl
    have hc8 := HN.out.cell 2 8 rfl rfl
    have hf8 := HN.out.free 2 8 rfl
    have hc9 := HN.out.cell 2 9 rfl rfl
    have hf9 := HN.out.free 2 9 rfl
    have hc10 := HN.out.cell 2 10 rfl rfl
    have hf10 := HN.out.free 2 10 rfl
    have hc11 := HN.out.cell 2 11 rfl rfl
    have hf11 := HN.out.free 2 11 rfl
    have hc12 := HN.out.cell 2 12 rfl rfl
    have hf12 := HN.out.free 2 12 rfl
    go_simp
    clear hc5 hf5 hc6 hf6 hc7 hf7 hc8 hf8 hc9 hf9 hc10 hf10 hc11 hf11 hc12 hf12
    replace HN := Lib.hid (((((((((HN.out).set 2 5 rfl rfl (fun _ => by simp) (.int .i64 x.op)).set 2 6 rfl rfl (fun _ => by simp) (.int .i64 x.row)).set 2 7 rfl rfl (fun _ => by simp) (.int .i64 x.col)).set 2 8 rfl rfl (fun _ => by simp) (.int .i64 x.kind)).set 2 9 rfl rfl (fun _ => by simp) (.bool qs)).set 2 10 rfl rfl (fun _ => by simp) (.slice a8 (lenW qn) c8)).set 2 11 rfl rfl (fun _ => by simp) (.slice b9 (lenW qd) d9)).set 2 12 rfl rfl (fun _ => by simp) (.slice none 0 0))
    generalize ((((((((wd.setCell ⟨W0.heap.size, 5, none⟩ (.int .i64 x.op)).setCell ⟨W0.heap.size, 6, none⟩ (.int .i64 x.row)).setCell ⟨W0.heap.size, 7, none⟩ (.int .i64 x.col)).setCell ⟨W0.heap.size, 8, none⟩ (.int .i64 x.kind)).setCell ⟨W0.heap.size, 9, none⟩ (.bool qs)).setCell ⟨W0.heap.size, 10, none⟩ (.slice a8 (lenW qn) c8)).setCell ⟨W0.heap.size, 11, none⟩ (.slice b9 (lenW qd) d9)).setCell ⟨W0.heap.size, 12, none⟩ (.slice none 0 0)) = wd at HN  ⊢
    refine hK.out _ _ (⟨HN.out.cell 0 5 rfl rfl, HN.out.cell 0 6 rfl rfl, HN.out.cell 0 7 rfl rfl, HN.out.cell 0 8 rfl rfl, HN.out.cell 0 9 rfl rfl, HN.out.cell 0 10 rfl rfl, HN.out.cell 0 11 rfl rfl⟩) (fun hHeld2 => ?_)
    clear hK K hHeld
    rename _ => hHeld
    try simp only [Act.put, stB, stZ, stS]
  all_goals (refine wpAnyH_done (by kernel_rfl) ?_ _)
  all_goals
   go_wp2_with fail
   go_meet
   exact ⟨a8, c8, b9, d9, HN.out⟩
 case rest =>
  obtain ⟨w2, rfl⟩ : ∃ w2 : World, w2 = wc := ⟨_, rfl⟩
  obtain ⟨a8, c8, b9, d9, hn0⟩ := hcut
  have HN := Lib.hid hn0
  clear hn0
  go_wp2_with fail
  go_loopw [4] (fun v4 wr => ∃ (j : Nat) (a5 : Option Addr) (c5 : Nat) (vs : List EntV), j ≤ x.en ∧ v4 = .int .i64 j ∧ vs.length = j ∧ (∀ v, v ∈ vs → v.r.sh) ∧ vs.map EntV.ent = (x.es.take j).map RawE.ent ∧ OB w [⟨w.heap.size, 29, [.int .i64 x.verb, .int .i64 x.ses, .int .i64 x.rig, .string x.tk, .string x.ot, .int .i64 x.op, .int .i64 x.row, .int .i64 x.col, .int .i64 x.kind, .bool x.sg, .slice x.a x.n x.c, .slice x.b x.m x.d, .slice x.ea x.en x.ec]⟩, ⟨w.heap.size + 1, 50, [.int .i64 0, .string ⟨#[]⟩, .int .i64 0, .int .i64 0, .string ⟨#[]⟩, .int .i64 0, .int .i64 0, .int .i64 0, .int .i64 0, .bool false, .slice none 0 0, .slice none 0 0, .slice none 0 0]⟩, ⟨W0.heap.size, 50, [.int .i64 x.verb, .string x.tk, .int .i64 x.ses, .int .i64 x.rig, .string x.ot, .int .i64 x.op, .int .i64 x.row, .int .i64 x.col, .int .i64 x.kind, .bool qs, .slice a8 (lenW qn) c8, .slice b9 (lenW qd) d9, .slice a5 j c5]⟩] (numsE vs ++ [⟨a8, c8, qn⟩, ⟨b9, d9, qd⟩]) 146 4 a5 j c5 (vs.flatMap EntV.cells) wr) (fun v4 _ => x.en - (intOf v4).toNat)
  case atStart => exact ⟨0, none, 0, [], Nat.zero_le _, rfl, rfl, fun _ h => (by cases h), rfl, OB.start HN.out⟩
  case round =>
   obtain ⟨j, a5, c5, vs, hj, rfl, hvl, hsh, hmp, hO⟩ := hrel
   have HO := Lib.hid hO
   have HVL := Lib.hid hvl
   have HSH := Lib.hid hsh
   have HMP := Lib.hid hmp
   clear hO hvl hsh hmp HN
   have k012 := HO.out.st.cell 0 12 rfl rfl
   by_cases hlt : j < x.en
   ·
    obtain ⟨en, eb, eo, hx9, hea, hlt8, hnc, c0, c1, c2, c3, hpw⟩ := HRW.out.get j hlt
    have HX9 := Lib.hid hx9
    have HEN := Lib.hid (fun (W : World) (hb : Below w.heap.size w W) => (⟨(hb.cell (p := ⟨eb, eo + j * 4, none⟩) hlt8).trans c0, (hb.cell (p := ⟨eb, eo + j * 4 + 1, none⟩) hlt8).trans c1, (hb.cell (p := ⟨eb, eo + j * 4 + 2, none⟩) hlt8).trans c2, (hb.cell (p := ⟨eb, eo + j * 4 + 3, none⟩) hlt8).trans c3⟩ : W.cell? ⟨eb, eo + j * 4, none⟩ = some (.int .i64 en.id) ∧ W.cell? ⟨eb, eo + j * 4 + 1, none⟩ = some (.bool en.sg) ∧ W.cell? ⟨eb, eo + j * 4 + 2, none⟩ = some (.slice en.a en.n en.c) ∧ W.cell? ⟨eb, eo + j * 4 + 3, none⟩ = some (.slice en.b en.m en.d)))
    obtain ⟨q, hq⟩ : ∃ q, ratG en.sg en.xs en.ys = q := ⟨_, rfl⟩
    have hm8 := fun (W : World) (hb : Below w.heap.size w W) => hpw.make en.sg W hb
    have hsm := hpw.size en.sg
    rw [hq] at hm8 hsm
    have HM8 := Lib.hid hm8
    have HSM := Lib.hid (show lenW q.num.natAbs ≤ 1099511627776 ∧ lenW q.den ≤ 1099511627776 by omega)
    have HQ := Lib.hid hq
    rw [hea] at HO k012
    clear c0 c1 c2 c3 hpw hm8 hsm hq hx9 hlt8
    go_upto_region 6 with fail
    clear k012
    replace HO := Lib.hid (show OB w [⟨w.heap.size, 29, [.int .i64 x.verb, .int .i64 x.ses, .int .i64 x.rig, .string x.tk, .string x.ot, .int .i64 x.op, .int .i64 x.row, .int .i64 x.col, .int .i64 x.kind, .bool x.sg, .slice x.a x.n x.c, .slice x.b x.m x.d, .slice (some ⟨eb, eo, none⟩) x.en x.ec]⟩, ⟨w.heap.size + 1, 50, [.int .i64 0, .string ⟨#[]⟩, .int .i64 0, .int .i64 0, .string ⟨#[]⟩, .int .i64 0, .int .i64 0, .int .i64 0, .int .i64 0, .bool false, .slice none 0 0, .slice none 0 0, .slice none 0 0]⟩, ⟨W0.heap.size, 50, [.int .i64 x.verb, .string x.tk, .int .i64 x.ses, .int .i64 x.rig, .string x.ot, .int .i64 x.op, .int .i64 x.row, .int .i64 x.col, .int .i64 x.kind, .bool qs, .slice a8 (lenW qn) c8, .slice b9 (lenW qd) d9, .slice a5 j c5]⟩] _ 146 4 a5 j c5 (vs.flatMap EntV.cells) wr.drew from HO.out.call (Below.drawn wr 1))
    have HEA := Lib.hid hea
    clear hea
    refine wp_region_held_drew (S := fun W => W.cell? ⟨w.heap.size, 12, none⟩ = some (.slice (some ⟨eb, eo, none⟩) x.en x.ec) ∧ W.cell? ⟨eb, eo + j * 4, none⟩ = some (.int .i64 en.id) ∧ W.cell? ⟨eb, eo + j * 4 + 1, none⟩ = some (.bool en.sg) ∧ W.cell? ⟨eb, eo + j * 4 + 2, none⟩ = some (.slice en.a en.n en.c) ∧ W.cell? ⟨eb, eo + j * 4 + 3, none⟩ = some (.slice en.b en.m en.d)) (by kernel_rfl) (⟨HO.out.st.cell 0 12 rfl rfl, HEN.out _ HO.out.st.bel⟩) (fun hHeld => ?_)
    generalize wr.drew = wd at HO hHeld ⊢
    refine tm 0 (some 36) ?_
    refine tm 1 (some 37) ?_
    refine tm 3 (some 39) ?_
    refine tl 4 (some 40) ?_
    refine tm 5 (some 41) ?_
    refine tl 6 (some 42) ?_
    refine tm 7 (some 43) ?_
    refine tl 8 (some 44) ?_
    refine tm 9 (some 45) ?_
    refine tl 10 (some 46) ?_
    refine tm 11 (some 47) ?_
    refine tl 12 (some 48) ?_
    refine tm 13 (some 49) ?_
    refine tl 14 (some 50) ?_
    refine wpAnyH_ready (rs := [2, 15]) (by kernel_rfl) (by simp) ?_
    refine (AllReadyH.cons rfl (fun K hK => ?_) (AllReadyH.cons rfl (fun K hK => ?_) AllReadyH.nil))
    ·
     skip
     have k0 := HO.out.st.cell 2 12 rfl rfl
     go_simp
     clear k0
     refine hK.out _ _ (⟨HO.out.st.cell 0 12 rfl rfl, HEN.out _ HO.out.st.bel⟩) (fun hHeld2 => ?_)
     clear hK K hHeld
     rename _ => hHeld
     try simp only [Act.put, stB, stZ, stS]
     refine wpAnyH_ready (rs := [15]) (by kernel_rfl) (by simp) ?_
     refine (AllReadyH.cons rfl (fun K hK => ?_) AllReadyH.nil)
     go_simp
     refine (HM8.out _ HO.out.st.bel).mono ?_
     rintro e wd ⟨ra, rc, rb, rd, rfl, q1, q2, hb⟩
     obtain ⟨v, hv⟩ : ∃ v : EntV, v = ⟨en.id, ⟨decide (q.num < 0), ra, lenW q.num.natAbs, rc, rb, lenW (denN q.den), rd, q⟩⟩ := ⟨_, rfl⟩
     have HV := Lib.hid hv
     have HO3 := Lib.hid (show OB w [⟨w.heap.size, 29, [.int .i64 x.verb, .int .i64 x.ses, .int .i64 x.rig, .string x.tk, .string x.ot, .int .i64 x.op, .int .i64 x.row, .int .i64 x.col, .int .i64 x.kind, .bool x.sg, .slice x.a x.n x.c, .slice x.b x.m x.d, .slice (some ⟨eb, eo, none⟩) x.en x.ec]⟩, ⟨w.heap.size + 1, 50, [.int .i64 0, .string ⟨#[]⟩, .int .i64 0, .int .i64 0, .string ⟨#[]⟩, .int .i64 0, .int .i64 0, .int .i64 0, .int .i64 0, .bool false, .slice none 0 0, .slice none 0 0, .slice none 0 0]⟩, ⟨W0.heap.size, 50, [.int .i64 x.verb, .string x.tk, .int .i64 x.ses, .int .i64 x.rig, .string x.ot, .int .i64 x.op, .int .i64 x.row, .int .i64 x.col, .int .i64 x.kind, .bool qs, .slice a8 (lenW qn) c8, .slice b9 (lenW qd) d9, .slice a5 j c5]⟩] (numsE (vs ++ [v]) ++ [⟨a8, c8, qn⟩, ⟨b9, d9, qd⟩]) 146 4 a5 j c5 (vs.flatMap EntV.cells) wd from ((((HO.out.call hb).got q2).got q1).ren fun x hx => by
      rw [numsE_snoc] at hx
      simp only [hv, Rv.nums, List.mem_append, List.mem_cons, List.not_mem_nil, or_false] at hx ⊢
      rcases hx with (hx | hx | hx) | hx
      ·
       exact .inr (.inr (.inl hx))
      ·
       exact .inl hx
      ·
       exact .inr (.inl hx)
      ·
       exact .inr (.inr (.inr hx))))
     have HCS := Lib.hid (show v.cells = [.int .i64 en.id, .bool (decide (q.num < 0)), .slice ra (lenW q.num.natAbs) rc, .slice rb (lenW (denN q.den)) rd] by rw [hv]; rfl)
     replace HO := HO3
     clear HO3 hb q1 q2 hv
     unfold ratV
     go_wp2_with fail
     generalize decide (q.num < 0) = rs at HCS ⊢
     generalize lenW q.num.natAbs = rl at HCS ⊢
     generalize lenW (denN q.den) = rm at HCS ⊢
     refine hK.out _ _ (⟨HO.out.st.cell 0 12 rfl rfl, HEN.out _ HO.out.st.bel⟩) (fun hHeld2 => ?_)
     clear hK K hHeld
     rename _ => hHeld
     try simp only [Act.put, stB, stZ, stS]
     refine tm 16 (some 52) ?_
     refine wpAnyH_ready (rs := [17]) (by kernel_rfl) (by simp) ?_
     refine (AllReadyH.cons rfl (fun K hK => ?_) AllReadyH.nil)
     go_simp
     refine hK.out _ _ ((fun hb9 => ⟨(hb9.cell (p := ⟨w.heap.size, 12, none⟩) (HO.out.st.lt 0 rfl)).trans (HO.out.st.cell 0 12 rfl rfl), HEN.out _ (bthen HO.out.st.bel hb9)⟩) (belowBox _ (.cells #[.int .i64 en.id, .bool rs, .slice ra rl rc, .slice rb rm rd] 146))) (fun hHeld2 => ?_)
     clear hK K hHeld
     rename _ => hHeld
     try simp only [Act.put, stB, stZ, stS]
     refine wpAnyH_ready (rs := [18]) (by kernel_rfl) (by simp) ?_
     refine (AllReadyH.cons rfl (fun K hK => ?_) AllReadyH.nil)
     refine step_append_at (a0 := a5) (c0 := c5) rfl _ _ 46 46 rfl i0 (.agg #[.int .i64 0, .bool false, .slice none 0 0, .slice none 0 0]) 64 Tryz.underlyingEs hi hz0 hz1 hz2 rfl rfl (HO.out.mid.alloc (.cells #[.int .i64 en.id, .bool rs, .slice ra rl rc, .slice rb rm rd] 146)) _ rfl 1 [.int .i64 en.id, .bool rs, .slice ra rl rc, .slice rb rm rd] ((Sl.lit _ 146 4 1 [.int .i64 en.id, .bool rs, .slice ra rl rc, .slice rb rm rd] (by unfold maxLen; omega) rfl).src (P := Tryz.prog) Tryz.underlyingEs (by
      intro u hu
      simp only [List.mem_cons, List.not_mem_nil, or_false] at hu
      rcases hu with rfl | rfl | rfl | rfl <;> rfl)) (by unfold maxLen; omega) (by omega) (Nat.le_trans HO.out.st.bel.size (belowBox _ _).size) ?_
     intro a6 c6 w6 hmo hgo hbo hao
     have HO6 := Lib.hid (HO.out.push (by decide) (by omega) hmo hgo hbo hao)
     replace HO := HO6
     clear HO6 hmo hgo hbo hao
     refine hK.out _ _ (⟨HO.out.st.cell 0 12 rfl rfl, HEN.out _ HO.out.st.bel⟩) (fun hHeld2 => ?_)
     clear hK K hHeld
     rename _ => hHeld
     try simp only [Act.put, stB, stZ, stS]
     refine tm 19 (some 55) ?_
     refine tm 20 (some 56) ?_
     refine wpAnyH_ready (rs := [21]) (by kernel_rfl) (by simp) ?_
     refine (AllReadyH.cons rfl (fun K hK => ?_) AllReadyH.nil)
     have k0 := HO.out.st.cell 2 12 rfl rfl
     have f0 := HO.out.st.free 2 12 rfl
     go_simp
     clear k0 f0
     refine hK.out _ _ (⟨(HO.out.set 2 12 rfl rfl (fun _ => by simp) (.slice a6 (j + 1) c6)).st.cell 0 12 rfl rfl, HEN.out _ (HO.out.set 2 12 rfl rfl (fun _ => by simp) (.slice a6 (j + 1) c6)).st.bel⟩) (fun hHeld2 => ?_)
     clear hK K hHeld
     rename _ => hHeld
     try simp only [Act.put, stB, stZ, stS]
     refine wpAnyH_done (by kernel_rfl) ?_ _
     have HO7 := Lib.hid (HO.out.set 2 12 rfl rfl (fun _ => by simp) (.slice a6 (j + 1) c6))
     clear hHeld
     go_wp2_with fail
     go_roundw
     case rel =>
      refine ⟨j + 1, a6, c6, vs ++ [v], by omega, by go_num, by rw [List.length_append, HVL.out]; rfl, fun u hu => ?_, ?_, ?_⟩
      ·
       rcases List.mem_append.1 hu with hu | hu
       ·
        exact HSH.out u hu
       ·
        rw [List.mem_singleton.1 hu, HV.out]
        exact ⟨rfl, rfl, rfl, HSM.out.1, HSM.out.2⟩
      ·
       rw [List.map_append, HMP.out, List.take_add_one, HX9.out, HV.out]
       rw [List.map_append]
       exact congrArg _ (show [(⟨en.id, q⟩ : Ent)] = [RawE.ent en] by rw [← HQ.out]; rfl)
      ·
       rw [List.flatMap_append, List.flatMap_cons, List.flatMap_nil, List.append_nil, HCS.out, HEA.out]
       exact HO7.out
     case measure => simp [intOf]; omega
    ·
     skip
     go_simp
     refine (HM8.out _ HO.out.st.bel).mono ?_
     rintro e wd ⟨ra, rc, rb, rd, rfl, q1, q2, hb⟩
     obtain ⟨v, hv⟩ : ∃ v : EntV, v = ⟨en.id, ⟨decide (q.num < 0), ra, lenW q.num.natAbs, rc, rb, lenW (denN q.den), rd, q⟩⟩ := ⟨_, rfl⟩
     have HV := Lib.hid hv
     have HO3 := Lib.hid (show OB w [⟨w.heap.size, 29, [.int .i64 x.verb, .int .i64 x.ses, .int .i64 x.rig, .string x.tk, .string x.ot, .int .i64 x.op, .int .i64 x.row, .int .i64 x.col, .int .i64 x.kind, .bool x.sg, .slice x.a x.n x.c, .slice x.b x.m x.d, .slice (some ⟨eb, eo, none⟩) x.en x.ec]⟩, ⟨w.heap.size + 1, 50, [.int .i64 0, .string ⟨#[]⟩, .int .i64 0, .int .i64 0, .string ⟨#[]⟩, .int .i64 0, .int .i64 0, .int .i64 0, .int .i64 0, .bool false, .slice none 0 0, .slice none 0 0, .slice none 0 0]⟩, ⟨W0.heap.size, 50, [.int .i64 x.verb, .string x.tk, .int .i64 x.ses, .int .i64 x.rig, .string x.ot, .int .i64 x.op, .int .i64 x.row, .int .i64 x.col, .int .i64 x.kind, .bool qs, .slice a8 (lenW qn) c8, .slice b9 (lenW qd) d9, .slice a5 j c5]⟩] (numsE (vs ++ [v]) ++ [⟨a8, c8, qn⟩, ⟨b9, d9, qd⟩]) 146 4 a5 j c5 (vs.flatMap EntV.cells) wd from ((((HO.out.call hb).got q2).got q1).ren fun x hx => by
      rw [numsE_snoc] at hx
      simp only [hv, Rv.nums, List.mem_append, List.mem_cons, List.not_mem_nil, or_false] at hx ⊢
      rcases hx with (hx | hx | hx) | hx
      ·
       exact .inr (.inr (.inl hx))
      ·
       exact .inl hx
      ·
       exact .inr (.inl hx)
      ·
       exact .inr (.inr (.inr hx))))
     have HCS := Lib.hid (show v.cells = [.int .i64 en.id, .bool (decide (q.num < 0)), .slice ra (lenW q.num.natAbs) rc, .slice rb (lenW (denN q.den)) rd] by rw [hv]; rfl)
     replace HO := HO3
     clear HO3 hb q1 q2 hv
     unfold ratV
     go_wp2_with fail
     generalize decide (q.num < 0) = rs at HCS ⊢
     generalize lenW q.num.natAbs = rl at HCS ⊢
     generalize lenW (denN q.den) = rm at HCS ⊢
     refine hK.out _ _ (⟨HO.out.st.cell 0 12 rfl rfl, HEN.out _ HO.out.st.bel⟩) (fun hHeld2 => ?_)
     clear hK K hHeld
     rename _ => hHeld
     try simp only [Act.put, stB, stZ, stS]
     refine tm 16 (some 52) ?_
     refine wpAnyH_ready (rs := [2, 17]) (by kernel_rfl) (by simp) ?_
     refine (AllReadyH.cons rfl (fun K hK => ?_) (AllReadyH.cons rfl (fun K hK => ?_) AllReadyH.nil))
     ·
      skip
      have k0 := HO.out.st.cell 2 12 rfl rfl
      go_simp
      clear k0
      refine hK.out _ _ (⟨HO.out.st.cell 0 12 rfl rfl, HEN.out _ HO.out.st.bel⟩) (fun hHeld2 => ?_)
      clear hK K hHeld
      rename _ => hHeld
      try simp only [Act.put, stB, stZ, stS]
      refine wpAnyH_ready (rs := [17]) (by kernel_rfl) (by simp) ?_
      refine (AllReadyH.cons rfl (fun K hK => ?_) AllReadyH.nil)
      go_simp
      refine hK.out _ _ ((fun hb9 => ⟨(hb9.cell (p := ⟨w.heap.size, 12, none⟩) (HO.out.st.lt 0 rfl)).trans (HO.out.st.cell 0 12 rfl rfl), HEN.out _ (bthen HO.out.st.bel hb9)⟩) (belowBox _ (.cells #[.int .i64 en.id, .bool rs, .slice ra rl rc, .slice rb rm rd] 146))) (fun hHeld2 => ?_)
      clear hK K hHeld
      rename _ => hHeld
      try simp only [Act.put, stB, stZ, stS]
      refine wpAnyH_ready (rs := [18]) (by kernel_rfl) (by simp) ?_
      refine (AllReadyH.cons rfl (fun K hK => ?_) AllReadyH.nil)
      refine step_append_at (a0 := a5) (c0 := c5) rfl _ _ 46 46 rfl i0 (.agg #[.int .i64 0, .bool false, .slice none 0 0, .slice none 0 0]) 64 Tryz.underlyingEs hi hz0 hz1 hz2 rfl rfl (HO.out.mid.alloc (.cells #[.int .i64 en.id, .bool rs, .slice ra rl rc, .slice rb rm rd] 146)) _ rfl 1 [.int .i64 en.id, .bool rs, .slice ra rl rc, .slice rb rm rd] ((Sl.lit _ 146 4 1 [.int .i64 en.id, .bool rs, .slice ra rl rc, .slice rb rm rd] (by unfold maxLen; omega) rfl).src (P := Tryz.prog) Tryz.underlyingEs (by
       intro u hu
       simp only [List.mem_cons, List.not_mem_nil, or_false] at hu
       rcases hu with rfl | rfl | rfl | rfl <;> rfl)) (by unfold maxLen; omega) (by omega) (Nat.le_trans HO.out.st.bel.size (belowBox _ _).size) ?_
      intro a6 c6 w6 hmo hgo hbo hao
      have HO6 := Lib.hid (HO.out.push (by decide) (by omega) hmo hgo hbo hao)
      replace HO := HO6
      clear HO6 hmo hgo hbo hao
      refine hK.out _ _ (⟨HO.out.st.cell 0 12 rfl rfl, HEN.out _ HO.out.st.bel⟩) (fun hHeld2 => ?_)
      clear hK K hHeld
      rename _ => hHeld
      try simp only [Act.put, stB, stZ, stS]
      refine tm 19 (some 55) ?_
      refine tm 20 (some 56) ?_
      refine wpAnyH_ready (rs := [21]) (by kernel_rfl) (by simp) ?_
      refine (AllReadyH.cons rfl (fun K hK => ?_) AllReadyH.nil)
      have k0 := HO.out.st.cell 2 12 rfl rfl
      have f0 := HO.out.st.free 2 12 rfl
      go_simp
      clear k0 f0
      refine hK.out _ _ (⟨(HO.out.set 2 12 rfl rfl (fun _ => by simp) (.slice a6 (j + 1) c6)).st.cell 0 12 rfl rfl, HEN.out _ (HO.out.set 2 12 rfl rfl (fun _ => by simp) (.slice a6 (j + 1) c6)).st.bel⟩) (fun hHeld2 => ?_)
      clear hK K hHeld
      rename _ => hHeld
      try simp only [Act.put, stB, stZ, stS]
      refine wpAnyH_done (by kernel_rfl) ?_ _
      have HO7 := Lib.hid (HO.out.set 2 12 rfl rfl (fun _ => by simp) (.slice a6 (j + 1) c6))
      clear hHeld
      go_wp2_with fail
      go_roundw
      case rel =>
       refine ⟨j + 1, a6, c6, vs ++ [v], by omega, by go_num, by rw [List.length_append, HVL.out]; rfl, fun u hu => ?_, ?_, ?_⟩
       ·
        rcases List.mem_append.1 hu with hu | hu
        ·
         exact HSH.out u hu
        ·
         rw [List.mem_singleton.1 hu, HV.out]
         exact ⟨rfl, rfl, rfl, HSM.out.1, HSM.out.2⟩
       ·
        rw [List.map_append, HMP.out, List.take_add_one, HX9.out, HV.out]
        rw [List.map_append]
        exact congrArg _ (show [(⟨en.id, q⟩ : Ent)] = [RawE.ent en] by rw [← HQ.out]; rfl)
       ·
        rw [List.flatMap_append, List.flatMap_cons, List.flatMap_nil, List.append_nil, HCS.out, HEA.out]
        exact HO7.out
      case measure => simp [intOf]; omega
     ·
      skip
      go_simp
      refine hK.out _ _ ((fun hb9 => ⟨(hb9.cell (p := ⟨w.heap.size, 12, none⟩) (HO.out.st.lt 0 rfl)).trans (HO.out.st.cell 0 12 rfl rfl), HEN.out _ (bthen HO.out.st.bel hb9)⟩) (belowBox _ (.cells #[.int .i64 en.id, .bool rs, .slice ra rl rc, .slice rb rm rd] 146))) (fun hHeld2 => ?_)
      clear hK K hHeld
      rename _ => hHeld
      try simp only [Act.put, stB, stZ, stS]
      refine wpAnyH_ready (rs := [2]) (by kernel_rfl) (by simp) ?_
      refine (AllReadyH.cons rfl (fun K hK => ?_) AllReadyH.nil)
      have k0 := ((belowBox wd (.cells #[.int .i64 en.id, .bool rs, .slice ra rl rc, .slice rb rm rd] 146)).cell (p := ⟨W0.heap.size, 12, none⟩) (HO.out.st.lt 2 rfl)).trans (HO.out.st.cell 2 12 rfl rfl)
      go_simp
      clear k0
      refine hK.out _ _ ((fun hb9 => ⟨(hb9.cell (p := ⟨w.heap.size, 12, none⟩) (HO.out.st.lt 0 rfl)).trans (HO.out.st.cell 0 12 rfl rfl), HEN.out _ (bthen HO.out.st.bel hb9)⟩) (belowBox _ (.cells #[.int .i64 en.id, .bool rs, .slice ra rl rc, .slice rb rm rd] 146))) (fun hHeld2 => ?_)
      clear hK K hHeld
      rename _ => hHeld
      try simp only [Act.put, stB, stZ, stS]
      refine wpAnyH_ready (rs := [18]) (by kernel_rfl) (by simp) ?_
      refine (AllReadyH.cons rfl (fun K hK => ?_) AllReadyH.nil)
      refine step_append_at (a0 := a5) (c0 := c5) rfl _ _ 46 46 rfl i0 (.agg #[.int .i64 0, .bool false, .slice none 0 0, .slice none 0 0]) 64 Tryz.underlyingEs hi hz0 hz1 hz2 rfl rfl (HO.out.mid.alloc (.cells #[.int .i64 en.id, .bool rs, .slice ra rl rc, .slice rb rm rd] 146)) _ rfl 1 [.int .i64 en.id, .bool rs, .slice ra rl rc, .slice rb rm rd] ((Sl.lit _ 146 4 1 [.int .i64 en.id, .bool rs, .slice ra rl rc, .slice rb rm rd] (by unfold maxLen; omega) rfl).src (P := Tryz.prog) Tryz.underlyingEs (by
       intro u hu
       simp only [List.mem_cons, List.not_mem_nil, or_false] at hu
       rcases hu with rfl | rfl | rfl | rfl <;> rfl)) (by unfold maxLen; omega) (by omega) (Nat.le_trans HO.out.st.bel.size (belowBox _ _).size) ?_
      intro a6 c6 w6 hmo hgo hbo hao
      have HO6 := Lib.hid (HO.out.push (by decide) (by omega) hmo hgo hbo hao)
      replace HO := HO6
      clear HO6 hmo hgo hbo hao
      refine hK.out _ _ (⟨HO.out.st.cell 0 12 rfl rfl, HEN.out _ HO.out.st.bel⟩) (fun hHeld2 => ?_)
      clear hK K hHeld
      rename _ => hHeld
      try simp only [Act.put, stB, stZ, stS]
      refine tm 19 (some 55) ?_
      refine tm 20 (some 56) ?_
      refine wpAnyH_ready (rs := [21]) (by kernel_rfl) (by simp) ?_
      refine (AllReadyH.cons rfl (fun K hK => ?_) AllReadyH.nil)
      have k0 := HO.out.st.cell 2 12 rfl rfl
      have f0 := HO.out.st.free 2 12 rfl
      go_simp
      clear k0 f0
      refine hK.out _ _ (⟨(HO.out.set 2 12 rfl rfl (fun _ => by simp) (.slice a6 (j + 1) c6)).st.cell 0 12 rfl rfl, HEN.out _ (HO.out.set 2 12 rfl rfl (fun _ => by simp) (.slice a6 (j + 1) c6)).st.bel⟩) (fun hHeld2 => ?_)
      clear hK K hHeld
      rename _ => hHeld
      try simp only [Act.put, stB, stZ, stS]
      refine wpAnyH_done (by kernel_rfl) ?_ _
      have HO7 := Lib.hid (HO.out.set 2 12 rfl rfl (fun _ => by simp) (.slice a6 (j + 1) c6))
      clear hHeld
      go_wp2_with fail
      go_roundw
      case rel =>
       refine ⟨j + 1, a6, c6, vs ++ [v], by omega, by go_num, by rw [List.length_append, HVL.out]; rfl, fun u hu => ?_, ?_, ?_⟩
       ·
        rcases List.mem_append.1 hu with hu | hu
        ·
         exact HSH.out u hu
        ·
         rw [List.mem_singleton.1 hu, HV.out]
         exact ⟨rfl, rfl, rfl, HSM.out.1, HSM.out.2⟩
       ·
        rw [List.map_append, HMP.out, List.take_add_one, HX9.out, HV.out]
        rw [List.map_append]
        exact congrArg _ (show [(⟨en.id, q⟩ : Ent)] = [RawE.ent en] by rw [← HQ.out]; rfl)
       ·
        rw [List.flatMap_append, List.flatMap_cons, List.flatMap_nil, List.append_nil, HCS.out, HEA.out]
        exact HO7.out
      case measure => simp [intOf]; omega
   ·
    obtain rfl : j = x.en := by omega
    have ⟨k10, k11, k12, k13, k14, k15, k16, k17, k18, k19, k110, k111, k112⟩ := HO.out.st.cg13 1 rfl
    have ⟨k20, k21, k22, k23, k24, k25, k26, k27, k28, k29, k210, k211, k212⟩ := HO.out.st.cg13 2 rfl
    have f10 := HO.out.st.free 1 0 rfl
    have f11 := HO.out.st.free 1 1 rfl
    have f12 := HO.out.st.free 1 2 rfl
    have f13 := HO.out.st.free 1 3 rfl
    have f14 := HO.out.st.free 1 4 rfl
    have f15 := HO.out.st.free 1 5 rfl
    have f16 := HO.out.st.free 1 6 rfl
    have f17 := HO.out.st.free 1 7 rfl
    have f18 := HO.out.st.free 1 8 rfl
    have f19 := HO.out.st.free 1 9 rfl
    have f110 := HO.out.st.free 1 10 rfl
    have f111 := HO.out.st.free 1 11 rfl
    have f112 := HO.out.st.free 1 12 rfl
    have HE := Lib.hid (show OB w [⟨w.heap.size, 29, [.int .i64 x.verb, .int .i64 x.ses, .int .i64 x.rig, .string x.tk, .string x.ot, .int .i64 x.op, .int .i64 x.row, .int .i64 x.col, .int .i64 x.kind, .bool x.sg, .slice x.a x.n x.c, .slice x.b x.m x.d, .slice x.ea x.en x.ec]⟩, ⟨w.heap.size + 1, 50, [.int .i64 x.verb, .string x.tk, .int .i64 x.ses, .int .i64 x.rig, .string x.ot, .int .i64 x.op, .int .i64 x.row, .int .i64 x.col, .int .i64 x.kind, .bool qs, .slice a8 (lenW qn) c8, .slice b9 (lenW qd) d9, .slice a5 x.en c5]⟩, ⟨W0.heap.size, 50, [.int .i64 x.verb, .string x.tk, .int .i64 x.ses, .int .i64 x.rig, .string x.ot, .int .i64 x.op, .int .i64 x.row, .int .i64 x.col, .int .i64 x.kind, .bool qs, .slice a8 (lenW qn) c8, .slice b9 (lenW qd) d9, .slice a5 x.en c5]⟩] _ 146 4 a5 x.en c5 (vs.flatMap EntV.cells) (((((((((((((wr.setCell ⟨w.heap.size + 1, 0, none⟩ (.int .i64 x.verb)).setCell ⟨w.heap.size + 1, 1, none⟩ (.string x.tk)).setCell ⟨w.heap.size + 1, 2, none⟩ (.int .i64 x.ses)).setCell ⟨w.heap.size + 1, 3, none⟩ (.int .i64 x.rig)).setCell ⟨w.heap.size + 1, 4, none⟩ (.string x.ot)).setCell ⟨w.heap.size + 1, 5, none⟩ (.int .i64 x.op)).setCell ⟨w.heap.size + 1, 6, none⟩ (.int .i64 x.row)).setCell ⟨w.heap.size + 1, 7, none⟩ (.int .i64 x.col)).setCell ⟨w.heap.size + 1, 8, none⟩ (.int .i64 x.kind)).setCell ⟨w.heap.size + 1, 9, none⟩ (.bool qs)).setCell ⟨w.heap.size + 1, 10, none⟩ (.slice a8 (lenW qn) c8)).setCell ⟨w.heap.size + 1, 11, none⟩ (.slice b9 (lenW qd) d9)).setCell ⟨w.heap.size + 1, 12, none⟩ (.slice a5 x.en c5)) from (((((((((((((HO.out.set 1 0 rfl rfl (fun _ => by simp) (.int .i64 x.verb)).set 1 1 rfl rfl (fun _ => by simp) (.string x.tk)).set 1 2 rfl rfl (fun _ => by simp) (.int .i64 x.ses)).set 1 3 rfl rfl (fun _ => by simp) (.int .i64 x.rig)).set 1 4 rfl rfl (fun _ => by simp) (.string x.ot)).set 1 5 rfl rfl (fun _ => by simp) (.int .i64 x.op)).set 1 6 rfl rfl (fun _ => by simp) (.int .i64 x.row)).set 1 7 rfl rfl (fun _ => by simp) (.int .i64 x.col)).set 1 8 rfl rfl (fun _ => by simp) (.int .i64 x.kind)).set 1 9 rfl rfl (fun _ => by simp) (.bool qs)).set 1 10 rfl rfl (fun _ => by simp) (.slice a8 (lenW qn) c8)).set 1 11 rfl rfl (fun _ => by simp) (.slice b9 (lenW qd) d9)).set 1 12 rfl rfl (fun _ => by simp) (.slice a5 x.en c5)))
    go_wp2_with fail
    (try simp only [Exit.inBlock, Exit.then])
    refine bodyPost_ret (v := .agg #[.int .i64 x.verb, .string x.tk, .int .i64 x.ses, .int .i64 x.rig, .string x.ot, .int .i64 x.op, .int .i64 x.row, .int .i64 x.col, .int .i64 x.kind, .bool qs, .slice a8 (lenW qn) c8, .slice b9 (lenW qd) d9, .slice a5 x.en c5]) ?_ rfl ?_
    ·
     rw [results_cell1 rfl]
     have hbk := (HE.out.st.at 1 rfl : _ = some (Obj.cells #[.int .i64 x.verb, .string x.tk, .int .i64 x.ses, .int .i64 x.rig, .string x.ot, .int .i64 x.op, .int .i64 x.row, .int .i64 x.col, .int .i64 x.kind, .bool qs, .slice a8 (lenW qn) c8, .slice b9 (lenW qd) d9, .slice a5 x.en c5] 50 (0, 0)))
     generalize (((((((((((((wr.setCell ⟨w.heap.size + 1, 0, none⟩ (.int .i64 x.verb)).setCell ⟨w.heap.size + 1, 1, none⟩ (.string x.tk)).setCell ⟨w.heap.size + 1, 2, none⟩ (.int .i64 x.ses)).setCell ⟨w.heap.size + 1, 3, none⟩ (.int .i64 x.rig)).setCell ⟨w.heap.size + 1, 4, none⟩ (.string x.ot)).setCell ⟨w.heap.size + 1, 5, none⟩ (.int .i64 x.op)).setCell ⟨w.heap.size + 1, 6, none⟩ (.int .i64 x.row)).setCell ⟨w.heap.size + 1, 7, none⟩ (.int .i64 x.col)).setCell ⟨w.heap.size + 1, 8, none⟩ (.int .i64 x.kind)).setCell ⟨w.heap.size + 1, 9, none⟩ (.bool qs)).setCell ⟨w.heap.size + 1, 10, none⟩ (.slice a8 (lenW qn) c8)).setCell ⟨w.heap.size + 1, 11, none⟩ (.slice b9 (lenW qd) d9)).setCell ⟨w.heap.size + 1, 12, none⟩ (.slice a5 x.en c5)) = WE at hbk ⊢
     exact Go.Lib.rl_loadVar_cells 50 _ hiR (fun _ => by kernel_rfl) (w.heap.size + 1) 0 [.int .i64 x.verb, .string x.tk, .int .i64 x.ses, .int .i64 x.rig, .string x.ot, .int .i64 x.op, .int .i64 x.row, .int .i64 x.col, .int .i64 x.kind, .bool qs, .slice a8 (lenW qn) c8, .slice b9 (lenW qd) d9, .slice a5 x.en c5] hzR.symm _ (fun k v hk => by
      rw [Nat.zero_add]
      exact cell_of_block (j := k) hbk (by simpa using hk))
    ·
     obtain ⟨rfl, rfl, rfl, hq, hsm⟩ := HQV.out
     have hbs := HE.out.st
     refine ⟨⟨x.verb, x.tk, x.ses, x.rig, x.ot, x.op, x.row, x.col, x.kind, ⟨decide (qq.num < 0), a8, lenW qq.num.natAbs, c8, b9, lenW (denN qq.den), d9, qq⟩, a5, x.en, c5, vs⟩, rfl, ⟨by show x.tk.size ≤ _; omega, by show x.ot.size ≤ _; omega, ⟨rfl, rfl, rfl, hbs.num ⟨a8, c8, qq.num.natAbs⟩ (by simp), hbs.num ⟨b9, d9, denN qq.den⟩ (by simp)⟩, by show lenW qq.num.natAbs ≤ _; omega, by show lenW qq.den ≤ _; omega, ⟨HVL.out, Sl.ofMid HE.out.mid, fun v hv => ⟨(HSH.out v hv).ok hbs (fun y hy => List.mem_append_left _ (List.mem_flatMap.2 ⟨v, hv, hy⟩)), (HSH.out v hv).num, (HSH.out v hv).den⟩⟩, by show x.en ≤ _; omega⟩, ?_, hbs.bel⟩
     unfold MsgV.msg RawV.msg
     simp only [HMP.out]
     rw [List.take_of_length_le (by rw [HRW.out.len]; exact Nat.le_refl _), hq]
end Go.Proofs.YtmhainidincjhaaGreatDoor
