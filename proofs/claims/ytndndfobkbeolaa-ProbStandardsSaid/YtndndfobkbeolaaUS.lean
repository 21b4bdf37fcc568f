/-
  What the laws stand on, part S: contracts and plain laws of PStdM, PStd; the conditions are each law's own.
-/
import Derived.Test.YtndndfobkbeolaaUM
import Derived.Test.YtndndfobkbeolaaUV
set_option linter.unusedVariables false
set_option linter.unusedSimpArgs false
namespace Go.Proofs.Ytndndfobkbeolaa
open Go.RowKit Go.Extern.Stop Go.Stop Go.Extern
theorem Try.infoInt : (Try.prog.info? 3).map (fun i => (i.zero, i.size, i.bytes)) = some (some (.int .i64 0), 1, 8) := by kernel_rfl
theorem zero_flat (m : Nat) : (Builtin.zeroCells (Value.cells (.agg #[.bool false, .slice none 0 0, .slice none 0 0])) m).toList = (List.replicate m Rv.zero).flatMap Rv.cells := by
  have h := made_flat Rv.cells 3 (by omega) rvCells_len Rv.zero (Value.cells (.agg #[.bool false, .slice none 0 0, .slice none 0 0])) rfl m
  have e : Builtin.zeroCells (Value.cells (.agg #[.bool false, .slice none 0 0, .slice none 0 0])) m = madeCells (Value.cells (.agg #[.bool false, .slice none 0 0, .slice none 0 0])) (m * 3) := rfl
  rw [e, h]
section
variable {w0 W W' : World} {l : List Rat} {a : Option Addr} {n c : Nat} {vs : List Rv} {S : Nat → Prop}
structure Foreign (W : World) (base : Nat) (U : TypeId) (S : Nat → Prop) : Prop where
  ty : ∀ z, S z → ∃ cs, W.heap[z]? = some (.cells cs U (0, 0))
  ge : ∀ z, S z → base ≤ z
theorem Foreign.mid {base : Nat} {e : TypeId} {size n : Nat} {v : Value} {xs : List Value} (h : Mid W base e size v n xs) : Foreign W base e (fun z => v.ownBlock = some z) := ⟨fun z hz => h.typed hz, fun z hz => (h.lt z hz).1⟩
theorem Foreign.one {q base : Nat} {cs : Array Value} {T : TypeId} (h : W.heap[q]? = some (.cells cs T (0, 0))) (hg : base ≤ q) : Foreign W base T (fun z => z = q) := ⟨fun z hz => by rw [hz]; exact ⟨_, h⟩, fun z hz => by rw [hz]; exact hg⟩
theorem Foreign.box {base : Nat} {U T : TypeId} (hf : Foreign W base U S) (hk : Keeps W W' S) (hT : T ≠ U) {q : Nat} {cs : Array Value} (hq : W.heap[q]? = some (.cells cs T (0, 0))) : W'.heap[q]? = some (.cells cs T (0, 0)) :=
  (hk.block q (lt_of_block hq) fun hs => by
    obtain ⟨ds, h2⟩ := hf.ty q hs
    exact typed_ne hq h2 hT rfl).trans hq
theorem Foreign.rv {base : Nat} {U : TypeId} (hf : Foreign W base U S) (hk : Keeps W W' S) (hU : U ≠ 128) {v : Rv} (hv : v.ok W) : v.ok W' := hv.keeps hk fun z hz => by
  obtain ⟨ds, h2⟩ := hf.ty z hz
  exact noWord_of h2 hU
theorem Foreign.mids {base b2 : Nat} {U e : TypeId} (hf : Foreign W base U S) (hk : Keeps W W' S) (hU : e ≠ U) {size n : Nat} {v : Value} {xs : List Value} (h : Mid W b2 e size v n xs) : Mid W' b2 e size v n xs := h.keeps hk fun z hz hs => by
  obtain ⟨ds, h2⟩ := hf.ty z hs
  obtain ⟨es, h3⟩ := h.typed hz
  exact typed_ne h3 h2 hU rfl
theorem VB.foreign {U : TypeId} (h : VB w0 l a n c vs W) (hf : Foreign W w0.heap.size U S) (hk : Keeps W W' S) (h1 : 40 ≠ U) (h2 : U ≠ 128) : VB w0 l a n c vs W' :=
  ⟨hf.mids hk h1 h.mid, h.len, fun v hv => hf.rv hk h2 (h.ok v hv), h.q, h.bel.trans (hk.below h.bel.size hf.ge)⟩
theorem VB.push0 (h : VB w0 l a n c vs W) {m : Nat} {a' : Option Addr} {c' : Nat} (hm : Mid W' w0.heap.size 40 3 (.slice a' (n + m) c') (n + m) (vs.flatMap Rv.cells ++ (Builtin.zeroCells (Value.cells (.agg #[.bool false, .slice none 0 0, .slice none 0 0])) m).toList)) (hg : W.grownBy W' (Value.slice a n c).ownBlock) : VB w0 (l ++ List.replicate m 0) a' (n + m) c' (vs ++ List.replicate m Rv.zero) W' := by
  have hk : Keeps W W' (fun z => (Value.slice a n c).ownBlock = some z) := Keeps.of_grown hg fun b h => h
  have hok : ∀ v : Rv, v.ok W → v.ok W' := fun v hv => hv.keeps hk fun z hz => h.mid.noWord (by decide) z hz
  rw [zero_flat, ← List.flatMap_append] at hm
  refine ⟨hm, by rw [List.length_append, h.len, List.length_replicate], fun u hu => ?_, ?_, h.bel.trans (hk.below h.bel.size fun z hz => (h.mid.lt z hz).1)⟩
  · rcases List.mem_append.1 hu with hu | hu
    · exact hok u (h.ok u hu)
    · rw [List.eq_of_mem_replicate hu]; exact Rv.zero_ok _
  · unfold qs
    rw [List.map_append, List.map_replicate, ← h.q]; rfl
structure IB (w0 : World) (L : List Int) (a : Option Addr) (n c : Nat) (W : World) : Prop where
  mid : Mid W w0.heap.size 3 1 (.slice a n c) n (L.map IV)
  len : L.length = n
  bel : Below w0.heap.size w0 W
variable {L : List Int}
theorem IB.call (h : IB w0 L a n c W) (hb : Below W.heap.size W W') : IB w0 L a n c W' := ⟨mid_under h.mid hb, h.len, bthen h.bel hb⟩
theorem IB.foreign {U : TypeId} (h : IB w0 L a n c W) (hf : Foreign W w0.heap.size U S) (hk : Keeps W W' S) (h1 : 3 ≠ U) : IB w0 L a n c W' := ⟨hf.mids hk h1 h.mid, h.len, h.bel.trans (hk.below h.bel.size hf.ge)⟩
theorem IB.push (h : IB w0 L a n c W) {ob : Obj} {x : Int} {a' : Option Addr} {c' : Nat} (hm : Mid W' w0.heap.size 3 1 (.slice a' (n + 1) c') (n + 1) (L.map IV ++ [IV x])) (hg : (W.alloc ob).grownBy W' (Value.slice a n c).ownBlock) : IB w0 (L ++ [x]) a' (n + 1) c' W' :=
  ⟨by rw [List.map_append]; exact hm, by rw [List.length_append, h.len]; rfl, h.bel.trans ((grown_keeps hg).below h.bel.size fun z hz => (h.mid.lt z hz).1)⟩
end
structure XB (w0 : World) (cols : Nat) (a : Option Addr) (n c : Nat) (ms : List MRow) (W : World) : Prop where
  mid : Mid W w0.heap.size 28 1 (.slice a n c) n (ms.flatMap mrowCells)
  len : ms.length = n
  ok : ∀ r, r ∈ ms → Mid W w0.heap.size 40 3 (.slice r.a r.n r.c) r.n (r.vs.flatMap Rv.cells) ∧ r.vs.length = r.n ∧ (∀ v, v ∈ r.vs → v.ok W) ∧ r.n = cols
  bel : Below w0.heap.size w0 W
section
variable {w0 W W' : World} {a : Option Addr} {n c cols : Nat} {ms : List MRow} {S : Nat → Prop}
theorem XB.nil (hb : Below w0.heap.size w0 W) (cols : Nat) : XB w0 cols none 0 0 [] W := ⟨by simpa using Mid.nil W w0.heap.size 28 1, rfl, fun _ h => (by cases h), hb⟩
theorem XB.call (h : XB w0 cols a n c ms W) (hb : Below W.heap.size W W') : XB w0 cols a n c ms W' :=
  ⟨mid_under h.mid hb, h.len, fun r hr => ⟨mid_under (h.ok r hr).1 hb, (h.ok r hr).2.1, fun v hv => ((h.ok r hr).2.2.1 v hv).below hb, (h.ok r hr).2.2.2⟩, bthen h.bel hb⟩
theorem XB.foreign {U : TypeId} (h : XB w0 cols a n c ms W) (hf : Foreign W w0.heap.size U S) (hk : Keeps W W' S) (h1 : 40 ≠ U) (h2 : 28 ≠ U) (h3 : U ≠ 128) : XB w0 cols a n c ms W' :=
  ⟨hf.mids hk h2 h.mid, h.len, fun r hr => ⟨hf.mids hk h1 (h.ok r hr).1, (h.ok r hr).2.1, fun v hv => hf.rv hk h3 ((h.ok r hr).2.2.1 v hv), (h.ok r hr).2.2.2⟩, h.bel.trans (hk.below h.bel.size hf.ge)⟩
theorem XB.push (h : XB w0 cols a n c ms W) {ob : Obj} {r : MRow} {a' : Option Addr} {c' : Nat} (hr : Mid W w0.heap.size 40 3 (.slice r.a r.n r.c) r.n (r.vs.flatMap Rv.cells)) (hrl : r.vs.length = r.n) (hro : ∀ v, v ∈ r.vs → v.ok W) (hrn : r.n = cols)
    (hm : Mid W' w0.heap.size 28 1 (.slice a' (n + 1) c') (n + 1) (ms.flatMap mrowCells ++ [.slice r.a r.n r.c])) (hg : (W.alloc ob).grownBy W' (Value.slice a n c).ownBlock) : XB w0 cols a' (n + 1) c' (ms ++ [r]) W' := by
  have hk := grown_keeps hg
  have hf := Foreign.mid h.mid
  refine ⟨by rw [List.flatMap_append]; simpa [mrowCells] using hm, by rw [List.length_append, h.len]; rfl, fun q hq => ?_, h.bel.trans (hk.below h.bel.size hf.ge)⟩
  rcases List.mem_append.1 hq with hq | hq
  · exact ⟨hf.mids hk (by decide) (h.ok q hq).1, (h.ok q hq).2.1, fun v hv => hf.rv hk (by decide) ((h.ok q hq).2.2.1 v hv), (h.ok q hq).2.2.2⟩
  · rw [List.mem_singleton.1 hq]
    exact ⟨hf.mids hk (by decide) hr, hrl, fun v hv => hf.rv hk (by decide) (hro v hv), hrn⟩
theorem XB.mat (h : XB w0 cols a n c ms W) : MatW W a n c cols ms := ⟨h.len, Sl.ofMid h.mid, fun r hr => ⟨⟨(h.ok r hr).2.1, Sl.ofMid (h.ok r hr).1, (h.ok r hr).2.2.1⟩, (h.ok r hr).2.2.2⟩⟩
end
theorem MB.foreign {w0 W W' : World} {ma : Option Addr} {mn mc cols : Nat} {gs : List Nat} {vss : List (List Rv)} {S : Nat → Prop} {U : TypeId} (h : MB w0 ma mn mc cols gs vss W) (hf : Foreign W w0.heap.size U S) (hk : Keeps W W' S) (h1 : 40 ≠ U) (h2 : 28 ≠ U) (h3 : U ≠ 128) : MB w0 ma mn mc cols gs vss W' :=
  ⟨hf.mids hk h2 h.mid, h.gl, h.vl, fun i g vs e1 e2 => ⟨hf.box hk h1 (h.row i g vs e1 e2).1, (h.row i g vs e1 e2).2.1, fun v hv => hf.rv hk h3 ((h.row i g vs e1 e2).2.2 v hv)⟩, h.nod, h.ge, h.bel.trans (hk.below h.bel.size hf.ge)⟩
theorem VB.rebase {w w1 W : World} {l : List Rat} {a : Option Addr} {n c : Nat} {vs : List Rv} (h : VB w1 l a n c vs W) (hb : Below w.heap.size w w1) : VB w l a n c vs W := ⟨h.mid.mono hb.size, h.len, h.ok, h.q, bthen hb h.bel⟩
structure St1 (w : World) (pb ob sb : Nat) (pv : Array Value) (C : Value) (own : Nat) (ba : Option Addr) (nb bc : Nat) (bs : List Rv) (Q : List Rat) (la : Option Addr) (nl lc : Nat) (L : List Int) (W : World) : Prop where
  p : W.heap[pb]? = some (.cells pv 31 (0, 0))
  o : W.heap[ob]? = some (.cells #[.slice none 0 0, .int .i64 0, .slice none 0 0, .slice none 0 0, .int .i64 0, .slice none 0 0] 59 (0, 0))
  s : W.heap[sb]? = some (.cells #[.slice none 0 0, .int .i64 0, .slice ba nb bc, C, .int .i64 own, .slice la nl lc] 59 (0, 0))
  b : VB w Q ba nb bc bs W
  l : IB w L la nl lc W
  go : w.heap.size ≤ ob
  gs : w.heap.size ≤ sb
  ne : ob ≠ sb
section
variable {w W W' : World} {pb ob sb : Nat} {pv : Array Value} {C : Value} {own : Nat} {ba : Option Addr} {nb bc : Nat} {bs : List Rv} {Q : List Rat} {la : Option Addr} {nl lc : Nat} {L : List Int}
theorem St1.call (h : St1 w pb ob sb pv C own ba nb bc bs Q la nl lc L W) (hb : Below W.heap.size W W') : St1 w pb ob sb pv C own ba nb bc bs Q la nl lc L W' :=
  ⟨(hb.block _ (lt_of_block h.p)).trans h.p, (hb.block _ (lt_of_block h.o)).trans h.o, (hb.block _ (lt_of_block h.s)).trans h.s, h.b.call hb, h.l.call hb, h.go, h.gs, h.ne⟩
theorem St1.pushL (h : St1 w pb ob sb pv C own ba nb bc bs Q la nl lc L W) {o' : Obj} {x : Int} {a' : Option Addr} {c' : Nat} (hm : Mid W' w.heap.size 3 1 (.slice a' (nl + 1) c') (nl + 1) (L.map IV ++ [IV x])) (hg : (W.alloc o').grownBy W' (Value.slice la nl lc).ownBlock) :
    St1 w pb ob sb pv C own ba nb bc bs Q a' (nl + 1) c' (L ++ [x]) (W'.setCell ⟨sb, 5, none⟩ (.slice a' (nl + 1) c')) ∧ (∀ (q : Nat) (cs : Array Value) (T : TypeId), W.heap[q]? = some (.cells cs T (0, 0)) → T ≠ 3 → T ≠ 59 → (W'.setCell ⟨sb, 5, none⟩ (.slice a' (nl + 1) c')).heap[q]? = some (.cells cs T (0, 0))) ∧ W'.heap[sb]? = W.heap[sb]? ∧ (∀ v : Rv, v.ok W → v.ok (W'.setCell ⟨sb, 5, none⟩ (.slice a' (nl + 1) c'))) := by
  have hk := grown_keeps hg
  have hf := Foreign.mid h.l.mid
  have s1 := hf.box hk (by decide) h.s
  have k2 := Keeps.setCell W' ⟨sb, 5, none⟩ (.slice a' (nl + 1) c') (S := fun z => z = sb) rfl
  have f2 := Foreign.one s1 h.gs
  refine ⟨⟨f2.box k2 (by decide) (hf.box hk (by decide) h.p), (k2.block ob (lt_of_block (hf.box hk (by decide) h.o)) h.ne).trans (hf.box hk (by decide) h.o), ?_, (h.b.foreign hf hk (by decide) (by decide)).foreign f2 k2 (by decide) (by decide), (h.l.push hm hg).foreign f2 k2 (by decide), h.go, h.gs, h.ne⟩, fun q cs T hq h1 h2 => f2.box k2 h2 (hf.box hk h1 hq), s1.trans h.s.symm, fun v hv => f2.rv k2 (by decide) (hf.rv hk (by decide) hv)⟩
  have := heap_setCell_same W' sb 5 _ _ (.slice a' (nl + 1) c') s1
  simpa using this
theorem St1.pushB (h : St1 w pb ob sb pv C own ba nb bc bs Q la nl lc L W) {o' : Obj} {v : Rv} {a' : Option Addr} {c' : Nat} (hv : v.ok W) (hm : Mid W' w.heap.size 40 3 (.slice a' (nb + 1) c') (nb + 1) (bs.flatMap Rv.cells ++ v.cells)) (hg : (W.alloc o').grownBy W' (Value.slice ba nb bc).ownBlock) :
    St1 w pb ob sb pv C own a' (nb + 1) c' (bs ++ [v]) (Q ++ [v.q]) la nl lc L (W'.setCell ⟨sb, 2, none⟩ (.slice a' (nb + 1) c')) ∧ W'.heap[sb]? = W.heap[sb]? := by
  have hk := grown_keeps hg
  have hf := Foreign.mid h.b.mid
  have s1 := hf.box hk (by decide) h.s
  have k2 := Keeps.setCell W' ⟨sb, 2, none⟩ (.slice a' (nb + 1) c') (S := fun z => z = sb) rfl
  have f2 := Foreign.one s1 h.gs
  refine ⟨⟨f2.box k2 (by decide) (hf.box hk (by decide) h.p), (k2.block ob (lt_of_block (hf.box hk (by decide) h.o)) h.ne).trans (hf.box hk (by decide) h.o), ?_, (h.b.push hv hm hg).foreign f2 k2 (by decide) (by decide), (h.l.foreign hf hk (by decide)).foreign f2 k2 (by decide), h.go, h.gs, h.ne⟩, s1.trans h.s.symm⟩
  have := heap_setCell_same W' sb 2 _ _ (.slice a' (nb + 1) c') s1
  simpa using this
theorem St1.foreign (h : St1 w pb ob sb pv C own ba nb bc bs Q la nl lc L W) {v : Value} (hf : Foreign W w.heap.size 28 (fun z => v.ownBlock = some z)) (hk : Keeps W W' (fun z => v.ownBlock = some z)) : St1 w pb ob sb pv C own ba nb bc bs Q la nl lc L W' :=
  ⟨hf.box hk (by decide) h.p, hf.box hk (by decide) h.o, hf.box hk (by decide) h.s, h.b.foreign hf hk (by decide) (by decide), h.l.foreign hf hk (by decide), h.go, h.gs, h.ne⟩
theorem St1.setC (h : St1 w pb ob sb pv C own ba nb bc bs Q la nl lc L W) (v : Value) : St1 w pb ob sb pv v own ba nb bc bs Q la nl lc L (W.setCell ⟨sb, 3, none⟩ v) := by
  have k2 := Keeps.setCell W ⟨sb, 3, none⟩ v (S := fun z => z = sb) rfl
  have f2 := Foreign.one h.s h.gs
  refine ⟨f2.box k2 (by decide) h.p, (k2.block ob (lt_of_block h.o) h.ne).trans h.o, ?_, h.b.foreign f2 k2 (by decide) (by decide), h.l.foreign f2 k2 (by decide), h.go, h.gs, h.ne⟩
  have := heap_setCell_same W sb 3 _ _ v h.s
  simpa using this
end
structure StdW (w : World) (ma : Option Addr) (mn mc cols : Nat) (ba : Option Addr) (bc : Nat) (ca : Option Addr) (cc : Nat) (la : Option Addr) (lc : Nat) (ms : List MRow) (bs cs : List Rv) (ls : List Int) : Prop where
  mat : MatW w ma mn mc cols ms
  b : VecW w ba mn bc bs
  c : VecW w ca cols cc cs
  l : Sl w 1 (.slice la mn lc) mn (ls.map IV)
  ll : ls.length = mn
theorem StdW.below {w w' : World} {ma ba ca la : Option Addr} {mn mc cols bc cc lc : Nat} {ms : List MRow} {bs cs : List Rv} {ls : List Int} (h : StdW w ma mn mc cols ba bc ca cc la lc ms bs cs ls) (hb : Below w.heap.size w w') : StdW w' ma mn mc cols ba bc ca cc la lc ms bs cs ls :=
  ⟨h.mat.below hb, h.b.below hb, h.c.below hb, h.l.below hb, h.ll⟩
structure IsStd (cn : Nat) (cost : List Rat) (rows : List PRow) (cols : Nat) (ms : List MRow) (bs cs : List Rv) (ls : List Int) : Prop where
  cols : cols = cn + slacks (rows.map (·.kind))
  l : ls = lefts cn (rows.map (·.kind))
  b : qs bs = rows.map (·.rhs.q)
  c : qs cs = cost ++ List.replicate (slacks (rows.map (·.kind))) 0
  m : ms.map (fun r => qs r.vs) = (rows.zip ls).map fun x => stdRow (qs x.1.coef) (slacks (rows.map (·.kind))) x.2 x.1.kind
end Go.Proofs.Ytndndfobkbeolaa
namespace Go.Proofs.Ytndndfobkbeolaa
open Go.RowKit Go.Extern.Stop Go.Stop Go.Extern
theorem sign_any (k : Int) (w : World) : Calls Try.prog 55 #[.int .i64 k] w fun e w' => e = .returned (.int .i64 (signK k)) ∧ w' = w := by
  unfold signK
  by_cases h : k = 1
  · subst h
    go_enter Try.func55, Try.ntmps55
    go_wp2
    go_ret
    exact ⟨rfl, rfl⟩
  · have e1 : (k == 1) = false := beq_eq_false_iff_ne.2 h
    rw [if_neg h]
    clear h
    go_enter Try.func55, Try.ntmps55
    go_wp2
    go_ret
    exact ⟨rfl, rfl⟩
theorem mayAt_ok (cn : Nat) : ∀ (k : Nat) (rows : List PRow), mayAt cn k rows = noF → ∀ r, r ∈ rows → r.n = cn ∧ 1 ≤ r.kind ∧ r.kind ≤ 3
  | _, [], _, _, h => by cases h
  | k, x :: xs, h, r, hr => by
    rw [mayAt_cons] at h
    split at h
    · exact absurd (congrArg Prod.fst h) (show ¬ (2 : Int) = 0 by decide)
    · rename_i h1
      split at h
      · exact absurd (congrArg Prod.fst h) (show ¬ (160 : Int) = 0 by decide)
      · rename_i h2
        rcases List.mem_cons.1 hr with rfl | hr
        · omega
        · exact mayAt_ok cn (k + 1) xs h r hr
theorem mayF_ok {cn : Nat} {rows : List PRow} (h : mayF cn rows = noF) : cn ≤ 24 ∧ rows.length ≤ 20 ∧ ∀ r, r ∈ rows → r.n = cn ∧ 1 ≤ r.kind ∧ r.kind ≤ 3 := by
  unfold mayF at h
  split at h
  · exact absurd (congrArg Prod.fst h) (by decide)
  · exact ⟨by omega, by omega, mayAt_ok cn 0 rows h⟩
theorem ErrV.isNil {w : World} {base : Nat} {v : Value} (h : ErrV w base noF v) : v = .nilIface := by
  rcases h with ⟨_, h⟩ | ⟨_, _, h, _⟩ | ⟨h, _⟩
  · exact h
  · exact absurd rfl h
  · exact absurd rfl h
theorem lefts_get : ∀ (n : Nat) (ks : List Int) (i : Nat) (x : Int), (lefts n ks)[i]? = some x → x = -1 ∨ ((n : Int) ≤ x ∧ x < ((n + slacks ks : Nat) : Int))
  | n, [], i, x, h => by simp [lefts] at h
  | n, k :: ks, 0, x, h => by
    unfold lefts at h
    split at h
    · left; simpa using h.symm
    · right
      rename_i hk
      simp at h
      unfold slacks
      rw [if_neg hk]
      omega
  | n, k :: ks, i + 1, x, h => by
    unfold lefts at h
    unfold slacks
    split at h
    · rename_i hk
      rw [if_pos hk]
      rcases lefts_get n ks i x (by simpa using h) with h1 | h1
      · exact .inl h1
      · right; omega
    · rename_i hk
      rw [if_neg hk]
      rcases lefts_get (n + 1) ks i x (by simpa using h) with h1 | h1
      · exact .inl h1
      · right; omega
theorem six_set (W : World) (b : Nat) (x0 x1 x2 x3 x4 x5 y0 y1 y2 y3 y4 y5 : Value) (T : TypeId) (h : W.heap[b]? = some (.cells #[x0, x1, x2, x3, x4, x5] T (0, 0))) :
    ((((((W.setCell ⟨b, 0, none⟩ y0).setCell ⟨b, 1, none⟩ y1).setCell ⟨b, 2, none⟩ y2).setCell ⟨b, 3, none⟩ y3).setCell ⟨b, 4, none⟩ y4).setCell ⟨b, 5, none⟩ y5).heap[b]? = some (.cells #[y0, y1, y2, y3, y4, y5] T (0, 0)) ∧
    Keeps W ((((((W.setCell ⟨b, 0, none⟩ y0).setCell ⟨b, 1, none⟩ y1).setCell ⟨b, 2, none⟩ y2).setCell ⟨b, 3, none⟩ y3).setCell ⟨b, 4, none⟩ y4).setCell ⟨b, 5, none⟩ y5) (fun z => z = b) := by
  have a0 := heap_setCell_same W b 0 _ _ y0 h
  have a1 := heap_setCell_same _ b 1 _ _ y1 a0
  have a2 := heap_setCell_same _ b 2 _ _ y2 a1
  have a3 := heap_setCell_same _ b 3 _ _ y3 a2
  have a4 := heap_setCell_same _ b 4 _ _ y4 a3
  have a5 := heap_setCell_same _ b 5 _ _ y5 a4
  refine ⟨by simpa using a5, ?_⟩
  exact (((((Keeps.setCell _ _ _ (S := fun z => z = b) rfl).trans (Keeps.setCell _ _ _ (S := fun z => z = b) rfl) fun _ _ h => h).trans (Keeps.setCell _ _ _ (S := fun z => z = b) rfl) fun _ _ h => h).trans (Keeps.setCell _ _ _ (S := fun z => z = b) rfl) fun _ _ h => h).trans (Keeps.setCell _ _ _ (S := fun z => z = b) rfl) fun _ _ h => h).trans (Keeps.setCell _ _ _ (S := fun z => z = b) rfl) fun _ _ h => h
def StdV (ma : Option Addr) (mn mc cols : Nat) (ba : Option Addr) (bc : Nat) (ca : Option Addr) (cc own : Nat) (la : Option Addr) (lc : Nat) : Value := .agg #[.slice ma mn mc, .int .i64 cols, .slice ba mn bc, .slice ca cols cc, .int .i64 own, .slice la mn lc]
def StdR (cn rn : Nat) (cost : List Rat) (rows : List PRow) (w : World) (e : Ending) (w' : World) : Prop := ∃ ma mc cols ba bc ca cc la lc ms bs cs ls, e = .returned (.tuple #[StdV ma rn mc cols ba bc ca cc cn la lc, .nilIface]) ∧ StdW w' ma rn mc cols ba bc ca cc la lc ms bs cs ls ∧ IsStd cn cost rows cols ms bs cs ls ∧ Below w.heap.size w w'
set_option maxRecDepth 100000 in
set_option maxHeartbeats 16000000 in
theorem standard_ok (ca : Option Addr) (cn cc : Nat) (ra : Option Addr) (rn rc : Nat) (cs : List Rv) (rows : List PRow) (w : World) (h : PrW w ca cn cc ra rn rc cs rows) (hf : mayF cn rows = noF) : Calls Try.prog 21 #[.agg #[.slice ca cn cc, .slice ra rn rc]] w (StdR cn rn (qs cs) rows w) := by
  obtain ⟨hcn, hrl, hrows⟩ := mayF_ok hf
  obtain ⟨ti, hi1, hi2, hi3, hi4⟩ := info_parts Try.infoInt
  obtain ⟨tr, hr1, hr2, hr3, hr4⟩ := info_parts Try.infoRat
  obtain ⟨tv, hv1, hv2, hv3, hv4⟩ := info_parts Try.infoVec
  rw [h.len] at hrl
  obtain ⟨w1, hw1⟩ : ∃ w1, (w.alloc (.cells #[.slice ca cn cc, .slice ra rn rc] 31)).alloc (.cells #[.slice none 0 0, .int .i64 0, .slice none 0 0, .slice none 0 0, .int .i64 0, .slice none 0 0] 59) = w1 := ⟨_, rfl⟩
  have hp1 : w1.heap[w.heap.size]? = some (.cells #[.slice ca cn cc, .slice ra rn rc] 31 (0, 0)) := by rw [← hw1]; exact (heap2 w _ _).1
  have ho1 : w1.heap[w.heap.size + 1]? = some (.cells #[.slice none 0 0, .int .i64 0, .slice none 0 0, .slice none 0 0, .int .i64 0, .slice none 0 0] 59 (0, 0)) := by rw [← hw1]; exact (heap2 w _ _).2
  have hb1 : Below w.heap.size w w1 := by rw [← hw1]; exact belowBox2 w _ _
  obtain ⟨ob, hob⟩ : ∃ ob, w.heap.size + 1 = ob := ⟨_, rfl⟩
  obtain ⟨pb, hpb⟩ : ∃ pb, w.heap.size = pb := ⟨_, rfl⟩
  rw [hob] at ho1
  rw [hpb] at hp1
  have HG := Lib.hid (show w.heap.size ≤ pb ∧ w.heap.size ≤ ob from ⟨by omega, by omega⟩)
  have HMAY := Lib.hid (may_any ca cn cc ra rn rc cs rows w1 (h.below hb1))
  have HP1 := Lib.hid hp1
  have HO1 := Lib.hid ho1
  have HB1 := Lib.hid hb1
  have HW1 := Lib.hid hw1
  have HOBE := Lib.hid hob
  have HPBE := Lib.hid hpb
  rw [hf] at HMAY
  have HLEN := Lib.hid h.len
  have HP := Lib.hid (fun (W : World) (hb : Below w.heap.size w W) => h.below hb)
  have HROWS := Lib.hid hrows
  clear h hp1 ho1 hb1 hw1 hob hpb hf hrows
  go_enter Try.func21, Try.ntmps21
  go_upto_region 1 with fail
  (try simp only [HW1.out])
  (try simp only [HOBE.out])
  (try simp only [HPBE.out])
  clear HW1 HOBE HPBE
  have k0 := cell_of_block (j := 0) HP1.out rfl
  have k1 := cell_of_block (j := 1) HP1.out rfl
  go_wp2_with fail
  refine HMAY.out.mono ?_
  rintro e w2 ⟨v, rfl, hev, hb⟩
  clear k0 k1 HMAY
  obtain rfl := hev.isNil
  clear hev
  have hp2 := (hb.block pb (lt_of_block HP1.out)).trans HP1.out
  have ho2 := (hb.block ob (lt_of_block HO1.out)).trans HO1.out
  have p0 := cell_of_block (j := 0) hp2 rfl
  have p1 := cell_of_block (j := 1) hp2 rfl
  have hb12 := bthen HB1.out hb
  have hal := belowBox w2 (.cells #[.slice none 0 0, .int .i64 0, .slice none 0 0, .slice none 0 0, .int .i64 cn, .slice none 0 0] 59)
  have HST := Lib.hid (show St1 w pb ob w2.heap.size #[.slice ca cn cc, .slice ra rn rc] (.slice none 0 0) cn none 0 0 [] [] none 0 0 [] (w2.alloc (.cells #[.slice none 0 0, .int .i64 0, .slice none 0 0, .slice none 0 0, .int .i64 cn, .slice none 0 0] 59)) from
    ⟨(hal.block _ (lt_of_block hp2)).trans hp2, (hal.block _ (lt_of_block ho2)).trans ho2, heap_alloc_new w2 _, ⟨by simpa using Mid.nil _ _ 40 3, rfl, fun _ h => (by cases h), rfl, bthen hb12 hal⟩, ⟨by simpa using Mid.nil _ _ 3 1, rfl, bthen hb12 hal⟩, HG.out.2, hb12.size, Nat.ne_of_lt (lt_of_block ho2)⟩)
  have HPL := Lib.hid (Nat.le_of_lt (lt_of_block hp2))
  clear hp2 ho2 hb12 hal hb HB1 HP1 HO1
  go_upto_region 6 with fail
  have p1b : (w2.alloc (.cells #[.slice none 0 0, .int .i64 0, .slice none 0 0, .slice none 0 0, .int .i64 cn, .slice none 0 0] 59)).cell? ⟨pb, 1, none⟩ = some (.slice ra rn rc) := cell_of_block (j := 1) HST.out.p rfl
  generalize w2.heap.size = sb at HST HPL ⊢
  generalize w2.alloc (.cells #[.slice none 0 0, .int .i64 0, .slice none 0 0, .slice none 0 0, .int .i64 cn, .slice none 0 0] 59) = w3a at HST p1b ⊢
  clear p0 p1
  go_wp2_with fail
  clear p1b
  go_loopw [7, 31] (fun nv iv wr => ∃ (k : Nat) (ba : Option Addr) (bc : Nat) (bs : List Rv) (la : Option Addr) (lc : Nat), k ≤ rn ∧ iv = .int .i64 k ∧ nv = .int .i64 ((cn + slacks ((rows.map (·.kind)).take k) : Nat) : Int) ∧ St1 w pb ob sb #[.slice ca cn cc, .slice ra rn rc] (.slice none 0 0) cn ba k bc bs ((rows.map (·.rhs.q)).take k) la k lc (lefts cn ((rows.map (·.kind)).take k)) wr) (fun _ iv _ => rn - (intOf iv).toNat)
  case atStart => exact ⟨0, none, 0, [], none, 0, Nat.zero_le _, rfl, by simp [slacks], HST.out⟩
  case round =>
    obtain ⟨k, ba, bc, bs, la, lc, hk, rfl, rfl, hst⟩ := hrel
    by_cases hlt : k < rn
    · obtain ⟨b, o, r, e1, e2, _, x0, x1, x2, x3, x4, hok⟩ := (HP.out wr hst.b.bel).get k hlt
      have hkl : k < (rows.map (·.kind)).length := by rw [List.length_map, HLEN.out]; exact hlt
      have hkk : (rows.map (·.kind))[k] = r.kind := by rw [List.getElem_map]; exact congrArg PRow.kind (List.getElem?_eq_some_iff.1 e2).2
      have htk : (rows.map (·.kind)).take (k + 1) = (rows.map (·.kind)).take k ++ [r.kind] := by rw [List.take_succ_eq_append_getElem hkl, hkk]
      have htq : (rows.map (·.rhs.q)).take (k + 1) = (rows.map (·.rhs.q)).take k ++ [r.rhs.q] := by
        rw [List.take_succ_eq_append_getElem (by rw [List.length_map, HLEN.out]; exact hlt), List.getElem_map, (List.getElem?_eq_some_iff.1 e2).2]
      have hsl := slacks_le ((rows.map (·.kind)).take k)
      have hsl2 : ((rows.map (·.kind)).take k).length ≤ 20 := by rw [List.length_take]; omega
      have hb3 := belowBox wr (.cells #[.slice r.a r.n r.c, .int .i64 r.kind, .bool r.rhs.s, .slice r.rhs.a r.rhs.l r.rhs.c, .slice r.rhs.b r.rhs.m r.rhs.d] 45)
      have HRB := Lib.hid (heap_alloc_new wr (.cells #[.slice r.a r.n r.c, .int .i64 r.kind, .bool r.rhs.s, .slice r.rhs.a r.rhs.l r.rhs.c, .slice r.rhs.b r.rhs.m r.rhs.d] 45))
      replace HST := Lib.hid (hst.call hb3)
      have HRO := Lib.hid (hok.rhs.below hb3)
      have HTQ := Lib.hid htq
      have i0 : (0 : Int) ≤ (k : Int) := by omega
      have i1 : (k : Int) < (rn : Int) := by omega
      subst e1
      by_cases hk3 : r.kind = 3
      · have HTL := Lib.hid (show lefts cn ((rows.map (·.kind)).take (k + 1)) = lefts cn ((rows.map (·.kind)).take k) ++ [-1] by rw [htk, lefts_snoc, if_pos hk3])
        have HNV := Lib.hid (show (Value.int .i64 ((cn + slacks ((rows.map (·.kind)).take k) : Nat) : Int)) = .int .i64 ((cn + slacks ((rows.map (·.kind)).take (k + 1)) : Nat) : Int) by rw [htk, slacks_snoc, if_pos hk3]; rfl)
        generalize slacks ((rows.map (·.kind)).take k) = sk at HNV hsl ⊢
        have hkb : (r.kind != 3) = false := by rw [hk3]; rfl
        clear hst hkl hkk htk htq hok e2 hb3 hk3
        go_upto_region 14 with fail
        generalize wr.alloc (.cells #[.slice r.a r.n r.c, .int .i64 r.kind, .bool r.rhs.s, .slice r.rhs.a r.rhs.l r.rhs.c, .slice r.rhs.b r.rhs.m r.rhs.d] 45) = w3 at HST HRB HRO ⊢
        generalize wr.heap.size = rb at HRB ⊢
        clear x0 x1 x2 x3 x4
        have HM3 := Lib.hid (HST.out.l.mid.alloc (.cells #[.int .i64 (-1)] 3))
        have HS3 := Lib.hid (show Src Try.prog 1 57 (.slice (some ⟨w3.heap.size, 0, none⟩) 1 1) 1 [.int .i64 (-1)] (w3.alloc (.cells #[.int .i64 (-1)] 3)) from
          (Sl.lit w3 3 1 1 [.int .i64 (-1)] (by unfold maxLen; omega) rfl).src (P := Try.prog) Try.underlying57 (fun u hu => by rw [List.mem_singleton.1 hu]; rfl))
        have HW3 := Lib.hid (show w.heap.size ≤ (w3.alloc (.cells #[.int .i64 (-1)] 3)).heap.size by have := HST.out.l.bel.size; simp; omega)
        have s5 : (w3.alloc (.cells #[.int .i64 (-1)] 3)).cell? ⟨sb, 5, none⟩ = some (.slice la k lc) := hu (belowBox w3 _) (cell_of_block (j := 5) HST.out.s rfl)
        have t5 := cell_of_block (j := 5) HST.out.s rfl
        go_upto_region 15 with (at_builtin; refine wpList_append_mid (v := .slice la k lc) rfl _ _ 57 57 rfl ti (.int .i64 0) 8 Try.underlying57 hi1 hi2 hi3 hi4 rfl rfl HM3.out _ rfl 1 _ HS3.out (by unfold maxLen; omega) (by omega) HW3.out ?_; intro a4 c4 w4 hmo hgo hbo; obtain ⟨hp1, hp2, hp3, hp4⟩ := HST.out.pushL hmo hgo; have c5 := cell_of_block (j := 5) (hp3.trans HST.out.s) rfl; have f5 : w4.frozen? ⟨sb, 5, none⟩ = false := free_of_block (hp3.trans HST.out.s); have HP1 := Lib.hid hp1; have HP2 := Lib.hid (hp2 _ _ _ HRB.out (by decide) (by decide)); have HP4 := Lib.hid (hp4 _ HRO.out); clear hmo hgo hbo hp1 hp2 hp3 hp4)
        clear s5 t5 c5 f5 HM3 HS3 HW3 HST HRB HRO
        generalize w4.setCell ⟨sb, 5, none⟩ (.slice a4 (k + 1) c4) = w5 at HP1 HP2 HP4 ⊢
        have s2 := cell_of_block (j := 2) HP1.out.s rfl
        have r2 := cell_of_block (j := 2) HP2.out rfl
        have r3 := cell_of_block (j := 3) HP2.out rfl
        have r4 := cell_of_block (j := 4) HP2.out rfl
        have q2 : (w5.alloc (.cells #[.bool r.rhs.s, .slice r.rhs.a r.rhs.l r.rhs.c, .slice r.rhs.b r.rhs.m r.rhs.d] 40)).cell? ⟨sb, 2, none⟩ = some (.slice ba k bc) := hu (belowBox w5 _) s2
        have HM3 := Lib.hid (HP1.out.b.mid.alloc (.cells #[.bool r.rhs.s, .slice r.rhs.a r.rhs.l r.rhs.c, .slice r.rhs.b r.rhs.m r.rhs.d] 40))
        have HS3 := Lib.hid (show Src Try.prog 3 28 (.slice (some ⟨w5.heap.size, 0, none⟩) 1 1) 1 r.rhs.cells (w5.alloc (.cells #[.bool r.rhs.s, .slice r.rhs.a r.rhs.l r.rhs.c, .slice r.rhs.b r.rhs.m r.rhs.d] 40)) from
          (Sl.lit w5 40 3 1 r.rhs.cells (by unfold maxLen; omega) rfl).src (P := Try.prog) Try.underlying28 (fun u hu => rv_one [r.rhs] u (by simpa using hu)))
        have HW3 := Lib.hid (show w.heap.size ≤ (w5.alloc (.cells #[.bool r.rhs.s, .slice r.rhs.a r.rhs.l r.rhs.c, .slice r.rhs.b r.rhs.m r.rhs.d] 40)).heap.size by have := HP1.out.l.bel.size; simp; omega)
        go_wp2_with (at_builtin; refine wpList_append_mid (v := .slice ba k bc) rfl _ _ 28 28 rfl tr (.agg #[.bool false, .slice none 0 0, .slice none 0 0]) 56 Try.underlying28 hr1 hr2 hr3 hr4 rfl rfl HM3.out _ rfl 1 _ HS3.out (by unfold maxLen; omega) (by omega) HW3.out ?_; intro a6 c6 w6 hmo hgo hbo; obtain ⟨hp1, hp3⟩ := HP1.out.pushB HP4.out hmo hgo; have c2 := cell_of_block (j := 2) (hp3.trans HP1.out.s) rfl; have f2 : w6.frozen? ⟨sb, 2, none⟩ = false := free_of_block (hp3.trans HP1.out.s); have HPX := Lib.hid hp1; clear hmo hgo hbo hp1 hp3)
        go_roundw
        case rel => exact ⟨k + 1, a6, c6, bs ++ [r.rhs], a4, c4, by omega, by go_num, HNV.out, by rw [HTQ.out, HTL.out]; exact HPX.out⟩
        case measure => simp [intOf]; omega
      · have HTL := Lib.hid (show lefts cn ((rows.map (·.kind)).take (k + 1)) = lefts cn ((rows.map (·.kind)).take k) ++ [((cn + slacks ((rows.map (·.kind)).take k) : Nat) : Int)] by rw [htk, lefts_snoc, if_neg hk3])
        have HNV := Lib.hid (show (Value.int .i64 (((cn + slacks ((rows.map (·.kind)).take k) : Nat) : Int) + 1)) = .int .i64 ((cn + slacks ((rows.map (·.kind)).take (k + 1)) : Nat) : Int) by rw [htk, slacks_snoc, if_neg hk3]; congr 1)
        obtain ⟨nk, hnk⟩ : ∃ nk, cn + slacks ((rows.map (·.kind)).take k) = nk := ⟨_, rfl⟩
        rw [hnk] at HNV HTL ⊢
        have hnk2 : nk ≤ 44 := by omega
        have hkb : (r.kind != 3) = true := by simp [hk3]
        clear hst hkl hkk htk htq hok e2 hb3 hk3 hnk hsl
        go_upto_region 14 with fail
        generalize wr.alloc (.cells #[.slice r.a r.n r.c, .int .i64 r.kind, .bool r.rhs.s, .slice r.rhs.a r.rhs.l r.rhs.c, .slice r.rhs.b r.rhs.m r.rhs.d] 45) = w3 at HST HRB HRO ⊢
        generalize wr.heap.size = rb at HRB ⊢
        clear x0 x1 x2 x3 x4
        have HM3 := Lib.hid (HST.out.l.mid.alloc (.cells #[.int .i64 nk] 3))
        have HS3 := Lib.hid (show Src Try.prog 1 57 (.slice (some ⟨w3.heap.size, 0, none⟩) 1 1) 1 [.int .i64 nk] (w3.alloc (.cells #[.int .i64 nk] 3)) from
          (Sl.lit w3 3 1 1 [.int .i64 nk] (by unfold maxLen; omega) rfl).src (P := Try.prog) Try.underlying57 (fun u hu => by rw [List.mem_singleton.1 hu]; rfl))
        have HW3 := Lib.hid (show w.heap.size ≤ (w3.alloc (.cells #[.int .i64 nk] 3)).heap.size by have := HST.out.l.bel.size; simp; omega)
        have s5 : (w3.alloc (.cells #[.int .i64 nk] 3)).cell? ⟨sb, 5, none⟩ = some (.slice la k lc) := hu (belowBox w3 _) (cell_of_block (j := 5) HST.out.s rfl)
        have t5 := cell_of_block (j := 5) HST.out.s rfl
        go_upto_region 15 with (at_builtin; refine wpList_append_mid (v := .slice la k lc) rfl _ _ 57 57 rfl ti (.int .i64 0) 8 Try.underlying57 hi1 hi2 hi3 hi4 rfl rfl HM3.out _ rfl 1 _ HS3.out (by unfold maxLen; omega) (by omega) HW3.out ?_; intro a4 c4 w4 hmo hgo hbo; obtain ⟨hp1, hp2, hp3, hp4⟩ := HST.out.pushL hmo hgo; have c5 := cell_of_block (j := 5) (hp3.trans HST.out.s) rfl; have f5 : w4.frozen? ⟨sb, 5, none⟩ = false := free_of_block (hp3.trans HST.out.s); have HP1 := Lib.hid hp1; have HP2 := Lib.hid (hp2 _ _ _ HRB.out (by decide) (by decide)); have HP4 := Lib.hid (hp4 _ HRO.out); clear hmo hgo hbo hp1 hp2 hp3 hp4)
        clear s5 t5 c5 f5 HM3 HS3 HW3 HST HRB HRO
        generalize w4.setCell ⟨sb, 5, none⟩ (.slice a4 (k + 1) c4) = w5 at HP1 HP2 HP4 ⊢
        have s2 := cell_of_block (j := 2) HP1.out.s rfl
        have r2 := cell_of_block (j := 2) HP2.out rfl
        have r3 := cell_of_block (j := 3) HP2.out rfl
        have r4 := cell_of_block (j := 4) HP2.out rfl
        have q2 : (w5.alloc (.cells #[.bool r.rhs.s, .slice r.rhs.a r.rhs.l r.rhs.c, .slice r.rhs.b r.rhs.m r.rhs.d] 40)).cell? ⟨sb, 2, none⟩ = some (.slice ba k bc) := hu (belowBox w5 _) s2
        have HM3 := Lib.hid (HP1.out.b.mid.alloc (.cells #[.bool r.rhs.s, .slice r.rhs.a r.rhs.l r.rhs.c, .slice r.rhs.b r.rhs.m r.rhs.d] 40))
        have HS3 := Lib.hid (show Src Try.prog 3 28 (.slice (some ⟨w5.heap.size, 0, none⟩) 1 1) 1 r.rhs.cells (w5.alloc (.cells #[.bool r.rhs.s, .slice r.rhs.a r.rhs.l r.rhs.c, .slice r.rhs.b r.rhs.m r.rhs.d] 40)) from
          (Sl.lit w5 40 3 1 r.rhs.cells (by unfold maxLen; omega) rfl).src (P := Try.prog) Try.underlying28 (fun u hu => rv_one [r.rhs] u (by simpa using hu)))
        have HW3 := Lib.hid (show w.heap.size ≤ (w5.alloc (.cells #[.bool r.rhs.s, .slice r.rhs.a r.rhs.l r.rhs.c, .slice r.rhs.b r.rhs.m r.rhs.d] 40)).heap.size by have := HP1.out.l.bel.size; simp; omega)
        go_wp2_with (at_builtin; refine wpList_append_mid (v := .slice ba k bc) rfl _ _ 28 28 rfl tr (.agg #[.bool false, .slice none 0 0, .slice none 0 0]) 56 Try.underlying28 hr1 hr2 hr3 hr4 rfl rfl HM3.out _ rfl 1 _ HS3.out (by unfold maxLen; omega) (by omega) HW3.out ?_; intro a6 c6 w6 hmo hgo hbo; obtain ⟨hp1, hp3⟩ := HP1.out.pushB HP4.out hmo hgo; have c2 := cell_of_block (j := 2) (hp3.trans HP1.out.s) rfl; have f2 : w6.frozen? ⟨sb, 2, none⟩ = false := free_of_block (hp3.trans HP1.out.s); have HPX := Lib.hid hp1; clear hmo hgo hbo hp1 hp3)
        go_roundw
        case rel => exact ⟨k + 1, a6, c6, bs ++ [r.rhs], a4, c4, by omega, by go_num, HNV.out, by rw [HTQ.out, HTL.out]; exact HPX.out⟩
        case measure => simp [intOf]; omega

    · obtain rfl : k = rn := by omega
      rw [List.take_of_length_le (by rw [List.length_map, HLEN.out]; exact Nat.le_refl _), List.take_of_length_le (by rw [List.length_map, HLEN.out]; exact Nat.le_refl _)] at hst
      rw [List.take_of_length_le (by rw [List.length_map, HLEN.out]; exact Nat.le_refl _)]
      obtain ⟨sl, hsl⟩ : ∃ sl, slacks (rows.map (·.kind)) = sl := ⟨_, rfl⟩
      have hsl2 : sl ≤ 20 := by
        rw [← hsl]
        have := slacks_le (rows.map (·.kind))
        rw [List.length_map, HLEN.out] at this
        omega
      rw [hsl]
      have HSL := Lib.hid hsl
      have HZ1 := Lib.hid (fun (m : Nat) (u : Value) (hu : u ∈ (Builtin.zeroCells (Value.cells (.agg #[.bool false, .slice none 0 0, .slice none 0 0])) m).toList) => rv_one (List.replicate m Rv.zero) u (by rw [← zero_flat]; exact hu))
      have p0 := cell_of_block (j := 0) hst.p rfl
      replace HST := Lib.hid hst
      have HCP := Lib.hid (vcopy_any ca cn cc cs wr (HP.out wr hst.b.bel).cost (by omega))
      clear hst hsl
      go_wp2_with fail
      refine HCP.out.mono ?_
      rintro e w4 ⟨a4, c4, rfl, hvb⟩
      have HVB := Lib.hid hvb
      clear hvb p0 HCP
      go_upto_region 18 with (at_builtin; refine wpList_append_zeros rfl _ _ 28 3 rfl tr (.agg #[.bool false, .slice none 0 0, .slice none 0 0]) 56 .i64 .i64 Try.underlying28 Try.underlying3 hr1 hr2 hr3 hr4 rfl (by decide) HZ1.out rfl HVB.out.mid sl (show (.int .i64 (((cn + sl : Nat) : Int) - (cn : Int)) : Value) = .int .i64 (sl : Int) by congr 1; omega) (by unfold maxLen; omega) (by omega) (by have := HVB.out.bel.size; omega) ?_; intro a5 c5 w5 hmo hgo hbo; have hv5 := HVB.out.push0 hmo hgo; have h5 := HST.out.call hv5.bel; have c3 := cell_of_block (j := 3) h5.s rfl; have f3 : w5.frozen? ⟨sb, 3, none⟩ = false := free_of_block h5.s; have H5 := Lib.hid h5; have HV5 := Lib.hid hv5; clear hmo hgo hbo hv5 h5)
      clear c3 f3
      have HVC := Lib.hid ((HV5.out.rebase HST.out.b.bel).foreign (Foreign.one H5.out.s H5.out.gs) (Keeps.setCell w5 ⟨sb, 3, none⟩ (.slice a5 (cn + sl) c5) (S := fun z => z = sb) rfl) (by decide) (by decide))
      replace HST := Lib.hid (H5.out.setC (.slice a5 (cn + sl) c5))
      clear H5 HV5 HVB
      generalize w5.setCell ⟨sb, 3, none⟩ (.slice a5 (cn + sl) c5) = w6 at HVC HST ⊢
      have p1 := cell_of_block (j := 1) HST.out.p rfl
      have HXB := Lib.hid (XB.nil HST.out.b.bel (cn + sl))
      go_wp2_with fail
      clear p1
      go_loopw [11, 66] (fun xv iv wr => ∃ (q : Nat) (xa : Option Addr) (xc : Nat) (ms : List MRow), q ≤ k ∧ iv = .int .i64 q ∧ xv = .slice xa q xc ∧ XB w (cn + sl) xa q xc ms wr ∧ ms.map (fun r => qs r.vs) = ((rows.zip (lefts cn (rows.map (·.kind)))).map fun x => stdRow (qs x.1.coef) (slacks (rows.map (·.kind))) x.2 x.1.kind).take q ∧ St1 w pb ob sb #[.slice ca cn cc, .slice ra k rc] (.slice a5 (cn + sl) c5) cn ba k bc bs (rows.map (·.rhs.q)) la k lc (lefts cn (rows.map (·.kind))) wr ∧ VB w (qs cs ++ List.replicate sl 0) a5 (cn + sl) c5 (cs ++ List.replicate sl Rv.zero) wr) (fun _ iv _ => k - (intOf iv).toNat)
      case atStart => exact ⟨0, none, 0, [], Nat.zero_le _, rfl, rfl, HXB.out, rfl, HST.out, HVC.out⟩
      case round =>
        obtain ⟨q, xa, xc, ms, hq, rfl, rfl, hxb, hms, hst, hvc⟩ := hrel
        replace HXB := Lib.hid hxb
        replace HST := Lib.hid hst
        replace HVC := Lib.hid hvc
        have HMS := Lib.hid hms
        by_cases hlt : q < k
        · obtain ⟨b, o, r, e1, e2, _, x0, x1, x2, x3, x4, hok⟩ := (HP.out wr hst.b.bel).get q hlt
          have hrn : r.n = cn := (HROWS.out r (List.mem_of_getElem? e2)).1
          rw [hrn] at x0
          have hvec := hok.vec
          rw [hrn] at hvec
          have hll : (lefts cn (rows.map (·.kind))).length = k := by rw [lefts_len, List.length_map, HLEN.out]
          obtain ⟨b2, o2, e3, _, y⟩ := int_get (Sl.ofMid hst.l.mid) q (by rw [hll]; exact hlt) hlt
          obtain ⟨x, hx⟩ : ∃ x, (lefts cn (rows.map (·.kind)))[q]'(by rw [hll]; exact hlt) = x := ⟨_, rfl⟩
          rw [hx] at y
          have hxe : (lefts cn (rows.map (·.kind)))[q]? = some x := by rw [List.getElem?_eq_getElem (by rw [hll]; exact hlt), hx]
          have htg : ((rows.zip (lefts cn (rows.map (·.kind)))).map fun x => stdRow (qs x.1.coef) (slacks (rows.map (·.kind))) x.2 x.1.kind).take (q + 1) = ((rows.zip (lefts cn (rows.map (·.kind)))).map fun x => stdRow (qs x.1.coef) (slacks (rows.map (·.kind))) x.2 x.1.kind).take q ++ [stdRow (qs r.coef) sl x r.kind] := by
            have hz : q < (rows.zip (lefts cn (rows.map (·.kind)))).length := by rw [List.length_zip, hll, HLEN.out, Nat.min_self]; exact hlt
            rw [List.take_succ_eq_append_getElem (by rw [List.length_map]; exact hz), List.getElem_map, List.getElem_zip, hx, (List.getElem?_eq_some_iff.1 e2).2, HSL.out]
          have hlx := lefts_get cn (rows.map (·.kind)) q x hxe
          rw [HSL.out] at hlx
          have HTG := Lib.hid htg
          have i0 : (0 : Int) ≤ (q : Int) := by omega
          have i1 : (q : Int) < (k : Int) := by omega
          have hb7 := belowBox wr (.cells #[.slice r.a cn r.c, .int .i64 r.kind, .bool r.rhs.s, .slice r.rhs.a r.rhs.l r.rhs.c, .slice r.rhs.b r.rhs.m r.rhs.d] 45)
          have HRB := Lib.hid (heap_alloc_new wr (.cells #[.slice r.a cn r.c, .int .i64 r.kind, .bool r.rhs.s, .slice r.rhs.a r.rhs.l r.rhs.c, .slice r.rhs.b r.rhs.m r.rhs.d] 45))
          have HCP := Lib.hid (vcopy_any r.a cn r.c r.coef (wr.alloc (.cells #[.slice r.a cn r.c, .int .i64 r.kind, .bool r.rhs.s, .slice r.rhs.a r.rhs.l r.rhs.c, .slice r.rhs.b r.rhs.m r.rhs.d] 45)) (hvec.below hb7) (by omega))
          have HB7 := Lib.hid hb7
          have HY := Lib.hid (fun (W : World) (hb : Below wr.heap.size wr W) => hu hb y)
          subst e1
          have HE3 := Lib.hid e3
          clear hxb hms hst hvc hok e2 hxe hx htg hb7 hll y hrn hvec
          go_upto_region 22 with fail
          have r0 := cell_of_block (j := 0) HRB.out rfl
          clear x0 x1 x2 x3 x4
          go_wp2_with fail
          refine HCP.out.mono ?_
          rintro e w8 ⟨a8, c8, rfl, hvb⟩
          have HVB := Lib.hid hvb
          clear hvb r0 HCP
          go_upto_region 23 with (at_builtin; refine wpList_append_zeros rfl _ _ 28 3 rfl tr (.agg #[.bool false, .slice none 0 0, .slice none 0 0]) 56 .i64 .i64 Try.underlying28 Try.underlying3 hr1 hr2 hr3 hr4 rfl (by decide) HZ1.out rfl HVB.out.mid sl (show (.int .i64 (((cn + sl : Nat) : Int) - (cn : Int)) : Value) = .int .i64 (sl : Int) by congr 1; omega) (by unfold maxLen; omega) (by omega) (by have := HVB.out.bel.size; omega) ?_; intro a9 c9 w9 hmo hgo hbo; have HVX := Lib.hid (HVB.out.push0 hmo hgo); clear hmo hgo hbo)
          have hb9 := bthen HB7.out HVX.out.bel
          have y := HY.out w9 hb9
          have HR9 := Lib.hid ((HVX.out.bel.block _ (lt_of_block HRB.out)).trans HRB.out)
          have s5 := cell_of_block (j := 5) ((hb9.block sb (lt_of_block HST.out.s)).trans HST.out.s) rfl
          rw [HE3.out] at s5
          have HRE := Lib.hid (bthen HXB.out.bel HB7.out)
          clear HY HVB
          rcases hlx with rfl | ⟨hx1, hx2⟩
          · have hq := HVX.out.q
            replace HVX := Lib.hid (show VB w (stdRow (qs r.coef) sl (-1) r.kind) a9 (cn + sl) c9 (r.coef ++ List.replicate sl Rv.zero) w9 from HVX.out.rebase HRE.out)
            replace HXB := Lib.hid (HXB.out.call hb9)
            replace HST := Lib.hid (HST.out.call hb9)
            replace HVC := Lib.hid (HVC.out.call hb9)
            clear hb9 HB7 HRB HRE hq
            generalize wr.heap.size = rb at HR9 ⊢
            go_upto_region 26 with fail
            clear s5 y HR9
            have HM3 := Lib.hid (HXB.out.mid.alloc (.cells #[.slice a9 (cn + sl) c9] 28))
            have HS3 := Lib.hid (show Src Try.prog 1 54 (.slice (some ⟨w9.heap.size, 0, none⟩) 1 1) 1 [.slice a9 (cn + sl) c9] (w9.alloc (.cells #[.slice a9 (cn + sl) c9] 28)) from
              (Sl.lit w9 28 1 1 [.slice a9 (cn + sl) c9] (by unfold maxLen; omega) rfl).src (P := Try.prog) Try.underlying54 (fun u hu => by rw [List.mem_singleton.1 hu]; rfl))
            have HW3 := Lib.hid (show w.heap.size ≤ (w9.alloc (.cells #[.slice a9 (cn + sl) c9] 28)).heap.size by have := HXB.out.bel.size; simp; omega)
            go_wp2_with (at_builtin; refine wpList_append_mid (v := .slice xa q xc) rfl _ _ 54 54 rfl tv (.slice none 0 0) 24 Try.underlying54 hv1 hv2 hv3 hv4 rfl rfl HM3.out _ rfl 1 _ HS3.out (by unfold maxLen; omega) (by omega) HW3.out ?_; intro a4 c4 w4 hmo hgo hbo; have HMO := Lib.hid hmo; have HGO := Lib.hid hgo; clear hmo hgo hbo)
            go_roundw
            case rel =>
              have hk4 := grown_keeps HGO.out
              have hf4 := Foreign.mid HXB.out.mid
              refine ⟨q + 1, a4, c4, ms ++ [⟨a9, cn + sl, c9, r.coef ++ List.replicate sl Rv.zero⟩], by omega, by go_num, rfl, ?_, ?_, HST.out.foreign hf4 hk4, HVC.out.foreign hf4 hk4 (by decide) (by decide)⟩
              · exact XB.push (r := ⟨a9, cn + sl, c9, r.coef ++ List.replicate sl Rv.zero⟩) HXB.out HVX.out.mid HVX.out.len HVX.out.ok rfl HMO.out HGO.out
              · rw [List.map_append, HMS.out, HTG.out]
                exact congrArg (fun z => _ ++ [z]) HVX.out.q
            case measure => simp [intOf]; omega
          · obtain ⟨B, rfl⟩ : ∃ B : Nat, x = (B : Int) := ⟨x.toNat, by omega⟩
            have hBl : B < cn + sl := by omega
            obtain ⟨g, o9, v0, rfl, _, _, _⟩ := HVX.out.vec.get B hBl
            have j0 : (0 : Int) ≤ (B : Int) := by omega
            have j1 : (B : Int) < ((cn + sl : Nat) : Int) := by omega
            have r1 := cell_of_block (j := 1) HR9.out rfl
            clear hb9
            go_wp2_with fail
            refine (sign_any r.kind _).mono ?_
            rintro e w10 ⟨rfl, rfl⟩
            go_wp2_with fail
            refine (vint_any (signK r.kind) _ (by unfold signK I64; split <;> omega)).mono ?_
            rintro e w11 ⟨v, rfl, ho, hqq, hb⟩
            unfold Rv.val
            replace HVX := Lib.hid (HVX.out.call hb)
            have HVO := Lib.hid ho
            have HVQ := Lib.hid hqq
            clear hb ho hqq s5 y r1 HR9 HRB
            obtain ⟨z0, z1, z2⟩ := HVX.out.cell hBl
            obtain ⟨y0, z0⟩ := Option.isSome_iff_exists.1 z0
            obtain ⟨y1, z1⟩ := Option.isSome_iff_exists.1 z1
            obtain ⟨y2, z2⟩ := Option.isSome_iff_exists.1 z2
            have f0 := HVX.out.mid.frozen (o9 + B * 3)
            have f1 := HVX.out.mid.frozen (o9 + B * 3 + 1)
            have f2 := HVX.out.mid.frozen (o9 + B * 3 + 2)
            go_upto_region 26 with fail
            clear z0 z1 z2 f0 f1 f2
            have hvs := HVX.out.set hBl HVO.out
            rw [HVQ.out] at hvs
            have hb9 := bthen HB7.out hvs.bel
            replace HVX := Lib.hid (show VB w (stdRow (qs r.coef) sl (B : Int) r.kind) (some ⟨g, o9, none⟩) (cn + sl) c9 ((r.coef ++ List.replicate sl Rv.zero).set B v) _ from by
              have h9 := hvs.rebase HRE.out
              unfold stdRow
              rw [if_pos (by omega), Int.toNat_natCast]
              exact h9)
            replace HXB := Lib.hid (HXB.out.call hb9)
            replace HST := Lib.hid (HST.out.call hb9)
            replace HVC := Lib.hid (HVC.out.call hb9)
            clear hb9 HB7 HRE hvs HVQ HVO
            generalize wr.heap.size = rb
            generalize (((w11.setCell ⟨g, o9 + B * 3, none⟩ (.bool v.s)).setCell ⟨g, o9 + B * 3 + 1, none⟩ (.slice v.a v.l v.c)).setCell ⟨g, o9 + B * 3 + 2, none⟩ (.slice v.b v.m v.d)) = w9 at HVX HXB HST HVC ⊢
            have HM3 := Lib.hid (HXB.out.mid.alloc (.cells #[.slice (some ⟨g, o9, none⟩) (cn + sl) c9] 28))
            have HS3 := Lib.hid (show Src Try.prog 1 54 (.slice (some ⟨w9.heap.size, 0, none⟩) 1 1) 1 [.slice (some ⟨g, o9, none⟩) (cn + sl) c9] (w9.alloc (.cells #[.slice (some ⟨g, o9, none⟩) (cn + sl) c9] 28)) from
              (Sl.lit w9 28 1 1 [.slice (some ⟨g, o9, none⟩) (cn + sl) c9] (by unfold maxLen; omega) rfl).src (P := Try.prog) Try.underlying54 (fun u hu => by rw [List.mem_singleton.1 hu]; rfl))
            have HW3 := Lib.hid (show w.heap.size ≤ (w9.alloc (.cells #[.slice (some ⟨g, o9, none⟩) (cn + sl) c9] 28)).heap.size by have := HXB.out.bel.size; simp; omega)
            go_wp2_with (at_builtin; refine wpList_append_mid (v := .slice xa q xc) rfl _ _ 54 54 rfl tv (.slice none 0 0) 24 Try.underlying54 hv1 hv2 hv3 hv4 rfl rfl HM3.out _ rfl 1 _ HS3.out (by unfold maxLen; omega) (by omega) HW3.out ?_; intro a4 c4 w4 hmo hgo hbo; have HMO := Lib.hid hmo; have HGO := Lib.hid hgo; clear hmo hgo hbo)
            go_roundw
            case rel =>
              have hk4 := grown_keeps HGO.out
              have hf4 := Foreign.mid HXB.out.mid
              refine ⟨q + 1, a4, c4, ms ++ [⟨some ⟨g, o9, none⟩, cn + sl, c9, (r.coef ++ List.replicate sl Rv.zero).set B v⟩], by omega, by go_num, rfl, ?_, ?_, HST.out.foreign hf4 hk4, HVC.out.foreign hf4 hk4 (by decide) (by decide)⟩
              · exact XB.push (r := ⟨some ⟨g, o9, none⟩, cn + sl, c9, (r.coef ++ List.replicate sl Rv.zero).set B v⟩) HXB.out HVX.out.mid HVX.out.len HVX.out.ok rfl HMO.out HGO.out
              · rw [List.map_append, HMS.out, HTG.out]
                exact congrArg (fun z => _ ++ [z]) HVX.out.q
            case measure => simp [intOf]; omega
        · obtain rfl : q = k := by omega
          have hll : (lefts cn (rows.map (·.kind))).length = q := by rw [lefts_len, List.length_map, HLEN.out]
          rw [List.take_of_length_le (by rw [List.length_map, List.length_zip, hll, HLEN.out, Nat.min_self]; exact Nat.le_refl _)] at hms
          have HMT := Lib.hid hms
          have HLL := Lib.hid hll
          have HOF := mof_any xa q xc (cn + sl) ms wr hxb.mat (by omega) (by omega)
          rw [Int.natCast_add] at HOF
          replace HOF := Lib.hid HOF
          clear hxb hms hst hvc hll HMS
          go_wp2_with fail
          refine HOF.out.mono ?_
          rintro e w10 ⟨ma, mc, gs, rfl, hmb⟩
          have HMB := Lib.hid (hmb.rebase HST.out.b.bel)
          replace HST := Lib.hid (HST.out.call hmb.bel)
          replace HVC := Lib.hid (HVC.out.call hmb.bel)
          clear hmb HOF HXB
          have c0 := cell_of_block (j := 0) HST.out.s rfl
          have c1 := cell_of_block (j := 1) HST.out.s rfl
          have f0 : w10.frozen? ⟨sb, 0, none⟩ = false := free_of_block HST.out.s
          have f1 : w10.frozen? ⟨sb, 1, none⟩ = false := free_of_block HST.out.s
          go_upto_region 29 with fail
          clear c0 c1 f0 f1
          have hs1 := heap_setCell_same _ sb 1 _ _ (.int .i64 ((cn : Int) + (sl : Int))) (heap_setCell_same w10 sb 0 _ _ (.slice ma q mc) HST.out.s)
          have hkA : Keeps w10 ((w10.setCell ⟨sb, 0, none⟩ (.slice ma q mc)).setCell ⟨sb, 1, none⟩ (.int .i64 ((cn : Int) + (sl : Int)))) (fun z => z = sb) := (Keeps.setCell _ _ _ (S := fun z => z = sb) rfl).trans (Keeps.setCell _ _ _ (S := fun z => z = sb) rfl) fun _ _ h => h
          have hfA := Foreign.one HST.out.s HST.out.gs
          have ho := (hkA.block ob (lt_of_block HST.out.o) HST.out.ne).trans HST.out.o
          replace HMB := Lib.hid (HMB.out.foreign hfA hkA (by decide) (by decide) (by decide))
          replace HVC := Lib.hid (HVC.out.foreign hfA hkA (by decide) (by decide))
          have HVBB := Lib.hid (HST.out.b.foreign hfA hkA (by decide) (by decide))
          have HIB := Lib.hid (HST.out.l.foreign hfA hkA (by decide))
          have HGO := Lib.hid HST.out.go
          simp only [List.setIfInBounds_toArray, List.set_cons_zero, List.set_cons_succ] at hs1
          clear hkA hfA HST
          generalize (w10.setCell ⟨sb, 0, none⟩ (.slice ma q mc)).setCell ⟨sb, 1, none⟩ (.int .i64 ((cn : Int) + (sl : Int))) = w11 at HMB HVC HVBB HIB hs1 ho ⊢
          have s0 := cell_of_block (j := 0) hs1 rfl
          have s1 := cell_of_block (j := 1) hs1 rfl
          have s2 := cell_of_block (j := 2) hs1 rfl
          have s3 := cell_of_block (j := 3) hs1 rfl
          have s4 := cell_of_block (j := 4) hs1 rfl
          have s5 := cell_of_block (j := 5) hs1 rfl
          have q0 := cell_of_block (j := 0) ho rfl
          have q1 := cell_of_block (j := 1) ho rfl
          have q2 := cell_of_block (j := 2) ho rfl
          have q3 := cell_of_block (j := 3) ho rfl
          have q4 := cell_of_block (j := 4) ho rfl
          have q5 := cell_of_block (j := 5) ho rfl
          have f0 := fun j => (free_of_block (j := j) ho)
          have g0 := f0 0
          have g1 := f0 1
          have g2 := f0 2
          have g3 := f0 3
          have g4 := f0 4
          have g5 := f0 5
          have HO := Lib.hid ho
          clear f0 hs1 ho
          go_wp2_with fail
          obtain ⟨hs, hk⟩ := six_set w11 ob _ _ _ _ _ _ (.slice ma q mc) (.int .i64 ((cn : Int) + (sl : Int))) (.slice ba q bc) (.slice a5 (cn + sl) c5) (.int .i64 cn) (.slice la q lc) 59 HO.out
          have j0 := cell_of_block (j := 0) hs rfl
          have j1 := cell_of_block (j := 1) hs rfl
          have j2 := cell_of_block (j := 2) hs rfl
          have j3 := cell_of_block (j := 3) hs rfl
          have j4 := cell_of_block (j := 4) hs rfl
          have j5 := cell_of_block (j := 5) hs rfl
          refine bodyPost_ret (v := .tuple #[StdV ma q mc (cn + sl) ba bc a5 c5 cn la lc, .nilIface]) (by simp [results, Try.results21, go_sem, j0, j1, j2, j3, j4, j5, StdV]) rfl ?_
          have hf := Foreign.one HO.out HGO.out
          have hmb := HMB.out.foreign hf hk (by decide) (by decide) (by decide)
          have hvc := HVC.out.foreign hf hk (by decide) (by decide)
          have hvb := HVBB.out.foreign hf hk (by decide) (by decide)
          have hib := HIB.out.foreign hf hk (by decide)
          obtain ⟨ns, hns, hnv⟩ := hmb.mat (by unfold maxLen; omega)
          have hzn : ns.map (fun r => qs r.vs) = ms.map (fun r => qs r.vs) := by
            have h9 := congrArg (List.map qs) hnv
            rw [List.map_map, List.map_map] at h9
            exact h9
          have hzt := hzn.trans HMT.out
          exact ⟨ma, mc, cn + sl, ba, bc, a5, c5, la, lc, ns, bs, cs ++ List.replicate sl Rv.zero, lefts cn (rows.map (·.kind)), rfl, ⟨hns, hvb.vec, hvc.vec, Sl.ofMid hib.mid, HLL.out⟩, ⟨by rw [HSL.out], rfl, hvb.q, by rw [HSL.out]; exact hvc.q, hzt⟩, hib.bel⟩
end Go.Proofs.Ytndndfobkbeolaa
